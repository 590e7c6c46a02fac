/- What the functions answer in M2: all places, by all ways. -/
import Derived.Test.YtcehbpimdngjfaaDoorCj
import Derived.Test.YtcehbpimdngjfaaDoorCh
set_option linter.unusedSimpArgs false
set_option linter.unusedVariables false
set_option linter.unusedSectionVars false
namespace Go.Proofs.YtcehbpimdngjfaaDoor.M2
open Go
attribute [local simp] ev1 M2.get put A.ev ld sub part elems bin arith un opt idx fillC cellsO splice over newOb sto fillR laidOwn appTo appRow touch touchN touchM touchE touchA plainU flatU plainAs allM rowAt stoRow accM_nil accM_cons accMM_nil accMM_cons frz_int frz_bool frz_str frz_slt frz_nils frz_nilI frz_nilF frz_own frzRow_row frzRow_frow Ob.blw blw_bool blw_int blw_str blw_nils blw_nilI blw_nilF blw_nilp blw_nilm blw_sl blw_own blw_bp blw_rp blw_mp blw_it params
attribute [local simp] frz_agg frz_tup frz_iface frzS_agg frzS_iface accMS_cons frzS_int frzS_bool frzS_str frzS_slt frzS_nils frzS_nilI beq_dec bne_dec
def fsU (x : FS) : List U := [i64 x.1, i64 x.2]
theorem brw_way (st : List Ob) (w : Way) : brw frzD st (.agg (wayU w)) = some (.agg (wayU w)) := by
  have h := brw_tab st w.2
  rw [frzD, brw] at h ⊢
  simp only [Option.bind_eq_some_iff, Option.some.injEq, U.agg.injEq] at h ⊢
  obtain ⟨cs, h1, rfl⟩ := h
  refine ⟨wayU w, ?_, rfl⟩
  unfold wayU
  simp only [M2.allM, h1, Option.bind_some]
  rfl
set_option maxHeartbeats 4000000 in
theorem out_entry (w : Way) (hw : w.2.length = 24) (ns : List Node) (st : List Ob) : Cl T n_value_out [.agg (skelU w ns), .agg (edgeU (-1, 0))] st (.tup [.agg (wayU w), .bool true]) st := by
  have hbr : brw frzD st (.agg (skelU w ns)) = some (.agg (skelU w ns)) := brw_skel st w ns
  refine Wp.pure (fn := c_value_out) rfl rfl rfl («as» := [.agg (skelU w ns), .agg (edgeU (-1, 0))]) (by simp [hbr]; rfl) ?_
  have wl := wayU_len hw
  have sl := skel_len hw ns
  have wt : (wayU w).take 25 = wayU w := by rw [List.take_of_length_le]; omega
  have t25 : (skelU w ns).take 25 = wayU w := by
    unfold skelU
    rw [List.take_append_of_le_length (by omega), List.take_of_length_le (by omega)]
  (all_goals have := fa (a5 @edgeU.eq_1 sl t25 wl @over_full); repeat' first | refine Wp.v ?_ | (refine Wp.c ?_ ?_ <;> intro))
  refine Wp.ret ?_
  simp [Res, resU, res1, c_value_out, wl, wt, acc_way10]
set_option maxHeartbeats 4000000 in
theorem out_node (w : Way) (hw : w.2.length = 24) (ns : List Node) (m k at_ : Nat) (o : Option (List Way)) (x : Way) (hm : ns[m]? = some (at_, o)) (hk : (o.getD [])[k]? = some x) (hx : x.2.length = 24) (st : List Ob) : Cl T n_value_out [.agg (skelU w ns), .agg (edgeU ((m : Int), (k : Int)))] st (.tup [.agg (wayU x), .bool true]) st := by
  have hbr : brw frzD st (.agg (skelU w ns)) = some (.agg (skelU w ns)) := brw_skel st w ns
  refine Wp.pure (fn := c_value_out) rfl rfl rfl («as» := [.agg (skelU w ns), .agg (edgeU ((m : Int), (k : Int)))]) (by simp [hbr]; rfl) ?_
  have wl := wayU_len hw
  have xl := wayU_len hx
  have xt : (wayU x).take 25 = wayU x := by rw [List.take_of_length_le]; omega
  have d25 := drop25 hw
  have hmn := (List.getElem?_eq_some_iff.1 hm).1
  have hkn := (List.getElem?_eq_some_iff.1 hk).1
  have hou : outsU o = .sl true ((o.getD []).map wayU) := rfl
  generalize o.getD [] = os at *
  have hm' : (m : Int) < ns.length := by omega
  have hk' : (k : Int) < os.length := by omega
  have e1 : ¬ (m : Int) = -1 := by omega
  have e2 : ¬ (m : Int) < 0 := by omega
  have e3 : ¬ (k : Int) < 0 := by omega
  have e4 : ¬ (ns.length : Int) ≤ m := by omega
  have e5 : ¬ (os.length : Int) ≤ k := by omega
  (all_goals have := fa (a2 @edgeU.eq_1 e1); repeat' first | refine Wp.v ?_ | (refine Wp.c ?_ ?_ <;> intro))
  refine Wp.draw (by (simp [c_value_out_D0, I.need]) <;> rfl) (by (simp [skelU, edgeU, d25, wl, hm', hm, nodeU, hou, hk', e2, e3, e4, e5]) <;> rfl) (by (simp [skelU, edgeU, d25, wl, hm', hm, nodeU, hou, hk', e2, e3, e4, e5]) <;> rfl) (by (unfold c_value_out_D0); (repeat (first | ((first | apply Dr.op | apply Dr.opN | (apply Dr.opG; exact rfl)); ((simp [skelU, edgeU, d25, wl, hm', hm, nodeU, hou, hk', e2, e3, e4, e5]) <;> rfl); (apply Evt.all; intro; (simp [skelU, edgeU, d25, wl, hm', hm, nodeU, hou, hk', e2, e3, e4, e5]) <;> (try simp (disch := omega) only [wrap_id]) <;> first | exact ⟨rfl, rfl⟩ | exact rfl); ((simp [I.need]) <;> rfl)) | ((first | (apply Dr.opS; exact rfl; decide) | (apply Dr.opS0; exact rfl)); ((simp [I.need]) <;> rfl)))); exact Dr.nil) (by first | decide +kernel | exact rfl) (by (simp [M2.keep]) <;> rfl) ?_
  refine Wp.i ?_ ?_ <;> intro h1
  · cases h1
  repeat refine Wp.a ?_
  refine Wp.draw (by (simp [c_value_out_D1, I.need]) <;> rfl) (by (simp [skelU, edgeU, d25, wl, hm', hm, nodeU, hou, hk', hk, xl, xt, over_full]) <;> rfl) (by (simp [skelU, edgeU, d25, wl, hm', hm, nodeU, hou, hk', hk, xl, xt, over_full]) <;> rfl) (by (unfold c_value_out_D1); (repeat (first | ((first | apply Dr.op | apply Dr.opN | (apply Dr.opG; exact rfl)); ((simp [skelU, edgeU, d25, wl, hm', hm, nodeU, hou, hk', hk, xl, xt, over_full]) <;> rfl); (apply Evt.all; intro; (simp [skelU, edgeU, d25, wl, hm', hm, nodeU, hou, hk', hk, xl, xt, over_full]) <;> (try simp (disch := omega) only [wrap_id]) <;> first | exact ⟨rfl, rfl⟩ | exact rfl); ((simp [I.need]) <;> rfl)) | ((first | (apply Dr.opS; exact rfl; decide) | (apply Dr.opS0; exact rfl)); ((simp [I.need]) <;> rfl)))); exact Dr.nil) (by first | decide +kernel | exact rfl) (by (simp [M2.keep]) <;> rfl) ?_
  refine Wp.ret ?_
  simp [Res, resU, res1, c_value_out, xl, xt, acc_way10]
theorem way_sub {x : Way} {q : Nat} {s : Src} (hs : x.2[q]? = some s) : ((wayU x).drop (1 + q)).take 1 = [srcU s] := by
  obtain ⟨hq, hs⟩ := List.getElem?_eq_some_iff.1 hs
  have h := tabU_sub hq
  rw [hs] at h
  have e : (wayU x).drop (1 + q) = (tabU x.2).drop q := by
    rw [Nat.add_comm]
    rfl
  rw [e, h]
set_option maxHeartbeats 8000000 in
theorem by_entry (p : Bool) (l : List Ins) (w : Way) (hw : GoodT w.2) (ns : List Node) (q : Nat) (hq : q < 24) (S : Option Int) (st : List Ob) : Cl T n_value_by [insL p l, .agg (skelU w ns), .agg (edgeU (-1, 0)), i64 q] st (.agg (fsU (byS (-1) S (w.2.getD q .no)))) st := by
  have hbr : brw frzD st (.agg (skelU w ns)) = some (.agg (skelU w ns)) := brw_skel st w ns
  refine Wp.pure (fn := c_value_by) rfl rfl rfl («as» := [insL p l, .agg (skelU w ns), .agg (edgeU (-1, 0)), i64 q]) (by simp [hbr, insL]; rfl) ?_
  have wl := wayU_len hw.len
  have sl := skel_len hw.len ns
  have t26 : (skelU w ns).take 26 = skelU w ns := by rw [List.take_of_length_le]; omega
  have hout := out_entry w hw.len ns
  have hq' : (q : Int) < 24 := by omega
  have hmay := hw.get hq
  have hs : w.2[q]? = some (w.2.getD q .no) := by rw [List.getD_eq_getElem?_getD, List.getElem?_eq_getElem (by rw [hw.len]; exact hq)]; rfl
  have hsub := way_sub hs
  have hq2 : 1 + q + 1 ≤ 25 := by omega
  have hq3 : q + 1 ≤ 24 := by omega
  generalize w.2.getD q .no = s at *
  have hreg := locReg_call
  cases s with
  | no => cases hmay
  | is n =>
    (repeat' first | refine Wp.t ?_ | ((first | apply Wp.op | apply Wp.opN); (apply Evt.all; intro; (simp [edgeU, sl, t26, wl, over_full, hq', hsub, hq2, hq3, srcU]) <;> (try simp (disch := omega) only [wrap_id]) <;> first | exact ⟨rfl, rfl⟩ | exact rfl)) | (apply Wp.call; exact hout _) | (refine Wp.c ?_ ?_ <;> intro))
    refine Wp.ret ?_
    simp [Res, resU, res1, c_value_by, fsU, byS]
  | was L =>
    have hr := hreg L
    cases h8 : locF 8 L with
    | true =>
      rw [h8] at hr
      (repeat' first | refine Wp.t ?_ | ((first | apply Wp.op | apply Wp.opN); (apply Evt.all; intro; (simp [edgeU, sl, t26, wl, over_full, hq', hsub, hq2, hq3, srcU]) <;> (try simp (disch := omega) only [wrap_id]) <;> first | exact ⟨rfl, rfl⟩ | exact rfl)) | (apply Wp.call; exact hout _) | (apply Wp.call; exact hr _) | (refine Wp.c ?_ ?_ <;> intro))
      refine Wp.ret ?_
      simp [Res, resU, res1, c_value_by, fsU, byS, h8]
    | false =>
      rw [h8] at hr
      (repeat' first | refine Wp.t ?_ | ((first | apply Wp.op | apply Wp.opN); (apply Evt.all; intro; (simp [edgeU, sl, t26, wl, over_full, hq', hsub, hq2, hq3, srcU]) <;> (try simp (disch := omega) only [wrap_id]) <;> first | exact ⟨rfl, rfl⟩ | exact rfl)) | (apply Wp.call; exact hout _) | (apply Wp.call; exact hr _) | (refine Wp.c ?_ ?_ <;> intro))
      refine Wp.ret ?_
      simp [Res, resU, res1, c_value_by, fsU, byS, h8]
set_option maxHeartbeats 8000000 in
theorem by_node (p : Bool) (l : List Ins) (w : Way) (hw : w.2.length = 24) (ns : List Node) (m k at_ : Nat) (o : Option (List Way)) (x : Way) (hm : ns[m]? = some (at_, o)) (hk : (o.getD [])[k]? = some x) (hx : GoodT x.2) (ha : at_ < l.length) (q : Nat) (hq : q < 24) (st : List Ob) :
    Cl T n_value_by [insL p l, .agg (skelU w ns), .agg (edgeU ((m : Int), (k : Int))), i64 q] st (.agg (fsU (byS m (setsF (l.getD at_ default)) (x.2.getD q .no)))) st := by
  have hbr : brw frzD st (.agg (skelU w ns)) = some (.agg (skelU w ns)) := brw_skel st w ns
  refine Wp.pure (fn := c_value_by) rfl rfl rfl («as» := [insL p l, .agg (skelU w ns), .agg (edgeU ((m : Int), (k : Int))), i64 q]) (by simp [hbr, insL]; rfl) ?_
  have wl := wayU_len hw
  have xl := wayU_len hx.len
  have sl := skel_len hw ns
  have d25 := drop25 hw
  have t26 : (skelU w ns).take 26 = skelU w ns := by rw [List.take_of_length_le]; omega
  have hout := out_node w hw ns m k at_ o x hm hk hx.len
  have hq' : (q : Int) < 24 := by omega
  have hmay := hx.get hq
  have hs : x.2[q]? = some (x.2.getD q .no) := by rw [List.getD_eq_getElem?_getD, List.getElem?_eq_getElem (by rw [hx.len]; exact hq)]; rfl
  have hsub := way_sub hs
  have hq2 : 1 + q + 1 ≤ 25 := by omega
  have hq3 : q + 1 ≤ 24 := by omega
  have e2 : ¬ (m : Int) < 0 := by omega
  have hmn := (List.getElem?_eq_some_iff.1 hm).1
  have hm' : (m : Int) < ns.length := by omega
  have hl : l.getD at_ default = l[at_] := by simp [ha]
  have hst := sets_call l[at_]
  have sd25 : (skelU w ns).drop 25 = [.sl true (ns.map nodeU)] := d25 _
  rw [hl]
  generalize x.2.getD q .no = s at *
  cases s with
  | no => cases hmay
  | is n =>
    (repeat' first | refine Wp.t ?_ | ((first | apply Wp.op | apply Wp.opN); (apply Evt.all; intro; (simp [edgeU, sl, t26, xl, over_full, hq', hsub, hq2, hq3, srcU]) <;> (try simp (disch := omega) only [wrap_id]) <;> first | exact ⟨rfl, rfl⟩ | exact rfl)) | (apply Wp.call; exact hout _) | (refine Wp.c ?_ ?_ <;> intro))
    refine Wp.ret ?_
    simp [Res, resU, res1, c_value_by, fsU, byS]
  | was L =>
    rw [byS_was, if_neg e2]
    unfold setsT at hst
    cases hd : setsF l[at_] with
    | none =>
      rw [hd] at hst
      (repeat' first | refine Wp.t ?_ | ((first | apply Wp.op | apply Wp.opN); (apply Evt.all; intro; (simp [insL, edgeU, sl, t26, xl, over_full, hq', hsub, hq2, hq3, srcU, e2, sd25, hm', hm, nodeU, ha, insU_len, insU_take]) <;> (try simp (disch := omega) only [wrap_id]) <;> first | exact ⟨rfl, rfl⟩ | exact rfl)) | (apply Wp.call; exact hout _) | (apply Wp.call; exact hst _) | (refine Wp.c ?_ ?_ <;> intro))
      refine Wp.ret ?_
      simp [Res, resU, res1, c_value_by, fsU]
    | some D =>
      rw [hd] at hst
      by_cases hDL : D = L
      · subst hDL
        (repeat' first | refine Wp.t ?_ | ((first | apply Wp.op | apply Wp.opN); (apply Evt.all; intro; (simp [insL, edgeU, sl, t26, xl, over_full, hq', hsub, hq2, hq3, srcU, e2, sd25, hm', hm, nodeU, ha, insU_len, insU_take]) <;> (try simp (disch := omega) only [wrap_id]) <;> first | exact ⟨rfl, rfl⟩ | exact rfl)) | (apply Wp.call; exact hout _) | (apply Wp.call; exact hst _) | (refine Wp.c ?_ ?_ <;> intro))
        refine Wp.ret ?_
        simp [Res, resU, res1, c_value_by, fsU]
      · (repeat' first | refine Wp.t ?_ | ((first | apply Wp.op | apply Wp.opN); (apply Evt.all; intro; (simp [insL, edgeU, sl, t26, xl, over_full, hq', hsub, hq2, hq3, srcU, e2, sd25, hm', hm, nodeU, ha, insU_len, insU_take, hDL]) <;> (try simp (disch := omega) only [wrap_id]) <;> first | exact ⟨rfl, rfl⟩ | exact rfl)) | (apply Wp.call; exact hout _) | (apply Wp.call; exact hst _) | (refine Wp.c ?_ ?_ <;> intro))
        refine Wp.ret ?_
        simp [Res, resU, res1, c_value_by, fsU, hDL]
theorem Cl.lend {f : Nat} {fn : F} (hT : T f = some fn) (hp : fn.pure = true) {as' bs : List U} {st st' : List Ob} {u : U} (hl : as'.length = bs.length) (hb : allM (brwA frzD st) as' = allM (brwA frzD st) bs) (h : Cl T f bs st u st') : Cl T f as' st u st' :=
  Evt.mono h fun n h => by
    simp only [M2.call, callF, hT, Option.bind_some, hp, if_true] at h ⊢
    rw [hl, hb]
    exact h
def bitsR (c : List Bool) : List (List U) := c.map fun b => [.bool b]
def shS (p : Bool) (l : List Ins) (w : Way) (ns : List Node) (i : Nat) (c : List Bool) : S :=
  ⟨[(0, insL p l), (3, .bp 0 0), (5, .own 1 l.length), (18, .sl true (ns.map nodeU)), (19, i64 (ns.length : Nat)), (20, i64 i)], [.box (skelU w ns), .row 4 1 false (bitsR c)]⟩
theorem sh_blw (w : Way) (ns : List Node) (R : List (List U)) (tag : Nat) (L : Nat) : [Ob.box (skelU w ns), .row tag 1 false R].all (Ob.blw L) = true := by
  show (Ob.blw L (.box (skelU w ns)) && true) = true
  rw [skel_blw]
  rfl
set_option maxHeartbeats 4000000 in
theorem sh_loop (p : Bool) (l : List Ins) (hl : l.length ≤ 200) (w : Way) (ns : List Node) (hns : ns.length ≤ 200) (hlt : ∀ x ∈ ns, x.1 < l.length) :
    Wp T (.loop c_value_built_L0) (shS p l w ns 0 (List.replicate l.length false)) (fun _ => False) (fun _ => False)
      (fun b s' => b = 0 ∧ s' = ⟨[(0, insL p l), (3, .bp 0 0), (5, .own 1 l.length), (18, .sl true (ns.map nodeU)), (19, i64 (ns.length : Nat)), (20, i64 (ns.length : Nat)), (21, .bool false)], [.box (skelU w ns), .row 4 1 false (bitsR (showF l.length ns))]⟩) := by
  refine Wp.count ns.length (fun i => shS p l w ns i ((ns.take i).foldl (fun c x => c.set x.1 (decide (x.2.getD [] = []))) (List.replicate l.length false))) (fun _ => True) (fun i hi _ => ?_) (fun _ => ?_) 0 (by omega) trivial
  · have hi' : (i : Int) < ns.length := by omega
    have hg : ns[i]? = some ns[i] := List.getElem?_eq_getElem hi
    have hx := hlt _ (List.getElem_mem hi)
    have hcl : ((ns.take i).foldl (fun (c : List Bool) (x : Node) => c.set x.1 (decide (x.2.getD [] = []))) (List.replicate l.length false)).length = l.length := by rw [show_len, List.length_replicate]
    rw [List.take_succ_eq_append_getElem hi, List.foldl_append, List.foldl_cons, List.foldl_nil]
    generalize (ns.take i).foldl (fun (c : List Bool) (x : Node) => c.set x.1 (decide (x.2.getD [] = []))) (List.replicate l.length false) = c at *
    generalize ns[i] = x at *
    obtain ⟨at_, o⟩ := x
    have hou : outsU o = .sl true ((o.getD []).map wayU) := rfl
    simp only at hx ⊢
    generalize o.getD [] = os at *
    have hx' : (at_ : Int) < l.length := by omega
    have e1 : ¬ (at_ : Int) < 0 := by omega
    have e2 : ¬ (l.length : Int) ≤ at_ := by omega
    have hset : bitsR (c.set at_ (decide (os = []))) = (bitsR c).set at_ [.bool (decide (os = []))] := by
      unfold bitsR
      rw [List.map_set]
    have hbl : (bitsR c).length = l.length := by rw [← hcl]; simp [bitsR]
    have hbg : ∃ b, (bitsR c)[at_]? = some [.bool b] := by
      have h1 : at_ < c.length := by omega
      exact ⟨c[at_], by simp [bitsR, h1]⟩
    obtain ⟨b0, hbg⟩ := hbg
    simp only [shS]
    rw [hset]
    generalize bitsR c = R at *
    (have := fa hi'; repeat refine Wp.f ?_)
    refine Wp.i ?_ ?_ <;> intro h1
    · (have := fa (a5 @insL.eq_1 hi' hg @nodeU.eq_1 (a3 hou e1 e2)); repeat refine Wp.f ?_)
      refine Wp.i ?_ ?_ <;> intro h2
      · cases h2
      · (have := fa (a5 @insL.eq_1 hou hx' e1 (a4 e2 hbl hbg @wrap_id)); repeat refine Wp.f ?_)
        exact ⟨trim_backs (st := [.box (skelU w ns), .row 4 1 false (R.set at_ [.bool (decide (os = []))])]) (l := [_]) rfl (sh_blw w ns _ 4 _), trivial⟩
    · cases h1
  · rw [List.take_of_length_le (Nat.le_refl _)]
    simp only [shS]
    repeat refine Wp.a ?_
    refine Wp.i ?_ ?_ <;> intro h1
    · simp at h1
    · exact Wp.exit ⟨rfl, rfl⟩
abbrev shT : Sh := .tarr 24 1 (.tifc [(137, .tst [(1, .ti)]), (134, .tst [(1, .ti)])])
theorem items_self {f : List U → List U → Option Bool} : ∀ (us : List U), (∀ u ∈ us, f [u] [u] = some true) → same.items f 1 us.length us us = some true
  | [], _ => rfl
  | u :: us, h => by
    rw [List.length_cons, same.items]
    simp only [List.take_succ_cons, List.take_zero, List.drop_succ_cons, List.drop_zero, h u (by simp), items_self us (fun v hv => h v (by simp [hv]))]
    rfl
theorem tab_same {t : List Src} (h : GoodT t) : same 11 shT (tabU t) (tabU t) = some true := by
  have hl : (tabU t).length = 24 * 1 := by rw [tabU_len, h.len]
  rw [shT, same, if_pos ⟨hl, hl⟩]
  have := items_self (f := same 10 (.tifc [(137, .tst [(1, .ti)]), (134, .tst [(1, .ti)])])) (tabU t) (fun u hu => by
    obtain ⟨s, hs, rfl⟩ := List.mem_map.1 hu
    have := List.all_eq_true.1 h.may s hs
    cases s with
    | was l => simp [srcU, same, List.lookup, cellsS, same.fields]
    | is n => simp [srcU, same, List.lookup, cellsS, same.fields]
    | no => cases this)
  rw [hl] at this
  exact this
theorem way_same {w : Way} (h : GoodT w.2) : sameV (.tst [(1, .ti), (24, shT)]) (.agg (wayU w)) (.agg (wayU w)) = some true := by
  have hl : (tabU w.2).length = 24 := by rw [tabU_len, h.len]
  have hi := tab_same h
  have ht : (tabU w.2).take 24 = tabU w.2 := List.take_of_length_le (by omega)
  have hd : (tabU w.2).drop 24 = [] := List.drop_eq_nil_of_le (by omega)
  show same.fields (same 11) [(1, .ti), (24, shT)] (i64 w.1 :: tabU w.2) (i64 w.1 :: tabU w.2) = some true
  generalize shT = sh at *
  generalize tabU w.2 = t at *
  have h1 : same 11 .ti [i64 w.1] [i64 w.1] = some true := by simp [same]
  rw [same.fields, if_pos (by simp)]
  simp only [List.take_succ_cons, List.take_zero, List.drop_succ_cons, List.drop_zero, h1, Option.bind_some]
  rw [same.fields, if_pos (by omega), ht, hd, hi]
  simp [same.fields]
theorem skelU_rN {w : Way} {ns ms : List Node} (h : ns.map rN = ms.map rN) : skelU w ns = skelU w ms := by
  have : ns.map nodeU = ms.map nodeU := by
    have e : ∀ x : Node, nodeU x = (fun y : RNode => [i64 y.1, .sl true (y.2.map wayU)]) (rN x) := fun x => rfl
    have e2 : ∀ l : List Node, l.map nodeU = (l.map rN).map (fun y : RNode => [i64 y.1, .sl true (y.2.map wayU)]) := fun l => by
      rw [List.map_map]
      exact List.map_congr_left fun x _ => e x
    rw [e2, e2, h]
  unfold skelU
  rw [this]
def b3S (w : Way) (ns : List Node) (R : List (List U)) (at_ : Nat) (os : List Way) (i j : Nat) : S :=
  ⟨[(3, .bp 0 0), (10, i64 i), (68, .sl true (ns.map nodeU)), (69, i64 (ns.length : Nat)), (70, i64 i), (98, .sl true (os.map wayU)), (99, i64 (os.length : Nat)), (100, i64 j)], [.box (skelU w ns), .row 4 1 false R, .box (skelU w ns), .box [i64 at_, .sl true (os.map wayU)]]⟩
set_option maxHeartbeats 8000000 in
theorem b3_loop (w : Way) (hw : w.2.length = 24) (ns : List Node) (R : List (List U)) (at_ : Nat) (o : Option (List Way)) (i : Nat) (hg : ns[i]? = some (at_, o)) (hos : (o.getD []).length ≤ 2) (ho : ∀ x ∈ o.getD [], GoodT x.2) :
    Wp T (.loop c_value_built_L3) (b3S w ns R at_ (o.getD []) i 0) (fun _ => False) (fun _ => False) (fun b s' => b = 4 ∧ s' = ⟨[(3, .bp 0 0), (10, i64 i), (68, .sl true (ns.map nodeU)), (69, i64 (ns.length : Nat)), (70, i64 i), (98, .sl true ((o.getD []).map wayU)), (99, i64 ((o.getD []).length : Nat)), (100, i64 ((o.getD []).length : Nat)), (101, .bool false)], [.box (skelU w ns), .row 4 1 false R, .box (skelU w ns), .box [i64 at_, .sl true ((o.getD []).map wayU)]]⟩) := by
  have hi := (List.getElem?_eq_some_iff.1 hg).1
  have hi' : (i : Int) < ns.length := by omega
  have d25 := drop25 hw
  have wl := wayU_len hw
  have hou : outsU o = .sl true ((o.getD []).map wayU) := rfl
  generalize o.getD [] = os at *
  refine Wp.count os.length (fun j => b3S w ns R at_ os i j) (fun _ => True) (fun j hj _ => ?_) (fun _ => ?_) 0 (by omega) trivial
  · have hj' : (j : Int) < os.length := by omega
    have eg : os[j]? = some os[j] := List.getElem?_eq_getElem hj
    have hx := ho _ (List.getElem_mem hj)
    generalize os[j] = x at *
    have xl := wayU_len hx.len
    have xt : (wayU x).take 25 = wayU x := by rw [List.take_of_length_le]; omega
    have hsm := way_same hx
    simp only [b3S]
    (have := fa hj'; repeat refine Wp.f ?_)
    refine Wp.i ?_ ?_ <;> intro h1
    · (have := fa (a4 hj' eg xl @over_full); repeat refine Wp.f ?_)
      refine Wp.draw (by (simp [c_value_built_D2, I.need]) <;> rfl) (by (simp [skelU, d25, wl, hi', hg, nodeU, hou, hj', eg, xl, xt, hsm]) <;> rfl) (by (simp [skelU, d25, wl, hi', hg, nodeU, hou, hj', eg, xl, xt, hsm]) <;> rfl) (by (unfold c_value_built_D2); (repeat (first | ((first | apply Dr.op | apply Dr.opN | (apply Dr.opG; exact rfl)); ((simp [skelU, d25, wl, hi', hg, nodeU, hou, hj', eg, xl, xt, hsm]) <;> rfl); (apply Evt.all; intro; (simp [skelU, d25, wl, hi', hg, nodeU, hou, hj', eg, xl, xt, hsm]) <;> (try simp (disch := omega) only [wrap_id]) <;> first | exact ⟨rfl, rfl⟩ | exact rfl); ((simp [I.need]) <;> rfl)) | ((first | (apply Dr.opS; exact rfl; decide) | (apply Dr.opS0; exact rfl)); ((simp [I.need]) <;> rfl)))); exact Dr.nil) (by first | decide +kernel | exact rfl) (by (simp [M2.keep]) <;> rfl) ?_
      refine Wp.i ?_ ?_ <;> intro h2
      · cases h2
      · (have := fa @wrap_id; repeat refine Wp.f ?_)
        refine ⟨trim_backs (st := [.box (skelU w ns), .row 4 1 false R, .box (skelU w ns), .box [i64 at_, .sl true (os.map wayU)]]) (l := [_]) rfl ?_, trivial⟩
        show (Ob.blw 4 (.box (skelU w ns)) && (true && (Ob.blw 4 (.box (skelU w ns)) && true))) = true
        rw [skel_blw]
        rfl
    · cases h1
  · simp only [b3S]
    repeat refine Wp.a ?_
    refine Wp.i ?_ ?_ <;> intro h1
    · simp at h1
    · exact Wp.exit ⟨rfl, rfl⟩
def b4S (w : Way) (ns : List Node) (R : List (List U)) (i : Nat) : S :=
  ⟨[(3, .bp 0 0), (68, .sl true (ns.map nodeU)), (69, i64 (ns.length : Nat)), (70, i64 i)], [.box (skelU w ns), .row 4 1 false R, .box (skelU w ns)]⟩
set_option maxHeartbeats 8000000 in
theorem b4_loop (w : Way) (hw : w.2.length = 24) (ns : List Node) (hns : ns.length ≤ 200) (R : List (List U)) (hall : ∀ x ∈ ns, (x.2.getD []).length ≤ 2 ∧ ∀ o ∈ x.2.getD [], GoodT o.2) :
    Wp T (.loop c_value_built_L4) (b4S w ns R 0) (fun _ => False) (fun _ => False) (fun b s' => b = 2 ∧ s' = ⟨[(3, .bp 0 0), (68, .sl true (ns.map nodeU)), (69, i64 (ns.length : Nat)), (70, i64 (ns.length : Nat)), (71, .bool false)], [.box (skelU w ns), .row 4 1 false R, .box (skelU w ns)]⟩) := by
  have d25 := drop25 hw
  have wl := wayU_len hw
  refine Wp.count ns.length (fun i => b4S w ns R i) (fun _ => True) (fun i hi _ => ?_) (fun _ => ?_) 0 (by omega) trivial
  · have hi' : (i : Int) < ns.length := by omega
    have hg : ns[i]? = some ns[i] := List.getElem?_eq_getElem hi
    have hx := hall _ (List.getElem_mem hi)
    generalize ns[i] = x at *
    obtain ⟨at_, o⟩ := x
    have hlp := b3_loop w hw ns R at_ o i hg hx.1 hx.2
    have hou : outsU o = .sl true ((o.getD []).map wayU) := rfl
    simp only at hx
    generalize o.getD [] = os at *
    simp only [b4S]
    (have := fa hi'; repeat refine Wp.f ?_)
    refine Wp.i ?_ ?_ <;> intro h1
    · (have := fa (a4 hi' hg @nodeU.eq_1 hou); repeat refine Wp.f ?_)
      refine Wp.draw (by (simp [c_value_built_D1, I.need]) <;> rfl) (by (simp [skelU, d25, wl, hi', hg, nodeU, hou]) <;> rfl) (by (simp [skelU, d25, wl, hi', hg, nodeU, hou]) <;> rfl) (by (unfold c_value_built_D1); (repeat (first | ((first | apply Dr.op | apply Dr.opN | (apply Dr.opG; exact rfl)); ((simp [skelU, d25, wl, hi', hg, nodeU, hou]) <;> rfl); (apply Evt.all; intro; (simp [skelU, d25, wl, hi', hg, nodeU, hou]) <;> (try simp (disch := omega) only [wrap_id]) <;> first | exact ⟨rfl, rfl⟩ | exact rfl); ((simp [I.need]) <;> rfl)) | ((first | (apply Dr.opS; exact rfl; decide) | (apply Dr.opS0; exact rfl)); ((simp [I.need]) <;> rfl)))); exact Dr.nil) (by first | decide +kernel | exact rfl) (by (simp [M2.keep]) <;> rfl) ?_
      refine Wp.i ?_ ?_ <;> intro h2
      · cases h2
      repeat refine Wp.a ?_
      refine (show Wp T (.loop c_value_built_L3) (b3S w ns R at_ os i 0) _ _ _ from hlp.imp (fun _ h => h.elim) (fun _ h => h.elim) ?_)
      rintro b s ⟨rfl, rfl⟩
      rw [if_pos rfl]
      (have := fa @wrap_id; repeat refine Wp.f ?_)
      refine ⟨trim_backs (st := [.box (skelU w ns), .row 4 1 false R, .box (skelU w ns)]) (l := [_]) rfl ?_, trivial⟩
      show (Ob.blw 3 (.box (skelU w ns)) && (true && (Ob.blw 3 (.box (skelU w ns)) && true))) = true
      rw [skel_blw]
      rfl
    · cases h1
  · simp only [b4S]
    repeat refine Wp.a ?_
    refine Wp.i ?_ ?_ <;> intro h1
    · simp at h1
    · exact Wp.exit ⟨rfl, rfl⟩
set_option maxHeartbeats 8000000 in
theorem built_call (p : Bool) (l : List Ins) (hr : rightF l = true) (cut : List Bool) (st : List Ob) : Cl T n_value_built [insL p l, .agg (skelU (pEntry l) (pNodes l cut))] st (.bool true) st := by
  have hbr : brw frzD st (.agg (skelU (pEntry l) (pNodes l cut))) = some (.agg (skelU (pEntry l) (pNodes l cut))) := brw_skel st _ _
  refine Wp.pure (fn := c_value_built) rfl rfl rfl («as» := [insL p l, .agg (skelU (pEntry l) (pNodes l cut))]) (by simp [hbr, insL]; rfl) ?_
  obtain ⟨f1, f2, f3⟩ := skel_facts (cut := cut) hr
  obtain ⟨h1, h2, h3, h4, h5, h6⟩ := nodes_spec (cut := cut) hr
  have h200 := (right_facts hr).1
  have hgood : GoodT (pEntry l).2 := by rw [h2, pOuts_t]; exact wq_good hr (right_facts hr).2.1
  have hall : ∀ x ∈ pNodes l cut, (x.2.getD []).length ≤ 2 ∧ ∀ o ∈ x.2.getD [], GoodT o.2 := fun x hx => ⟨(f2 x hx).1, fun o ho => by
    rw [h1] at hx
    obtain ⟨i, hi, rfl⟩ := List.mem_map.1 hx
    simp only at ho
    split at ho
    · simp at ho
    · simp only [Option.getD_some] at ho
      obtain ⟨a, ha, rfl⟩ := List.mem_map.1 ho
      rw [pOuts_t]
      exact wq_good hr ((fsAt_ok hr (h5 i hi).1 (h5 i hi).2).1 a ha)⟩
  have hlt : ∀ x ∈ pNodes l cut, x.1 < l.length := fun x hx => by
    rw [h1] at hx
    obtain ⟨i, hi, rfl⟩ := List.mem_map.1 hx
    exact (h5 i hi).1
  have hb := build_call p l hr false (showF l.length (pNodes l cut))
  rw [skelU_rN (show_same hr cut)] at hb
  have hsl : (showF l.length (pNodes l cut)).length = l.length := by
    unfold showF
    rw [show_len, List.length_replicate]
  generalize hcs : showF l.length (pNodes l cut) = cs at *
  generalize pNodes l cut = ns at *
  generalize pEntry l = w at *
  have hlp := sh_loop p l h200 w ns f1 hlt
  have hlp2 := b4_loop w f3 ns f1 (bitsR cs) hall
  have wl := wayU_len f3
  have wt : (wayU w).take 25 = wayU w := by rw [List.take_of_length_le]; omega
  have sl := skel_len f3 ns
  have t26 : (skelU w ns).take 26 = skelU w ns := by rw [List.take_of_length_le]; omega
  have t25 : (skelU w ns).take 25 = wayU w := by
    unfold skelU
    rw [List.take_append_of_le_length (by omega), List.take_of_length_le (by omega)]
  have sd25 : (skelU w ns).drop 25 = [.sl true (ns.map nodeU)] := drop25 f3 _
  have hsm := way_same hgood
  have lim : (l.length : Int) ≤ limit := by
    show (l.length : Int) ≤ 140737488355328
    omega
  rw [hcs] at hlp
  have e0 : bitsR (List.replicate l.length false) = List.replicate l.length [.bool false] := by simp [bitsR]
  unfold shS at hlp
  rw [e0] at hlp
  (have := fa (a4 @insL.eq_1 sl sd25 lim); repeat refine Wp.f ?_)
  refine hlp.imp (fun _ h => h.elim) (fun _ h => h.elim) ?_
  rintro b s ⟨rfl, rfl⟩
  rw [if_pos rfl]
  repeat refine Wp.a ?_
  apply Wp.call
  · exact Cl.lend (fn := c_skel_Build) rfl rfl (bs := [insL p l, boolU false cs]) rfl (by simp [M2.allM, brwA, brw, frzD, insL, boolU, bitsR, hsl]) (hb _)
  (have := fa (a5 sl t26 t25 sd25 (a2 @over_full hsm)); repeat refine Wp.f ?_)
  refine Wp.i ?_ ?_ <;> intro h1
  · cases h1
  (have := fa (a2 sl sd25); repeat refine Wp.f ?_)
  refine (show Wp T (.loop c_value_built_L4) (b4S w ns (bitsR cs) 0) _ _ _ from hlp2.imp (fun _ h => h.elim) (fun _ h => h.elim) ?_)
  rintro b s ⟨rfl, rfl⟩
  rw [if_pos rfl]
  repeat refine Wp.a ?_
  refine Wp.ret ?_
  simp [Res, resU, res1, c_value_built]
theorem good_all {l : List Ins} (hr : rightF l = true) (cut : List Bool) : (∀ x ∈ pNodes l cut, x.1 < l.length ∧ ∀ o ∈ x.2.getD [], GoodT o.2) ∧ GoodT (pEntry l).2 := by
  obtain ⟨h1, h2, h3, h4, h5, h6⟩ := nodes_spec (cut := cut) hr
  refine ⟨fun x hx => ?_, by rw [h2, pOuts_t]; exact wq_good hr (right_facts hr).2.1⟩
  rw [h1] at hx
  obtain ⟨i, hi, rfl⟩ := List.mem_map.1 hx
  refine ⟨(h5 i hi).1, fun o ho => ?_⟩
  simp only at ho
  split at ho
  · simp at ho
  · simp only [Option.getD_some] at ho
    obtain ⟨a, ha, rfl⟩ := List.mem_map.1 ho
    rw [pOuts_t]
    exact wq_good hr ((fsAt_ok hr (h5 i hi).1 (h5 i hi).2).1 a ha)
theorem edge_cases {l : List Ins} {cut : List Bool} {n : Nat} {e : Edge} (he : e ∈ toF (wE l) (rnE l cut) n) : e = (-1, 0) ∨ ∃ (m k at_ : Nat) (o : Option (List Way)) (x : Way), e = ((m : Int), (k : Int)) ∧ (pNodes l cut)[m]? = some (at_, o) ∧ (o.getD [])[k]? = some x := by
  rcases toF_mem he with h | ⟨m, k, y, x, h1, h2, h3⟩
  · exact .inl h
  · rw [List.getElem?_map] at h1
    obtain ⟨⟨at_, o⟩, h4, rfl⟩ := Option.map_eq_some_iff.1 h1
    exact .inr ⟨m, k, at_, o, x, h3, h4, h2⟩
theorem byF_entry (l : List Ins) (w : Way) (rn : List RNode) (q : Nat) : byF l w rn (-1, 0) q = byS (-1) (setsF (l.getD (rn.getD ((-1 : Int)).toNat (0, [])).1 default)) (w.2.getD q .no) := rfl
theorem byF_node (l : List Ins) (w : Way) (ns : List Node) {m k at_ : Nat} {o : Option (List Way)} {x : Way} (hm : ns[m]? = some (at_, o)) (hk : (o.getD [])[k]? = some x) (q : Nat) : byF l w (ns.map rN) ((m : Int), (k : Int)) q = byS m (setsF (l.getD at_ default)) (x.2.getD q .no) := by
  have e1 : (ns.map rN).getD ((m : Int), (k : Int)).1.toNat (0, []) = (at_, o.getD []) := by
    simp only [Int.toNat_natCast]
    rw [List.getD_eq_getElem?_getD, List.getElem?_map, hm]
    rfl
  have e2 : (o.getD []).getD ((m : Int), (k : Int)).2.toNat (0, []) = x := by
    simp only [Int.toNat_natCast]
    rw [List.getD_eq_getElem?_getD, hk]
    rfl
  unfold byF wayOf
  rw [e1, if_neg (by simp only; omega), e2]
theorem by_call (p : Bool) {l : List Ins} (hr : rightF l = true) (cut : List Bool) {n : Nat} {e : Edge} (he : e ∈ toF (wE l) (rnE l cut) n) (q : Nat) (hq : q < 24) (st : List Ob) :
    Cl T n_value_by [insL p l, .agg (skelU (pEntry l) (pNodes l cut)), .agg (edgeU e), i64 q] st (.agg (fsU (byF l (wE l) (rnE l cut) e q))) st := by
  obtain ⟨g1, g2⟩ := good_all hr cut
  rcases edge_cases he with rfl | ⟨m, k, at_, o, x, rfl, hm, hk⟩
  · rw [byF_entry]
    exact by_entry p l _ g2 _ q hq _ st
  · rw [byF_node l _ _ hm hk]
    have h1 := g1 _ (List.mem_of_getElem? hm)
    exact by_node p l _ g2.len _ m k at_ o x hm hk (h1.2 _ (List.mem_of_getElem? hk)) h1.1 q hq st
theorem rsets_call (x : Ins) (st : List Ob) : Cl T n_joineryref03_Sets [.agg (insU x)] st (setsT x) st := by
  refine Wp.pure (fn := c_joineryref03_Sets) rfl rfl rfl («as» := [.agg (insU x)]) rfl ?_
  obtain ⟨op, d, a, b, n, to⟩ := x
  unfold setsT
  by_cases c1 : 4 ≤ op
  · by_cases c2 : op ≤ 13
    · have e : setsF ⟨op, d, a, b, n, to⟩ = some d := if_pos (by simp only; omega)
      rw [e]
      (all_goals have := fa (a3 @insU.eq_1 c1 c2); repeat' first | refine Wp.v ?_ | (refine Wp.c ?_ ?_ <;> intro))
      (all_goals refine Wp.ret ?_); (all_goals (try simp_all [Res, resU, res1, c_joineryref03_Sets])); (all_goals (try omega))
    · by_cases c3 : op = 15
      · have e : setsF ⟨op, d, a, b, n, to⟩ = some d := if_pos (by simp only; omega)
        rw [e]
        subst c3
        (all_goals have := fa @insU.eq_1; repeat' first | refine Wp.v ?_ | (refine Wp.c ?_ ?_ <;> intro))
        (all_goals refine Wp.ret ?_); (all_goals (try simp_all [Res, resU, res1, c_joineryref03_Sets])); (all_goals (try omega))
      · have e : setsF ⟨op, d, a, b, n, to⟩ = none := if_neg (by simp only; omega)
        rw [e]
        (all_goals have := fa (a4 @insU.eq_1 c1 c2 c3); repeat' first | refine Wp.v ?_ | (refine Wp.c ?_ ?_ <;> intro))
        (all_goals refine Wp.ret ?_); (all_goals (try simp_all [Res, resU, res1, c_joineryref03_Sets])); (all_goals (try omega))
  · have c3 : ¬ op = 15 := by omega
    have e : setsF ⟨op, d, a, b, n, to⟩ = none := if_neg (by simp only; omega)
    rw [e]
    (all_goals have := fa (a3 @insU.eq_1 c1 c3); repeat' first | refine Wp.v ?_ | (refine Wp.c ?_ ?_ <;> intro))
    (all_goals refine Wp.ret ?_); (all_goals (try simp_all [Res, resU, res1, c_joineryref03_Sets])); (all_goals (try omega))
theorem ruses_call (x : Ins) (st : List Ob) : Cl T n_joineryref03_Uses [.agg (insU x)] st (intsU (usesF x)) st := by
  refine Wp.pure (fn := c_joineryref03_Uses) rfl rfl rfl («as» := [.agg (insU x)]) rfl ?_
  obtain ⟨op, d, a, b, n, to⟩ := x
  unfold usesF
  by_cases h : 4 ≤ op ∧ op ≤ 18 ∧ ¬ op = 16
  · have hk : op = 4 ∨ op = 5 ∨ op = 6 ∨ op = 7 ∨ op = 8 ∨ op = 9 ∨ op = 10 ∨ op = 11 ∨ op = 12 ∨ op = 13 ∨ op = 14 ∨ op = 15 ∨ op = 17 ∨ op = 18 := by omega
    rcases hk with rfl | rfl | rfl | rfl | rfl | rfl | rfl | rfl | rfl | rfl | rfl | rfl | rfl | rfl
    all_goals
      (all_goals have := fa @insU.eq_1; repeat' first | refine Wp.v ?_ | (refine Wp.c ?_ ?_ <;> intro))
      refine Wp.ret ?_
      simp [Res, resU, res1, c_joineryref03_Uses]
  · have e1 : ¬ ((4 ≤ op ∧ op ≤ 12) ∨ op = 14) := by omega
    have e2 : ¬ (op = 13 ∨ op = 15 ∨ op = 17 ∨ op = 18) := by omega
    have n1 : ¬ op = 13 := by omega
    have n2 : ¬ op = 14 := by omega
    have n3 : ¬ op = 15 := by omega
    have n4 : ¬ op = 17 := by omega
    have n5 : ¬ op = 18 := by omega
    simp only [e1, e2, if_false]
    by_cases c1 : 4 ≤ op
    · have c2 : ¬ op ≤ 12 := by omega
      (all_goals have := fa (a5 @insU.eq_1 c1 c2 n1 (a4 n2 n3 n4 n5)); repeat' first | refine Wp.v ?_ | (refine Wp.c ?_ ?_ <;> intro))
      (all_goals refine Wp.ret ?_); (all_goals (try simp_all [Res, resU, res1, c_joineryref03_Uses])); (all_goals (try omega))
    · (all_goals have := fa (a5 @insU.eq_1 c1 n1 n2 (a3 n3 n4 n5)); repeat' first | refine Wp.v ?_ | (refine Wp.c ?_ ?_ <;> intro))
      (all_goals refine Wp.ret ?_); (all_goals (try simp_all [Res, resU, res1, c_joineryref03_Uses])); (all_goals (try omega))
/-! The document's. -/
set_option maxHeartbeats 8000000 in
theorem rby_entry (p : Bool) (l : List Ins) (w : Way) (hw : GoodT w.2) (rn : List RNode) (q : Nat) (hq : q < 24) (S : Option Int) (st : List Ob) : Cl T n_joineryref11_By [insL p l, .agg (rskelU w rn), .agg (edgeU (-1, 0)), i64 q] st (.agg (fsU (byS (-1) S (w.2.getD q .no)))) st := by
  refine Wp.pure (fn := c_joineryref11_By) rfl rfl rfl («as» := [insL p l, .agg (rskelU w rn), .agg (edgeU (-1, 0)), i64 q]) rfl ?_
  have hq' : (q : Int) < w.2.length := by rw [hw.len]; omega
  have hmay := hw.get hq
  have hs : w.2[q]? = some (w.2.getD q .no) := by rw [List.getD_eq_getElem?_getD, List.getElem?_eq_getElem (by rw [hw.len]; exact hq)]; rfl
  generalize w.2.getD q .no = s at *
  cases s with
  | no => cases hmay
  | is n =>
    (repeat' first | refine Wp.t ?_ | ((first | apply Wp.op | apply Wp.opN); (apply Evt.all; intro; (simp [rskelU, edgeU, refT, hq', hs, asU]) <;> (try simp (disch := omega) only [wrap_id]) <;> first | exact ⟨rfl, rfl⟩ | exact rfl)) | (refine Wp.c ?_ ?_ <;> intro))
    refine Wp.ret ?_
    simp [Res, resU, res1, c_joineryref11_By, fsU, byS]
  | was L =>
    simp only [mayF, locF, Bool.and_eq_true, decide_eq_true_eq] at hmay
    rw [byS_was, if_pos (by omega)]
    by_cases h8 : L < 8
    · have hl : locF 8 L = true := by simp [locF]; omega
      rw [if_pos hl]
      (repeat' first | refine Wp.t ?_ | ((first | apply Wp.op | apply Wp.opN); (apply Evt.all; intro; (simp [rskelU, edgeU, refT, hq', hs, asU, h8]) <;> (try simp (disch := omega) only [wrap_id]) <;> first | exact ⟨rfl, rfl⟩ | exact rfl)) | (refine Wp.c ?_ ?_ <;> intro))
      refine Wp.ret ?_
      simp [Res, resU, res1, c_joineryref11_By, fsU]
    · have hl : ¬ locF 8 L = true := by simp [locF]; omega
      rw [if_neg hl]
      (repeat' first | refine Wp.t ?_ | ((first | apply Wp.op | apply Wp.opN); (apply Evt.all; intro; (simp [rskelU, edgeU, refT, hq', hs, asU, h8]) <;> (try simp (disch := omega) only [wrap_id]) <;> first | exact ⟨rfl, rfl⟩ | exact rfl)) | (refine Wp.c ?_ ?_ <;> intro))
      refine Wp.ret ?_
      simp [Res, resU, res1, c_joineryref11_By, fsU]
set_option maxHeartbeats 8000000 in
theorem rby_node (p : Bool) (l : List Ins) (w : Way) (rn : List RNode) (m k at_ : Nat) (os : List Way) (x : Way) (hm : rn[m]? = some (at_, os)) (hk : os[k]? = some x) (hx : GoodT x.2) (ha : at_ < l.length) (q : Nat) (hq : q < 24) (st : List Ob) :
    Cl T n_joineryref11_By [insL p l, .agg (rskelU w rn), .agg (edgeU ((m : Int), (k : Int))), i64 q] st (.agg (fsU (byS m (setsF (l.getD at_ default)) (x.2.getD q .no)))) st := by
  refine Wp.pure (fn := c_joineryref11_By) rfl rfl rfl («as» := [insL p l, .agg (rskelU w rn), .agg (edgeU ((m : Int), (k : Int))), i64 q]) rfl ?_
  have hq' : (q : Int) < x.2.length := by rw [hx.len]; omega
  have hmay := hx.get hq
  have hs : x.2[q]? = some (x.2.getD q .no) := by rw [List.getD_eq_getElem?_getD, List.getElem?_eq_getElem (by rw [hx.len]; exact hq)]; rfl
  have hmn := (List.getElem?_eq_some_iff.1 hm).1
  have hkn := (List.getElem?_eq_some_iff.1 hk).1
  have hm' : (m : Int) < rn.length := by omega
  have hk' : (k : Int) < os.length := by omega
  have e1 : ¬ (m : Int) = -1 := by omega
  have e2 : ¬ (m : Int) < 0 := by omega
  have hl : l.getD at_ default = l[at_] := by simp [ha]
  have hst := rsets_call l[at_]
  rw [hl]
  generalize x.2.getD q .no = s at *
  cases s with
  | no => cases hmay
  | is n =>
    (all_goals have := fa (a3 @rskelU.eq_1 @edgeU.eq_1 e1); repeat' first | refine Wp.v ?_ | (refine Wp.c ?_ ?_ <;> intro))
    refine Wp.draw (by (simp [c_joineryref11_By_D0, I.need]) <;> rfl) (by (simp [rskelU, rnodeU, rwayU, refT, edgeU, hm', hm, hk', hk, hq', hs, asU]) <;> rfl) (by (simp [rskelU, rnodeU, rwayU, refT, edgeU, hm', hm, hk', hk, hq', hs, asU]) <;> rfl) (by (unfold c_joineryref11_By_D0); (repeat (first | ((first | apply Dr.op | apply Dr.opN | (apply Dr.opG; exact rfl)); ((simp [rskelU, rnodeU, rwayU, refT, edgeU, hm', hm, hk', hk, hq', hs, asU]) <;> rfl); (apply Evt.all; intro; (simp [rskelU, rnodeU, rwayU, refT, edgeU, hm', hm, hk', hk, hq', hs, asU]) <;> (try simp (disch := omega) only [wrap_id]) <;> first | exact ⟨rfl, rfl⟩ | exact rfl); ((simp [I.need]) <;> rfl)) | ((first | (apply Dr.opS; exact rfl; decide) | (apply Dr.opS0; exact rfl)); ((simp [I.need]) <;> rfl)))); exact Dr.nil) (by first | decide +kernel | exact rfl) (by (simp [M2.keep]) <;> rfl) ?_
    (repeat' first | refine Wp.u ?_ | (refine Wp.c ?_ ?_ <;> intro))
    refine Wp.ret ?_
    simp [Res, resU, res1, c_joineryref11_By, fsU, byS]
  | was L =>
    rw [byS_was, if_neg e2]
    unfold setsT at hst
    (all_goals have := fa (a3 @rskelU.eq_1 @edgeU.eq_1 e1); repeat' first | refine Wp.v ?_ | (refine Wp.c ?_ ?_ <;> intro))
    refine Wp.draw (by (simp [c_joineryref11_By_D0, I.need]) <;> rfl) (by (simp [rskelU, rnodeU, rwayU, refT, edgeU, hm', hm, hk', hk, hq', hs, asU]) <;> rfl) (by (simp [rskelU, rnodeU, rwayU, refT, edgeU, hm', hm, hk', hk, hq', hs, asU]) <;> rfl) (by (unfold c_joineryref11_By_D0); (repeat (first | ((first | apply Dr.op | apply Dr.opN | (apply Dr.opG; exact rfl)); ((simp [rskelU, rnodeU, rwayU, refT, edgeU, hm', hm, hk', hk, hq', hs, asU]) <;> rfl); (apply Evt.all; intro; (simp [rskelU, rnodeU, rwayU, refT, edgeU, hm', hm, hk', hk, hq', hs, asU]) <;> (try simp (disch := omega) only [wrap_id]) <;> first | exact ⟨rfl, rfl⟩ | exact rfl); ((simp [I.need]) <;> rfl)) | ((first | (apply Dr.opS; exact rfl; decide) | (apply Dr.opS0; exact rfl)); ((simp [I.need]) <;> rfl)))); exact Dr.nil) (by first | decide +kernel | exact rfl) (by (simp [M2.keep]) <;> rfl) ?_
    cases hd : setsF l[at_] with
    | none =>
      rw [hd] at hst
      (all_goals have := fa (a5 @insL.eq_1 @rskelU.eq_1 @rnodeU.eq_1 @edgeU.eq_1 (a5 hm' hm ha @insU_len @insU_take)); repeat' first | refine Wp.v ?_ | (apply Wp.call; exact hst _) | (refine Wp.c ?_ ?_ <;> intro))
      refine Wp.ret ?_
      simp [Res, resU, res1, c_joineryref11_By, fsU]
    | some D =>
      rw [hd] at hst
      by_cases hDL : D = L
      · subst hDL
        (all_goals have := fa (a5 @insL.eq_1 @rskelU.eq_1 @rnodeU.eq_1 @edgeU.eq_1 (a5 hm' hm ha @insU_len @insU_take)); repeat' first | refine Wp.v ?_ | (apply Wp.call; exact hst _) | (refine Wp.c ?_ ?_ <;> intro))
        refine Wp.ret ?_
        simp [Res, resU, res1, c_joineryref11_By, fsU]
      · (all_goals have := fa (a5 @insL.eq_1 @rskelU.eq_1 @rnodeU.eq_1 @edgeU.eq_1 (a5 hm' hm ha @insU_len (a2 @insU_take hDL))); repeat' first | refine Wp.v ?_ | (apply Wp.call; exact hst _) | (refine Wp.c ?_ ?_ <;> intro))
        refine Wp.ret ?_
        simp [Res, resU, res1, c_joineryref11_By, fsU, hDL]
theorem rby_call (p : Bool) {l : List Ins} (hr : rightF l = true) (cut : List Bool) {n : Nat} {e : Edge} (he : e ∈ toF (wE l) (rnE l cut) n) (q : Nat) (hq : q < 24) (st : List Ob) :
    Cl T n_joineryref11_By [insL p l, .agg (rskelU (wE l) (rnE l cut)), .agg (edgeU e), i64 q] st (.agg (fsU (byF l (wE l) (rnE l cut) e q))) st := by
  obtain ⟨g1, g2⟩ := good_all hr cut
  rcases edge_cases he with rfl | ⟨m, k, at_, o, x, rfl, hm, hk⟩
  · rw [byF_entry]
    exact rby_entry p l _ g2 _ q hq _ st
  · rw [byF_node l _ _ hm hk]
    have h1 := g1 _ (List.mem_of_getElem? hm)
    exact rby_node p l _ _ m k at_ (o.getD []) x (by rw [List.getElem?_map, hm]; rfl) hk (h1.2 _ (List.mem_of_getElem? hk)) h1.1 q hq st
def rowU (f : Nat → FS) : List (List U) := (List.range 24).map fun q => fsU (f q)
theorem rowU_len (f : Nat → FS) : (rowU f).length = 24 := by simp [rowU]
theorem rowU_take (f : Nat → FS) {j : Nat} (hj : j < 24) : (rowU f).take (j + 1) = (rowU f).take j ++ [fsU (f j)] := by
  rw [List.take_succ_eq_append_getElem (by rw [rowU_len]; exact hj)]
  simp [rowU]
def nodeA (f : Edge → Nat → FS) (es : List Edge) : List (List U) := es.map fun e => [.sl true (rowU (f e))]
def aw0S (p : Bool) (l : List Ins) (w : Way) (ns : List Node) (W A B : List (List U)) (n : Nat) (es : List Edge) (i : Nat) (e : Edge) (f : Nat → FS) (j : Nat) : S :=
  ⟨[(0, insL p l), (3, .bp 0 0), (5, .own 1 n), (8, .own 2 i), (10, .bp 3 0), (11, .own 4 j), (18, .sl true W), (19, i64 (ns.length : Nat)), (20, i64 n), (24, .sl true (edR es)), (25, i64 (es.length : Nat)), (26, i64 i), (30, i64 j)],
    [.box (skelU w ns), .row 49 1 false A, .row 50 1 false B, .box (edgeU e), .row 52 2 false ((rowU f).take j)]⟩
set_option maxHeartbeats 8000000 in
theorem all0_loop (p : Bool) (l : List Ins) (w : Way) (hw : w.2.length = 24) (ns : List Node) (W A B : List (List U)) (n : Nat) (es : List Edge) (i : Nat) (e : Edge) (f : Nat → FS)
    (hby : ∀ q : Nat, q < 24 → ∀ st, Cl T n_value_by [insL p l, .agg (skelU w ns), .agg (edgeU e), i64 q] st (.agg (fsU (f q))) st) :
    Wp T (.loop c_value_All_L0) (aw0S p l w ns W A B n es i e f 0) (fun _ => False) (fun _ => False) (fun b s' => b = 4 ∧ s' = ⟨[(0, insL p l), (3, .bp 0 0), (5, .own 1 n), (8, .own 2 i), (10, .bp 3 0), (11, .own 4 24), (18, .sl true W), (19, i64 (ns.length : Nat)), (20, i64 n), (24, .sl true (edR es)), (25, i64 (es.length : Nat)), (26, i64 i), (30, i64 (24 : Nat)), (31, .bool false)],
    [.box (skelU w ns), .row 49 1 false A, .row 50 1 false B, .box (edgeU e), .row 52 2 false (rowU f)]⟩) := by
  have sl := skel_len hw ns
  have t26 : (skelU w ns).take 26 = skelU w ns := by rw [List.take_of_length_le]; omega
  refine Wp.count 24 (fun j => aw0S p l w ns W A B n es i e f j) (fun _ => True) (fun j hj _ => ?_) (fun _ => ?_) 0 (by omega) trivial
  · have hj' : (j : Int) < 24 := by omega
    have hc := hby j hj
    have hlen : ((rowU f).take j).length = j := by rw [List.length_take, rowU_len]; omega
    have lim : (j + 1) * 16 ≤ 140737488355328 := by omega
    simp only [aw0S]
    rw [rowU_take f hj]
    generalize (rowU f).take j = R at *
    generalize f j = x at *
    (have := fa hj'; repeat refine Wp.f ?_)
    refine Wp.i ?_ ?_ <;> intro h1
    · (have := fa (a3 @edgeU.eq_1 sl t26); repeat refine Wp.f ?_)
      apply Wp.call
      · exact hc _
      (have := fa (a4 @fsU.eq_1 hlen lim @wrap_id); repeat refine Wp.f ?_)
      refine ⟨trim_backs (st := [.box (skelU w ns), .row 49 1 false A, .row 50 1 false B, .box (edgeU e), .row 52 2 false (R ++ [[i64 x.1, i64 x.2]])]) (l := [_]) rfl ?_, trivial⟩
      show (Ob.blw 5 (.box (skelU w ns)) && true) = true
      rw [skel_blw]
      rfl
    · cases h1
  · simp only [aw0S]
    rw [List.take_of_length_le (by rw [rowU_len]; omega)]
    repeat refine Wp.a ?_
    refine Wp.i ?_ ?_ <;> intro h1
    · cases h1
    · exact Wp.exit ⟨rfl, rfl⟩
def aw1S (p : Bool) (l : List Ins) (w : Way) (ns : List Node) (W A : List (List U)) (n : Nat) (es : List Edge) (f : Edge → Nat → FS) (i : Nat) : S :=
  ⟨[(0, insL p l), (3, .bp 0 0), (5, .own 1 n), (8, .own 2 i), (18, .sl true W), (19, i64 (ns.length : Nat)), (20, i64 n), (24, .sl true (edR es)), (25, i64 (es.length : Nat)), (26, i64 i)],
    [.box (skelU w ns), .row 49 1 false A, .row 50 1 false ((nodeA f es).take i)]⟩
set_option maxHeartbeats 8000000 in
theorem all1_loop (p : Bool) (l : List Ins) (w : Way) (hw : w.2.length = 24) (ns : List Node) (W A : List (List U)) (n : Nat) (es : List Edge) (hes : es.length ≤ 1000) (f : Edge → Nat → FS)
    (hby : ∀ e ∈ es, ∀ q : Nat, q < 24 → ∀ st, Cl T n_value_by [insL p l, .agg (skelU w ns), .agg (edgeU e), i64 q] st (.agg (fsU (f e q))) st) :
    Wp T (.loop c_value_All_L1) (aw1S p l w ns W A n es f 0) (fun _ => False) (fun _ => False) (fun b s' => b = 2 ∧ s' = ⟨[(0, insL p l), (3, .bp 0 0), (5, .own 1 n), (8, .own 2 es.length), (18, .sl true W), (19, i64 (ns.length : Nat)), (20, i64 n), (24, .sl true (edR es)), (25, i64 (es.length : Nat)), (26, i64 (es.length : Nat)), (27, .bool false)],
    [.box (skelU w ns), .row 49 1 false A, .row 50 1 false (nodeA f es)]⟩) := by
  have hnl : (nodeA f es).length = es.length := by simp [nodeA]
  refine Wp.count es.length (fun i => aw1S p l w ns W A n es f i) (fun _ => True) (fun i hi _ => ?_) (fun _ => ?_) 0 (by omega) trivial
  · have hi' : (i : Int) < es.length := by omega
    have eg : es[i]? = some es[i] := List.getElem?_eq_getElem hi
    have hlp := all0_loop p l w hw ns W A ((nodeA f es).take i) n es i es[i] (f es[i]) (hby _ (List.getElem_mem hi))
    have htk : (nodeA f es).take (i + 1) = (nodeA f es).take i ++ [[.sl true (rowU (f es[i]))]] := by
      rw [List.take_succ_eq_append_getElem (by omega)]
      simp [nodeA]
    have hlen : ((nodeA f es).take i).length = i := by rw [List.length_take, hnl]; omega
    have lim : (i + 1) * 24 ≤ 140737488355328 := by omega
    have rl := rowU_len (f es[i])
    simp only [aw1S]
    rw [htk]
    generalize f es[i] = fe at *
    generalize es[i] = e at *
    generalize (nodeA f es).take i = B at *
    (have := fa hi'; repeat refine Wp.f ?_)
    refine Wp.i ?_ ?_ <;> intro h1
    · (have := fa (a4 hi' eg @edgeU.eq_1 @over_full); repeat refine Wp.f ?_)
      refine (show Wp T (.loop c_value_All_L0) (aw0S p l w ns W A B n es i e fe 0) _ _ _ from hlp.imp (fun _ h => h.elim) (fun _ h => h.elim) ?_)
      rintro b s ⟨rfl, rfl⟩
      rw [if_pos rfl]
      (have := fa (a4 hlen lim rl @wrap_id); repeat refine Wp.f ?_)
      refine ⟨trim_backs (st := [.box (skelU w ns), .row 49 1 false A, .row 50 1 false (B ++ [[.sl true (rowU fe)]])]) (l := [_, _, _]) rfl ?_, trivial⟩
      show (Ob.blw 3 (.box (skelU w ns)) && true) = true
      rw [skel_blw]
      rfl
    · cases h1
  · simp only [aw1S]
    rw [List.take_of_length_le (by omega)]
    repeat refine Wp.a ?_
    refine Wp.i ?_ ?_ <;> intro h1
    · simp at h1
    · exact Wp.exit ⟨rfl, rfl⟩
def allU (N : Nat) (to : Nat → List Edge) (f : Edge → Nat → FS) : List (List U) := (List.range N).map fun n => [.sl true (nodeA f (to n))]
def waysU (N : Nat) (to : Nat → List Edge) : List (List U) := (List.range N).map fun n => [.sl true (edR (to n))]
def aw2S (p : Bool) (l : List Ins) (w : Way) (ns : List Node) (W A : List (List U)) (n : Nat) : S :=
  ⟨[(0, insL p l), (3, .bp 0 0), (5, .own 1 n), (18, .sl true W), (19, i64 (ns.length : Nat)), (20, i64 n)], [.box (skelU w ns), .row 49 1 false (A.take n)]⟩
set_option maxHeartbeats 8000000 in
theorem all2_loop (p : Bool) (l : List Ins) (w : Way) (hw : w.2.length = 24) (ns : List Node) (hns : ns.length ≤ 200) (to : Nat → List Edge) (hto : ∀ n, (to n).length ≤ 1000) (f : Edge → Nat → FS)
    (hby : ∀ n, n < ns.length → ∀ e ∈ to n, ∀ q : Nat, q < 24 → ∀ st, Cl T n_value_by [insL p l, .agg (skelU w ns), .agg (edgeU e), i64 q] st (.agg (fsU (f e q))) st) :
    Wp T (.loop c_value_All_L2) (aw2S p l w ns (waysU ns.length to) (allU ns.length to f) 0) (fun _ => False) (fun _ => False) (fun b s' => b = 0 ∧ s' = ⟨[(0, insL p l), (3, .bp 0 0), (5, .own 1 ns.length), (18, .sl true (waysU ns.length to)), (19, i64 (ns.length : Nat)), (20, i64 (ns.length : Nat)), (21, .bool false)], [.box (skelU w ns), .row 49 1 false (allU ns.length to f)]⟩) := by
  have hal : (allU ns.length to f).length = ns.length := by simp [allU]
  have hwl : (waysU ns.length to).length = ns.length := by simp [waysU]
  refine Wp.count ns.length (fun n => aw2S p l w ns (waysU ns.length to) (allU ns.length to f) n) (fun _ => True) (fun n hn _ => ?_) (fun _ => ?_) 0 (by omega) trivial
  · have hn' : (n : Int) < ns.length := by omega
    have eg : (waysU ns.length to)[n]? = some [.sl true (edR (to n))] := by simp [waysU, hn]
    have htk : (allU ns.length to f).take (n + 1) = (allU ns.length to f).take n ++ [[.sl true (nodeA f (to n))]] := by
      rw [List.take_succ_eq_append_getElem (by omega)]
      simp [allU]
    have hlen : ((allU ns.length to f).take n).length = n := by rw [List.length_take, hal]; omega
    have hlp := all1_loop p l w hw ns (waysU ns.length to) ((allU ns.length to f).take n) n (to n) (hto n) f (hby n hn)
    have lim : (n + 1) * 24 ≤ 140737488355328 := by omega
    have nl : (nodeA f (to n)).length = (to n).length := by simp [nodeA]
    simp only [aw2S]
    rw [htk]
    generalize hA : (allU ns.length to f).take n = A at *
    generalize hN : nodeA f (to n) = NA at *
    generalize to n = es at *
    generalize hW : waysU ns.length to = W at *
    (have := fa hn'; repeat refine Wp.f ?_)
    refine Wp.i ?_ ?_ <;> intro h1
    · (have := fa (a3 hn' hwl eg); repeat refine Wp.f ?_)
      refine (show Wp T (.loop c_value_All_L1) (aw1S p l w ns W A n es f 0) _ _ _ from hlp.imp (fun _ h => h.elim) (fun _ h => h.elim) ?_)
      rintro b s ⟨rfl, rfl⟩
      rw [if_pos rfl]
      (have := fa (a4 hlen lim nl @wrap_id); repeat refine Wp.f ?_)
      refine ⟨trim_backs (st := [.box (skelU w ns), .row 49 1 false (A ++ [[.sl true NA]])]) (l := [_, _]) rfl ?_, trivial⟩
      show (Ob.blw 2 (.box (skelU w ns)) && true) = true
      rw [skel_blw]
      rfl
    · cases h1
  · simp only [aw2S]
    rw [List.take_of_length_le (by omega)]
    repeat refine Wp.a ?_
    refine Wp.i ?_ ?_ <;> intro h1
    · simp at h1
    · exact Wp.exit ⟨rfl, rfl⟩
theorem toF_len {l : List Ins} (hr : rightF l = true) (cut : List Bool) (n : Nat) : (toF (wE l) (rnE l cut) n).length ≤ 1000 := by
  obtain ⟨f1, f2, f3⟩ := skel_facts (cut := cut) hr
  unfold toF
  have h1 := hits_len n (((wE l).1, (-1, 0)) :: allEs 0 (rnE l cut))
  have h2 := allEs_len 0 (rnE l cut) (fun x hx => by
    obtain ⟨y, hy, rfl⟩ := List.mem_map.1 hx
    exact (f2 y hy).1)
  rw [List.length_cons] at h1
  rw [List.length_map] at h2
  omega
set_option maxHeartbeats 8000000 in
theorem all_call (p : Bool) (l : List Ins) (hr : rightF l = true) (cut : List Bool) (st : List Ob) : Cl T n_value_All [insL p l, .agg (skelU (pEntry l) (pNodes l cut))] st (.sl true (allU (pNodes l cut).length (toF (wE l) (rnE l cut)) (byF l (wE l) (rnE l cut)))) st := by
  have hbr : brw frzD st (.agg (skelU (pEntry l) (pNodes l cut))) = some (.agg (skelU (pEntry l) (pNodes l cut))) := brw_skel st _ _
  refine Wp.pure (fn := c_value_All) rfl rfl rfl («as» := [insL p l, .agg (skelU (pEntry l) (pNodes l cut))]) (by simp [hbr, insL]; rfl) ?_
  obtain ⟨f1, f2, f3⟩ := skel_facts (cut := cut) hr
  have hb := built_call p l hr cut
  have hwy := ways_call (pEntry l) f3 (pNodes l cut) f1 f2
  have hby := fun n (_ : n < (pNodes l cut).length) e he q hq st => by_call p hr cut (n := n) (e := e) he q hq st
  have hlp := all2_loop p l (pEntry l) f3 (pNodes l cut) f1 (toF (wE l) (rnE l cut)) (toF_len hr cut) (byF l (wE l) (rnE l cut)) hby
  have hwl : (waysU (pNodes l cut).length (toF (wE l) (rnE l cut))).length = (pNodes l cut).length := by simp [waysU]
  have hal : (allU (pNodes l cut).length (toF (wE l) (rnE l cut)) (byF l (wE l) (rnE l cut))).length = (pNodes l cut).length := by simp [allU]
  have hwy : ∀ st, Cl T n_skel_Ways [.agg (skelU (pEntry l) (pNodes l cut))] st (.sl true (waysU (pNodes l cut).length (toF (wE l) (rnE l cut)))) st := hwy
  have sl := skel_len f3 (pNodes l cut)
  unfold aw2S at hlp
  rw [List.take_zero] at hlp
  generalize waysU (pNodes l cut).length (toF (wE l) (rnE l cut)) = W at *
  generalize hA : allU (pNodes l cut).length (toF (wE l) (rnE l cut)) (byF l (wE l) (rnE l cut)) = A at *
  have t26 : (skelU (pEntry l) (pNodes l cut)).take 26 = skelU (pEntry l) (pNodes l cut) := by rw [List.take_of_length_le]; omega
  (all_goals have := fa (a4 @insL.eq_1 sl t26 hwl); repeat' first | refine Wp.v ?_ | (apply Wp.call; exact hb _) | (apply Wp.call; exact hwy _) | (refine Wp.c ?_ ?_ <;> intro))
  refine hlp.imp (fun _ h => h.elim) (fun _ h => h.elim) ?_
  rintro b s ⟨rfl, rfl⟩
  rw [if_pos rfl]
  repeat refine Wp.a ?_
  refine Wp.ret ?_
  simp [Res, resU, res1, c_value_All, hal]
end Go.Proofs.YtcehbpimdngjfaaDoor.M2
