/- What the functions answer in M2: where an instruction leads. -/
import Derived.Test.YtcehbpimdngjfaaDoorCf
import Derived.Test.YtcehbpimdngjfaaDoorCe
import Derived.KernelRfl
set_option linter.unusedSimpArgs false
set_option linter.unusedVariables false
set_option linter.unusedSectionVars false
namespace Go.Proofs.YtcehbpimdngjfaaDoor.M2
open Go
attribute [local simp] ev1 M2.get put A.ev ld sub part elems bin arith un opt idx fillC cellsO splice over newOb sto fillR laidOwn appTo appRow touch touchN touchM touchE touchA plainU flatU plainAs allM rowAt stoRow accM_nil accM_cons accMM_nil accMM_cons frz_int frz_bool frz_str frz_slt frz_nils frz_nilI frz_nilF frz_own frzRow_row frzRow_frow Ob.blw blw_bool blw_int blw_str blw_nils blw_nilI blw_nilF blw_nilp blw_nilm blw_sl blw_own blw_bp blw_rp blw_mp blw_it params
attribute [local simp] frz_agg frz_tup frz_iface frzS_agg frzS_iface accMS_cons frzS_int frzS_bool frzS_str frzS_slt frzS_nils frzS_nilI beq_dec bne_dec
def afterF (t : List Src) (x : Ins) : List Src :=
  if movesF x && locF 24 x.d && locF 24 x.a then
    (if x.op = 1 then (goodF t).set x.d.toNat (.is x.n) else if x.op = 2 then (goodF t).set x.d.toNat ((goodF t).getD x.a.toNat .no)
      else if x.op = 3 then ((goodF t).set x.d.toNat ((goodF t).getD x.a.toNat .no)).set x.a.toNat ((goodF t).getD x.d.toNat .no) else goodF t)
  else goodF t
theorem goodF_len {t : List Src} (h : t.length = 24) : (goodF t).length = 24 := by
  unfold goodF
  split
  · exact h
  · rfl
theorem splice_set : ∀ (cs : List U) (n : Nat) (u : U), n < cs.length → splice cs n [u] = cs.set n u
  | c :: cs, 0, u, _ => by cases cs <;> rfl
  | c :: cs, n + 1, u, h => by rw [splice, splice_set cs n u (by simpa using h)]; rfl
  | [], n, u, h => by simp at h
theorem tabU_set (t : List Src) (n : Nat) (s : Src) : (tabU t).set n (srcU s) = tabU (t.set n s) := by simp [tabU, List.map_set]
theorem tab_splice {t : List Src} {n : Nat} (h : n < t.length) (s : Src) : splice (tabU t) n [srcU s] = tabU (t.set n s) := by
  rw [splice_set _ _ _ (by rw [tabU_len]; exact h), tabU_set]
theorem tab_sub {t : List Src} {i : Nat} (h : i < t.length) : M2.sub (tabU t) i 1 = some [srcU t[i]] := by
  unfold M2.sub
  rw [if_pos (by rw [tabU_len]; omega), tabU_sub h]
theorem src_one (s : Src) : cellsO (srcU s) = some [srcU s] := by cases s <;> rfl
theorem tab24 {t : List Src} (ht : t.length = 24) : (tabU t).take 24 = tabU t := by rw [List.take_of_length_le]; rw [tabU_len, ht]; exact Nat.le_refl _
set_option maxHeartbeats 4000000 in
theorem after_off (t : List Src) (x : Ins) (ht : t.length = 24) (h : (movesF x && locF 24 x.d && locF 24 x.a) = false) (st : List Ob) : Cl T 58 [.agg (tabU t), .agg (insU x)] st (.agg (tabU (goodF t))) st := by
  refine Wp.pure (fn := c_env_After) rfl rfl rfl («as» := [.agg (tabU t), .agg (insU x)]) (by simp [brw_tab]; rfl) ?_
  have h24 := tab24 ht
  have hg := goodF_len ht
  have g24 := tab24 hg
  obtain ⟨op, d, a, b, n, to⟩ := x
  (have := fa (a3 @tabU_len ht h24); repeat refine Wp.f ?_)
  apply Wp.call
  · exact good_call t ht _
  generalize goodF t = g at *
  have hm := moves_call ⟨op, d, a, b, n, to⟩
  generalize movesF ⟨op, d, a, b, n, to⟩ = mv at *
  simp only at h
  (repeat' first | refine Wp.t ?_ | ((first | apply Wp.op | apply Wp.opN); (apply Evt.all; intro; (simp [tabU_len, ht, hg, g24, over_full, insU_mk]) <;> (try simp (disch := omega) only [wrap_id]) <;> first | exact ⟨rfl, rfl⟩ | exact rfl)) | (apply Wp.call; exact hm _) | (apply Wp.call; exact locRight_call _ _) | (refine Wp.c ?_ ?_ <;> intro))
  all_goals first
    | (exfalso; simp_all; done)
    | skip
  all_goals refine Wp.ret ?_
  all_goals simp [Res, resU, res1, c_env_After, tabU_len, hg, g24, acc_tab]
set_option maxHeartbeats 4000000 in
theorem after_on (t : List Src) (x : Ins) (ht : t.length = 24) (h : (movesF x && locF 24 x.d && locF 24 x.a) = true) (st : List Ob) : Cl T 58 [.agg (tabU t), .agg (insU x)] st (.agg (tabU (afterF t x))) st := by
  unfold afterF
  rw [if_pos h]
  refine Wp.pure (fn := c_env_After) rfl rfl rfl («as» := [.agg (tabU t), .agg (insU x)]) (by simp [brw_tab]; rfl) ?_
  have h24 := tab24 ht
  have hg := goodF_len ht
  have g24 := tab24 hg
  obtain ⟨op, d, a, b, n, to⟩ := x
  (have := fa (a3 @tabU_len ht h24); repeat refine Wp.f ?_)
  apply Wp.call
  · exact good_call t ht _
  generalize goodF t = g at *
  simp only [Bool.and_eq_true] at h
  obtain ⟨⟨m1, m2⟩, m3⟩ := h
  have hm := moves_call ⟨op, d, a, b, n, to⟩
  rw [m1] at hm
  have hd := locRight_call d
  rw [m2] at hd
  have ha := locRight_call a
  rw [m3] at ha
  simp only [locF, Bool.and_eq_true, decide_eq_true_eq] at m2 m3
  obtain ⟨D, rfl⟩ := Int.eq_ofNat_of_zero_le m2.1
  obtain ⟨A, rfl⟩ := Int.eq_ofNat_of_zero_le m3.1
  have D1 : D < 24 := by omega
  have A1 : A < 24 := by omega
  have D2 : (D : Int) < 24 := by omega
  have A2 : (A : Int) < 24 := by omega
  have D3 : D < g.length := by omega
  have A3 : A < g.length := by omega
  have spl := fun (t : List Src) (hl : t.length = 24) (s : Src) => tab_splice (t := t) (n := D) (by omega) s
  have spl2 := fun (t : List Src) (hl : t.length = 24) (s : Src) => tab_splice (t := t) (n := A) (by omega) s
  have sa := tab_sub A3
  have sd := tab_sub D3
  have gA : g.getD A .no = g[A] := by simp [A3]
  have gD : g.getD D .no = g[D] := by simp [D3]
  simp only [Int.toNat_natCast, gA, gD]
  have set24 : ∀ (t : List Src) (i : Nat) (s : Src), t.length = 24 → (tabU (t.set i s)).take 24 = tabU (t.set i s) := fun t i s hl => tab24 (by rw [List.length_set]; exact hl)
  have ta := tabU_sub A3
  have td := tabU_sub D3
  have e24 : ∀ s, (g.set D s).length = 24 := fun s => by rw [List.length_set]; exact hg
  have oD : D + 1 ≤ 24 := by omega
  have oA : A + 1 ≤ 24 := by omega
  by_cases c1 : op = 1
  · subst c1
    have s1 := spl g hg (.is n)
    simp only [srcU] at s1
    (repeat' first | refine Wp.t ?_ | ((first | apply Wp.op | apply Wp.opN); (apply Evt.all; intro; (simp [tabU_len, ht, hg, g24, over_full, insU_mk, D2, s1, oD, set24, e24]) <;> (try simp (disch := omega) only [wrap_id]) <;> first | exact ⟨rfl, rfl⟩ | exact rfl)) | (apply Wp.call; exact hm _) | (apply Wp.call; exact hd _) | (apply Wp.call; exact ha _) | (refine Wp.c ?_ ?_ <;> intro))
    all_goals refine Wp.ret ?_
    all_goals simp [Res, resU, res1, c_env_After, tabU_len, hg, set24, acc_tab]
  by_cases c2 : op = 2
  · subst c2
    have s1 := spl g hg g[A]
    (repeat' first | refine Wp.t ?_ | ((first | apply Wp.op | apply Wp.opN); (apply Evt.all; intro; (simp [tabU_len, ht, hg, g24, over_full, insU_mk]) <;> (try simp (disch := omega) only [wrap_id]) <;> first | exact ⟨rfl, rfl⟩ | exact rfl)) | (apply Wp.call; exact hm _) | (apply Wp.call; exact hd _) | (apply Wp.call; exact ha _) | (refine Wp.c ?_ ?_ <;> intro))
    refine Wp.draw (by (simp [c_env_After_D0, I.need]) <;> rfl) (by (simp [-cellsO, D2, A2, tabU_len, hg, oA, oD, ta, sa, s1, src_one]) <;> rfl) (by (simp [-cellsO, D2, A2, tabU_len, hg, oA, oD, ta, sa, s1, src_one]) <;> rfl) (by (unfold c_env_After_D0); (repeat (first | ((first | apply Dr.op | apply Dr.opN | (apply Dr.opG; exact rfl)); ((simp [-cellsO, D2, A2, tabU_len, hg, oA, oD, ta, sa, s1, src_one]) <;> rfl); (apply Evt.all; intro; (simp [-cellsO, D2, A2, tabU_len, hg, oA, oD, ta, sa, s1, src_one]) <;> (try simp (disch := omega) only [wrap_id]) <;> first | exact ⟨rfl, rfl⟩ | exact rfl); ((simp [I.need]) <;> rfl)) | ((first | (apply Dr.opS; exact rfl; decide) | (apply Dr.opS0; exact rfl)); ((simp [I.need]) <;> rfl)))); exact Dr.nil) (by first | decide +kernel | exact rfl) (by (simp [M2.keep]) <;> rfl) ?_
    (all_goals have := fa (a5 @tabU_len hg @over_full set24 e24); repeat' first | refine Wp.v ?_ | (refine Wp.c ?_ ?_ <;> intro))
    all_goals refine Wp.ret ?_
    all_goals simp [Res, resU, res1, c_env_After, tabU_len, hg, set24, acc_tab]
  by_cases c3 : op = 3
  · subst c3
    have s1 := spl g hg g[A]
    have s2 := spl2 (g.set D g[A]) (e24 _) g[D]
    have e2 : ((g.set D g[A]).set A g[D]).length = 24 := by rw [List.length_set]; exact e24 _
    have t2 := tab24 e2
    (repeat' first | refine Wp.t ?_ | ((first | apply Wp.op | apply Wp.opN); (apply Evt.all; intro; (simp [tabU_len, ht, hg, g24, over_full, insU_mk]) <;> (try simp (disch := omega) only [wrap_id]) <;> first | exact ⟨rfl, rfl⟩ | exact rfl)) | (apply Wp.call; exact hm _) | (apply Wp.call; exact hd _) | (apply Wp.call; exact ha _) | (refine Wp.c ?_ ?_ <;> intro))
    refine Wp.draw (by (simp [c_env_After_D1, I.need]) <;> rfl) (by (simp [-cellsO, D2, A2, tabU_len, hg, e24, oA, oD, ta, td, sa, sd, s1, s2, src_one]) <;> rfl) (by (simp [-cellsO, D2, A2, tabU_len, hg, e24, oA, oD, ta, td, sa, sd, s1, s2, src_one]) <;> rfl) (by (unfold c_env_After_D1); (repeat (first | ((first | apply Dr.op | apply Dr.opN | (apply Dr.opG; exact rfl)); ((simp [-cellsO, D2, A2, tabU_len, hg, e24, oA, oD, ta, td, sa, sd, s1, s2, src_one]) <;> rfl); (apply Evt.all; intro; (simp [-cellsO, D2, A2, tabU_len, hg, e24, oA, oD, ta, td, sa, sd, s1, s2, src_one]) <;> (try simp (disch := omega) only [wrap_id]) <;> first | exact ⟨rfl, rfl⟩ | exact rfl); ((simp [I.need]) <;> rfl)) | ((first | (apply Dr.opS; exact rfl; decide) | (apply Dr.opS0; exact rfl)); ((simp [I.need]) <;> rfl)))); exact Dr.nil) (by first | decide +kernel | exact rfl) (by (simp [M2.keep]) <;> rfl) ?_
    (all_goals have := fa (a5 @tabU_len hg @over_full t2 e2); repeat' first | refine Wp.v ?_ | (refine Wp.c ?_ ?_ <;> intro))
    all_goals refine Wp.ret ?_
    all_goals simp [Res, resU, res1, c_env_After, tabU_len, e2, t2, acc_tab]
  · (repeat' first | refine Wp.t ?_ | ((first | apply Wp.op | apply Wp.opN); (apply Evt.all; intro; (simp [tabU_len, ht, hg, g24, over_full, insU_mk, c1, c2, c3]) <;> (try simp (disch := omega) only [wrap_id]) <;> first | exact ⟨rfl, rfl⟩ | exact rfl)) | (apply Wp.call; exact hm _) | (apply Wp.call; exact hd _) | (apply Wp.call; exact ha _) | (refine Wp.c ?_ ?_ <;> intro))
    all_goals refine Wp.ret ?_
    all_goals simp [Res, resU, res1, c_env_After, tabU_len, hg, g24, acc_tab, c1, c2, c3]
theorem after_call (t : List Src) (x : Ins) (ht : t.length = 24) (st : List Ob) : Cl T 58 [.agg (tabU t), .agg (insU x)] st (.agg (tabU (afterF t x))) st := by
  cases h : movesF x && locF 24 x.d && locF 24 x.a with
  | true => exact after_on t x ht h st
  | false =>
    have : afterF t x = goodF t := by unfold afterF; rw [h]; rfl
    rw [this]
    exact after_off t x ht h st
def pU (to : Int) (t : List Src) (s : Int) : List U := i64 to :: (tabU t ++ [i64 s])
theorem pU_len {to s : Int} {t : List Src} (ht : t.length = 24) : (pU to t s).length = 26 := by simp [pU, tabU_len, ht]
theorem pU_take1 (to s : Int) (t : List Src) : (pU to t s).take 1 = [i64 to] := rfl
theorem pU_d1 {to s : Int} {t : List Src} (ht : t.length = 24) : ((pU to t s).drop 1).take 24 = tabU t := by
  show (tabU t ++ [i64 s]).take 24 = tabU t
  rw [List.take_append_of_le_length (by rw [tabU_len, ht]; exact Nat.le_refl _)]
  exact tab24 ht
theorem pU_tail {to s : Int} {t : List Src} (ht : t.length = 24) : (pU to t s).tail.take 24 = tabU t := pU_d1 (to := to) (s := s) ht
theorem pU_d25 {to s : Int} {t : List Src} (ht : t.length = 24) : (pU to t s).drop 25 = [i64 s] := by
  show (tabU t ++ [i64 s]).drop 24 = [i64 s]
  rw [List.drop_append_of_le_length (by rw [tabU_len, ht]; exact Nat.le_refl _), List.drop_eq_nil_of_le (by rw [tabU_len, ht]; exact Nat.le_refl _)]
  rfl
theorem pU_o0 (to s v : Int) (t : List Src) : over [i64 v] (pU to t s) = pU v t s := rfl
theorem over_app : ∀ (us cs ds : List U), us.length = cs.length → over us (cs ++ ds) = us ++ ds
  | [], [], ds, _ => by cases ds <;> rfl
  | u :: us, _ :: cs, ds, h => by rw [List.cons_append, over, over_app us cs ds (by simpa using h)]; rfl
  | [], _ :: _, _, h => by simp at h
  | _ :: _, [], _, h => by simp at h
theorem pU_s1 {to s : Int} {t t' : List Src} (ht : t.length = 24) (ht' : t'.length = 24) : splice (pU to t s) 1 (tabU t') = pU to t' s := by
  show i64 to :: splice (tabU t ++ [i64 s]) 0 (tabU t') = _
  have : splice (tabU t ++ [i64 s]) 0 (tabU t') = over (tabU t') (tabU t ++ [i64 s]) := by cases (tabU t ++ [i64 s]) <;> rfl
  rw [this, over_app _ _ _ (by rw [tabU_len, tabU_len, ht, ht'])]
  rfl
theorem pU_s25 {to s v : Int} {t : List Src} (ht : t.length = 24) : splice (pU to t s) 25 [i64 v] = pU to t v := by
  rw [splice_set _ _ _ (by rw [pU_len ht]; omega)]
  show i64 to :: (tabU t ++ [i64 s]).set 24 (i64 v) = _
  rw [List.set_append_right _ _ (by rw [tabU_len, ht]; exact Nat.le_refl _), tabU_len, ht]
  rfl
def metU (m : List Bool) : List U := m.map fun b => .bool b
theorem metU_len (m : List Bool) : (metU m).length = m.length := by simp [metU]
theorem metU_sub {m : List Bool} {i : Nat} (h : i < m.length) : ((metU m).drop i).take 1 = [.bool m[i]] := by
  rw [List.drop_eq_getElem_cons (by rw [metU_len]; exact h)]
  simp [metU]
theorem metU_splice {m : List Bool} {i : Nat} (h : i < m.length) (b : Bool) : splice (metU m) i [.bool b] = metU (m.set i b) := by
  rw [splice_set _ _ _ (by rw [metU_len]; exact h)]
  simp [metU, List.map_set]
structure PS where
  to : Nat
  t : List Src
  steps : Nat
  met : List Bool
def nextTo (x : Ins) (i : Nat) : Nat := if x.op = 16 then x.to.toNat else i + 1
def followF (l : List Ins) (s : PS) : PS := ⟨nextTo (l.getD s.to default) s.to, afterF s.t (l.getD s.to default), s.steps + 1, s.met.set s.to true⟩
def followsF (l : List Ins) (s : PS) : Bool := movesF (l.getD s.to default) && !s.met.getD s.to false
def pathSt (p : Bool) (l : List Ins) (b1 : Ob) (s : PS) : List Ob := [.box [insL p l], b1, .box (metU s.met), .box (pU s.to s.t s.steps)]
theorem path_blw (p : Bool) (l : List Ins) (b1 : Ob) (hb1 : Ob.blw 4 b1 = true) (s : PS) : (pathSt p l b1 s).all (Ob.blw (pathSt p l b1 s).length) = true := by
  have h1 : Ob.blw 4 (.box (metU s.met)) = true := by
    show (metU s.met).all (blw blwD 4) = true
    rw [List.all_eq_true]
    intro u hu
    obtain ⟨b, _, rfl⟩ := List.mem_map.1 hu
    rfl
  have h2 : Ob.blw 4 (.box (pU s.to s.t s.steps)) = true := by
    show (pU s.to s.t s.steps).all (blw blwD 4) = true
    rw [List.all_eq_true]
    intro u hu
    simp only [pU, List.mem_cons, List.mem_append, List.not_mem_nil, or_false] at hu
    rcases hu with rfl | hu | rfl
    · rfl
    · exact tab_blw 4 s.t u hu
    · rfl
  show (List.all [.box [insL p l], b1, .box (metU s.met), .box (pU s.to s.t s.steps)] (Ob.blw 4)) = true
  rw [List.all_cons, List.all_cons, List.all_cons, List.all_cons, hb1, h1, h2]
  rfl
set_option maxHeartbeats 4000000 in
theorem follow_no (p : Bool) (l : List Ins) (b1 : Ob) (hb1 : Ob.blw 4 b1 = true) (s : PS) (hto : s.to < l.length) (h200 : l.length ≤ 200) (ht : s.t.length = 24) (hm : s.met.length = 200) (hf : followsF l s = false) :
    Cl T 56 [.bp 0 0, .bp 3 0, .bp 2 0] (pathSt p l b1 s) (.bool false) (pathSt p l b1 s) := by
  obtain ⟨to, t, steps, met⟩ := s
  simp only at hto ht hm
  refine Wp.impure (fn := c_path_From_1) rfl rfl rfl ?_
  have hmt : to < met.length := by omega
  have hmt2 : to + 1 ≤ 200 := by omega
  have hmt3 : (to : Int) < 200 := by omega
  simp only [followsF] at hf
  have hx : l.getD to default = l[to] := by simp [hto]
  have hmx : met.getD to false = met[to] := by simp [hmt]
  rw [hx, hmx] at hf
  have hmv := moves_call l[to]
  simp only [pathSt]
  (have := fa (a5 @insL.eq_1 hto @insU_len @insU_take (a4 @over_full @pU_take1 @pU_len ht)); repeat refine Wp.f ?_)
  apply Wp.call
  · exact hmv _
  cases hv : movesF l[to] with
  | false =>
    repeat refine Wp.a ?_
    refine Wp.i ?_ ?_ <;> intro h1
    · repeat refine Wp.a ?_
      refine Wp.ret ⟨rfl, ?_⟩
      exact congrArg S.st (trim_back (st := pathSt p l b1 ⟨to, t, steps, met⟩) (e := [(0, .bool false)]) rfl (path_blw p l b1 hb1 _))
    · cases h1
  | true =>
    rw [hv] at hf
    have hb : met[to] = true := by simpa using hf
    have msub := metU_sub hmt
    rw [hb] at msub
    (have := fa (a5 @pU_take1 @pU_len ht hmt3 (a4 @metU_len hm hmt2 msub)); repeat refine Wp.f ?_)
    refine Wp.i ?_ ?_ <;> intro h1
    · repeat refine Wp.a ?_
      refine Wp.ret ⟨rfl, ?_⟩
      exact congrArg S.st (trim_back (st := pathSt p l b1 ⟨to, t, steps, met⟩) (e := [(0, .bool false)]) rfl (path_blw p l b1 hb1 _))
    · cases h1
set_option maxHeartbeats 4000000 in
theorem follow_yes (p : Bool) (l : List Ins) (b1 : Ob) (hb1 : Ob.blw 4 b1 = true) (s : PS) (hto : s.to < l.length) (h200 : l.length ≤ 200) (ht : s.t.length = 24) (hm : s.met.length = 200) (hs : s.steps < 1000) (hj : (l.getD s.to default).op = 16 → 0 ≤ (l.getD s.to default).to) (hf : followsF l s = true) :
    Cl T 56 [.bp 0 0, .bp 3 0, .bp 2 0] (pathSt p l b1 s) (.bool true) (pathSt p l b1 (followF l s)) := by
  have ht' : (followF l s).t.length = 24 := by
    simp only [followF, afterF]
    have := goodF_len ht
    split
    · split
      · rw [List.length_set]; exact this
      · split
        · rw [List.length_set]; exact this
        · split
          · rw [List.length_set, List.length_set]; exact this
          · exact this
    · exact this
  obtain ⟨to, t, steps, met⟩ := s
  simp only at hto ht hm hs hj
  simp only [followF] at ht' ⊢
  refine Wp.impure (fn := c_path_From_1) rfl rfl rfl ?_
  have hmt : to < met.length := by omega
  have hmt2 : to + 1 ≤ 200 := by omega
  have hmt3 : (to : Int) < 200 := by omega
  simp only [followsF] at hf
  have hx : l.getD to default = l[to] := by simp [hto]
  have hmx : met.getD to false = met[to] := by simp [hmt]
  rw [hx, hmx] at hf
  rw [hx] at hj ht' ⊢
  simp only [Bool.and_eq_true, Bool.not_eq_true'] at hf
  have hmv := moves_call l[to]
  rw [hf.1] at hmv
  have hafter := after_call t l[to] ht
  have msub := metU_sub hmt
  rw [hf.2] at msub
  have mset := metU_splice hmt true
  simp only [pathSt]
  have hnx : ((nextTo l[to] to : Nat) : Int) = if l[to].op = 16 then l[to].to else (to : Int) + 1 := by
    unfold nextTo
    split
    · rename_i h16
      have := hj h16
      omega
    · omega
  generalize afterF t l[to] = t' at *
  have s1 := pU_s1 (to := to) (s := steps) ht ht'
  have fin : ∀ v, (trimO (pathSt p l b1 ⟨to, t, steps, met⟩).length ⟨[(0, .bool true)], (pathSt p l b1 ⟨nextTo l[to] to, t', steps + 1, met.set to true⟩) ++ [v]⟩).st = pathSt p l b1 ⟨nextTo l[to] to, t', steps + 1, met.set to true⟩ := fun v =>
    congrArg S.st (trim_back (st := pathSt p l b1 ⟨nextTo l[to] to, t', steps + 1, met.set to true⟩) (e := [(0, .bool true)]) rfl (path_blw p l b1 hb1 _))
  simp only [pathSt, List.cons_append, List.nil_append, hnx] at fin
  have hst : ((steps + 1 : Nat) : Int) = (steps : Int) + 1 := by omega
  rw [hst] at fin ⊢
  rw [hnx]
  (have := fa (a5 @insL.eq_1 hto @insU.eq_1 @pU_take1 (a2 @pU_len ht)); repeat refine Wp.f ?_)
  apply Wp.call
  · exact hmv _
  (have := fa (a5 @pU_take1 @pU_len ht hmt3 (a4 @metU_len hm hmt2 msub)); repeat refine Wp.f ?_)
  refine Wp.i ?_ ?_ <;> intro h1
  · cases h1
  repeat first | refine Wp.s ?_ | ((first | apply Wp.op | apply Wp.opN | (apply Wp.opG; exact rfl)); (apply Evt.all; intro; (simp [pU_take1, pU_len, ht, hmt3, metU_len, hm, hmt2, mset, pU_tail]) <;> (try simp (disch := omega) only [wrap_id]) <;> first | exact ⟨rfl, rfl⟩ | exact rfl))
  apply Wp.call
  · exact hafter _
  (have := fa (a5 @tabU_len ht' s1 @pU_len (a5 ht @pU_d25 @pU_s25 @pU_take1 (a2 @pU_o0 @wrap_id))); repeat refine Wp.f ?_)
  refine Wp.i ?_ ?_ <;> intro hc
  · have h16 : l[to].op = 16 := by simpa using hc
    rw [if_pos h16] at fin ⊢
    (have := fa (a3 @pU_len ht' @pU_o0); repeat refine Wp.f ?_)
    refine Wp.ret ?_
    exact ⟨rfl, fin _⟩
  · have h16 : ¬ l[to].op = 16 := by simpa using hc
    rw [if_neg h16] at fin ⊢
    repeat refine Wp.a ?_
    refine Wp.ret ?_
    exact ⟨rfl, fin _⟩
/-! Plain: functions that are right; the path's run ends. -/
theorem fb_none {m : Int} : ∀ {l : List Ins} {i : Nat}, fb m i l = none → ∀ x ∈ l, checkF x m = 0
  | [], _, _, x, hx => by simp at hx
  | y :: l, i, h, x, hx => by
    rw [fb] at h
    split at h
    · cases h
    · rename_i hc
      rcases List.mem_cons.1 hx with rfl | hx
      · simpa using hc
      · exact fb_none h x hx
theorem fb_some {m : Int} : ∀ {l : List Ins} {i k : Nat} {e : Int}, fb m i l = some (k, e) → e ≠ 0
  | [], _, _, _, h => by simp [fb] at h
  | y :: l, i, k, e, h => by
    rw [fb] at h
    split at h
    · rename_i hc
      cases h
      exact hc
    · exact fb_some h
theorem right_facts {l : List Ins} (h : rightF l = true) : l.length ≤ 200 ∧ 0 < l.length ∧ (∀ x ∈ l, checkF x l.length = 0) ∧ (lastOp l = 16 ∨ lastOp l = 18) := by
  unfold rightF chkF at h
  rw [decide_eq_true_eq] at h
  split at h
  · simp at h
  · split at h
    · simp at h
    · rename_i h1 h2
      split at h
      · rename_i i e hf
        exact absurd h (fb_some hf)
      · rename_i hf
        split at h
        · rename_i hl
          exact ⟨by omega, by omega, fb_none hf, hl⟩
        · simp at h
theorem check_to {x : Ins} {m : Int} (h : checkF x m = 0) (ho : x.op = 16) : 0 ≤ x.to ∧ x.to < m := by
  unfold checkF at h
  split at h
  · simp at h
  · split at h
    · simp at h
    · split at h
      · simp at h
      · rename_i h4
        unfold bad4 at h4
        simp only [ho, true_or, true_and] at h4
        omega
theorem nextTo_ok {l : List Ins} (hr : rightF l = true) {i : Nat} (hi : i < l.length) (hm : movesF (l.getD i default) = true) : nextTo (l.getD i default) i < l.length ∧ ((l.getD i default).op = 16 → 0 ≤ (l.getD i default).to) := by
  obtain ⟨h1, h2, h3, h4⟩ := right_facts hr
  have hx : l.getD i default = l[i] := by simp [hi]
  have hc := h3 l[i] (List.getElem_mem hi)
  have h5 : lastOp l = (l.getD (l.length - 1) default).op := rfl
  rw [hx] at hm ⊢
  unfold nextTo
  split
  · rename_i ho
    have := check_to hc ho
    exact ⟨by omega, fun _ => this.1⟩
  · rename_i ho
    refine ⟨?_, fun h => absurd h ho⟩
    rcases Nat.lt_or_ge (i + 1) l.length with h | h
    · exact h
    · have he : i = l.length - 1 := by omega
      rw [← he, hx] at h5
      simp only [movesF, Bool.or_eq_true, Bool.and_eq_true, decide_eq_true_eq] at hm
      omega
def pathRun (l : List Ins) : Nat → PS → PS
  | 0, s => s
  | n + 1, s => if followsF l s then pathRun l n (followF l s) else s
def frees (m : List Bool) : Nat := (m.filter (!·)).length
structure PInv (l : List Ins) (s : PS) : Prop where
  to : s.to < l.length
  t : s.t.length = 24
  met : s.met.length = 200
  steps : s.steps + frees s.met = 200
theorem frees_set : ∀ (r : List Bool) (k : Nat) (h : k < r.length), r[k] = false → frees (r.set k true) + 1 = frees r
  | [], k, h, _ => by simp at h
  | b :: r, 0, h, hb => by
    have : b = false := hb
    subst this
    simp [frees]
  | b :: r, k + 1, h, hb => by
    have := frees_set r k (by simpa using h) (by simpa using hb)
    unfold frees at *
    cases b <;> simp [← this]
theorem afterF_len {t : List Src} (h : t.length = 24) (x : Ins) : (afterF t x).length = 24 := by
  have := goodF_len h
  unfold afterF
  split
  · split
    · rw [List.length_set]; exact this
    · split
      · rw [List.length_set]; exact this
      · split
        · rw [List.length_set, List.length_set]; exact this
        · exact this
  · exact this
theorem follow_inv {l : List Ins} (hr : rightF l = true) {s : PS} (h : PInv l s) (hf : followsF l s = true) : PInv l (followF l s) ∧ frees (followF l s).met + 1 = frees s.met := by
  unfold followsF at hf
  simp only [Bool.and_eq_true, Bool.not_eq_true'] at hf
  have h200 := (right_facts hr).1
  have hmt : s.to < s.met.length := by have := h.to; have := h.met; omega
  have hb : s.met[s.to] = false := by have := hf.2; simpa [hmt] using this
  have hfr := frees_set s.met s.to hmt hb
  exact ⟨⟨(nextTo_ok hr h.to hf.1).1, afterF_len h.t _, by simp [followF, h.met], by have := h.steps; simp only [followF]; omega⟩, hfr⟩
theorem Wp.callv {T : Nat → Option F} {K R : S → Prop} {B : Nat → S → Prop} {d f : Nat} {x : A} {xs : List A} {caps : List U} {l : List O} {live : List Nat} {e : Env} {st st1 : List Ob} {u : U} (hx : x.ev e = .fn f caps) (h : Cl T f (xs.map (·.ev e) ++ caps) st u st1) (k : Wp T (.ops l live) ⟨(d, u) :: e, st1⟩ K R B) : Wp T (.ops (⟨some d, .callv x xs, none⟩ :: l) live) ⟨e, st⟩ K R B :=
  Wp.op (h.mono fun n h => by simp only [ev1, hx]; exact h) k
def fromS (p : Bool) (l : List Ins) (b1 : Ob) (a : Nat × PS × Env) : S := ⟨(4, .bp 1 0) :: (6, .bp 2 0) :: (7, .bp 3 0) :: (8, .fn 56 [.bp 0 0, .bp 3 0, .bp 2 0]) :: a.2.2, pathSt p l b1 a.2.1⟩
theorem from_loop (p : Bool) (l : List Ins) (b1 : Ob) (hb1 : Ob.blw 4 b1 = true) (hr : rightF l = true) (s0 : PS) (h0 : PInv l s0) (v0 : Env) :
    Wp T (.loop c_path_From_L0) (fromS p l b1 (201, s0, v0)) (fun _ => False) (fun _ => False)
      (fun b s' => b = 0 ∧ s' = ⟨[(4, .bp 1 0), (6, .bp 2 0), (7, .bp 3 0), (8, .fn 56 [.bp 0 0, .bp 3 0, .bp 2 0]), (28, .bool false)], pathSt p l b1 (pathRun l 201 s0)⟩ ∧ PInv l (pathRun l 201 s0) ∧ followsF l (pathRun l 201 s0) = false) := by
  have h200 := (right_facts hr).1
  refine Wp.loop (fun a : Nat × PS × Env => a.1) (fromS p l b1) (fun a => PInv l a.2.1 ∧ frees a.2.1.met < a.1 ∧ pathRun l a.1 a.2.1 = pathRun l 201 s0) (fun a ⟨ha, hn, hrun⟩ => ?_) (201, s0, v0) ⟨h0, by have := h0.steps; simp only; omega, rfl⟩
  obtain ⟨n, s, v⟩ := a
  simp only at ha hn hrun
  obtain ⟨n, rfl⟩ : ∃ m, n = m + 1 := ⟨n - 1, by omega⟩
  simp only [fromS]
  rw [pathRun] at hrun
  apply Wp.seq
  apply Wp.seq
  repeat refine Wp.a ?_
  cases hf : followsF l s with
  | true =>
    rw [hf, if_pos rfl] at hrun
    obtain ⟨hi, hfr⟩ := follow_inv hr ha hf
    have hm : movesF (l.getD s.to default) = true := by
      unfold followsF at hf
      rw [Bool.and_eq_true] at hf
      exact hf.1
    apply Wp.callv
    · exact rfl
    · exact follow_yes p l b1 hb1 s ha.to h200 ha.t ha.met (by have := ha.steps; omega) (nextTo_ok hr ha.to hm).2 hf
    refine Wp.op0 (by (simp [M2.keep]) <;> rfl) ?_
    refine Wp.i ?_ ?_ <;> intro h1
    · refine Wp.skip ?_
      apply Wp.block
      refine Wp.skip ⟨(n, followF l s, [(28, .bool true)]), ?_, by simp only; omega, hi, by simp only; omega, hrun⟩
      exact trimO_len rfl
    · cases h1
  | false =>
    rw [hf, if_neg (by simp)] at hrun
    apply Wp.callv
    · exact rfl
    · exact follow_no p l b1 hb1 s ha.to h200 ha.t ha.met hf
    refine Wp.op0 (by (simp [M2.keep]) <;> rfl) ?_
    refine Wp.i ?_ ?_ <;> intro h1
    · cases h1
    · refine Wp.exit ⟨rfl, ?_, hrun ▸ ha, hrun ▸ hf⟩
      rw [← hrun]
def ps0 (at_ : Nat) : PS := ⟨at_, newT, 0, List.replicate 200 false⟩
def fromF (l : List Ins) (at_ : Int) : (Int × List Src × Int) × Int :=
  if rightF l && decide (0 ≤ at_) && decide (at_ < l.length) then
    (let s := pathRun l 201 (ps0 at_.toNat); (if s.met.getD s.to false then (-1, newT, 0) else ((s.to : Int), s.t, (s.steps : Int)), 0))
  else ((0, List.replicate 24 .no, 0), 1)
def pathU (q : Int × List Src × Int) : U := .agg (pU q.1 q.2.1 q.2.2)
theorem ov1 {t : List Src} (ht : t.length = 24) (x : U) : over (tabU t) [.nilI, .nilI, .nilI, .nilI, .nilI, .nilI, .nilI, .nilI, .nilI, .nilI, .nilI, .nilI, .nilI, .nilI, .nilI, .nilI, .nilI, .nilI, .nilI, .nilI, .nilI, .nilI, .nilI, .nilI, x] = tabU t ++ [x] := over_app (tabU t) [.nilI, .nilI, .nilI, .nilI, .nilI, .nilI, .nilI, .nilI, .nilI, .nilI, .nilI, .nilI, .nilI, .nilI, .nilI, .nilI, .nilI, .nilI, .nilI, .nilI, .nilI, .nilI, .nilI, .nilI] [x] (by rw [tabU_len, ht]; rfl)
theorem ov2 {t : List Src} (ht : t.length = 24) (x y : U) : over (tabU t ++ [x]) [.nilI, .nilI, .nilI, .nilI, .nilI, .nilI, .nilI, .nilI, .nilI, .nilI, .nilI, .nilI, .nilI, .nilI, .nilI, .nilI, .nilI, .nilI, .nilI, .nilI, .nilI, .nilI, .nilI, .nilI, y] = tabU t ++ [x] := over_full _ _ (by rw [List.length_append, tabU_len, ht]; rfl)
theorem from_bad (p : Bool) (l : List Ins) (at_ : Int) (st : List Ob) (h : (rightF l && decide (0 ≤ at_) && decide (at_ < l.length)) = false) : Cl T 31 [insL p l, i64 at_] st (.tup [pathU (0, List.replicate 24 .no, 0), i64 1]) st := by
  refine Wp.pure (fn := c_path_From) rfl rfl rfl («as» := [insL p l, i64 at_]) rfl ?_
  have hr := fun st => asmRight_call p l st (insL p l) rfl
  generalize rightF l = r at *
  (all_goals have := fa @insL.eq_1; repeat' first | refine Wp.v ?_ | (apply Wp.call; exact hr _) | (refine Wp.c ?_ ?_ <;> intro))
  all_goals first
    | (exfalso; simp_all; omega)
    | (exfalso; simp_all; done)
    | skip
  all_goals refine Wp.ret ?_
  all_goals simp [Res, resU, res1, c_path_From, pathU, pU, tabU, srcU, List.replicate]
theorem acc_app {α : Type} {f : List Ob → α → Option (α × List Ob)} : ∀ {xs ys xs' ys' : List α} {st st1 st2 : List Ob}, accM f st xs = some (xs', st1) → accM f st1 ys = some (ys', st2) → accM f st (xs ++ ys) = some (xs' ++ ys', st2)
  | [], ys, xs', ys', st, st1, st2, h1, h2 => by
    simp only [accM, Option.some.injEq, Prod.mk.injEq] at h1
    obtain ⟨rfl, rfl⟩ := h1
    exact h2
  | x :: xs, ys, xs', ys', st, st1, st2, h1, h2 => by
    simp only [accM, Option.bind_eq_some_iff] at h1
    obtain ⟨p, k1, q, k2, k3⟩ := h1
    simp only [Option.some.injEq, Prod.mk.injEq] at k3
    obtain ⟨rfl, rfl⟩ := k3
    have k4 := acc_app k2 h2
    show (f st x).bind (fun p => (accM f p.2 (xs ++ ys)).bind fun q => some (p.1 :: q.1, q.2)) = _
    rw [k1]
    show (accM f p.2 (xs ++ ys)).bind (fun q => some (p.1 :: q.1, q.2)) = _
    rw [k4]
    rfl
theorem acc_pU (st : List Ob) (to s : Int) (t : List Src) : accM (frz 10) st (pU to t s) = some (pU to t s, st) := by
  have h1 : accM (frz 10) st [i64 to] = some ([i64 to], st) := rfl
  have h2 : accM (frz 10) st [i64 s] = some ([i64 s], st) := rfl
  exact acc_app (xs := [i64 to]) h1 (acc_app (acc_tab' st t) h2)
theorem acc_tl (st : List Ob) (x : Int) (t : List Src) : accM (frz 10) st (tabU t ++ [.int .i64 x]) = some (tabU t ++ [.int .i64 x], st) := acc_app (acc_tab' st t) (show accM (frz 10) st [.int .i64 x] = some ([.int .i64 x], st) from rfl)
theorem tl_take {t : List Src} (ht : t.length = 24) (x : U) : (tabU t ++ [x]).take 25 = tabU t ++ [x] := by rw [List.take_of_length_le]; rw [List.length_append, tabU_len, ht]; exact Nat.le_refl _
theorem pU_take26 {to s : Int} {t : List Src} (ht : t.length = 24) : (pU to t s).take 26 = pU to t s := by rw [List.take_of_length_le]; rw [pU_len ht]; exact Nat.le_refl _
theorem pU_over {to s : Int} {t : List Src} (ht : t.length = 24) (x y : U) : over (pU to t s) [x, .nilI, .nilI, .nilI, .nilI, .nilI, .nilI, .nilI, .nilI, .nilI, .nilI, .nilI, .nilI, .nilI, .nilI, .nilI, .nilI, .nilI, .nilI, .nilI, .nilI, .nilI, .nilI, .nilI, .nilI, y] = pU to t s := over_full _ _ (by rw [pU_len ht]; rfl)
theorem from_good (p : Bool) (l : List Ins) (a : Nat) (ha : a < l.length) (hr : rightF l = true) (st : List Ob) : Cl T 31 [insL p l, i64 a] st (.tup [pathU (if (pathRun l 201 (ps0 a)).met.getD (pathRun l 201 (ps0 a)).to false then (-1, newT, 0) else (((pathRun l 201 (ps0 a)).to : Int), (pathRun l 201 (ps0 a)).t, ((pathRun l 201 (ps0 a)).steps : Int))), i64 0]) st := by
  refine Wp.pure (fn := c_path_From) rfl rfl rfl («as» := [insL p l, i64 a]) rfl ?_
  have hright := fun st => asmRight_call p l st (insL p l) rfl
  rw [hr] at hright
  have h200 := (right_facts hr).1
  have hai : ¬ l.length ≤ a := by omega
  have nl : newT.length = 24 := rfl
  have mk : i64 (a : Int) :: (tabU newT ++ [.int .i64 0]) = pU a newT 0 := rfl
  (all_goals have := fa (a5 @insL.eq_1 hai @tabU_len nl (a2 @ov1 @ov2)); repeat' first | refine Wp.v ?_ | (apply Wp.call; exact hright _) | (apply Wp.call; exact new_call _) | (refine Wp.c ?_ ?_ <;> intro))
  have h0 : PInv l (ps0 a) := ⟨ha, rfl, List.length_replicate, by
    show 0 + ((List.replicate 200 false).filter (!·)).length = 200
    rw [List.filter_replicate_of_pos rfl, List.length_replicate]⟩
  refine (show Wp T (.loop c_path_From_L0) (fromS p l (.box [.int .i64 0, .nilI, .nilI, .nilI, .nilI, .nilI, .nilI, .nilI, .nilI, .nilI, .nilI, .nilI, .nilI, .nilI, .nilI, .nilI, .nilI, .nilI, .nilI, .nilI, .nilI, .nilI, .nilI, .nilI, .nilI, .int .i64 0]) (201, ps0 a, [])) _ _ _ from (from_loop p l (.box [.int .i64 0, .nilI, .nilI, .nilI, .nilI, .nilI, .nilI, .nilI, .nilI, .nilI, .nilI, .nilI, .nilI, .nilI, .nilI, .nilI, .nilI, .nilI, .nilI, .nilI, .nilI, .nilI, .nilI, .nilI, .nilI, .int .i64 0]) rfl hr (ps0 a) h0 []).impB ?_)
  rintro b s ⟨rfl, rfl, hi, hf⟩
  rw [if_pos rfl]
  generalize pathRun l 201 (ps0 a) = s at *
  obtain ⟨to, t, steps, met⟩ := s
  have hto := hi.to
  have ht := hi.t
  have hm := hi.met
  simp only at hto ht hm
  have hmt : to < met.length := by omega
  have hmt2 : to + 1 ≤ 200 := by omega
  have hmt3 : (to : Int) < 200 := by omega
  have msub := metU_sub hmt
  have hmx : met.getD to false = met[to] := by simp [hmt]
  simp only [pathSt, hmx]
  cases hb : met[to] with
  | true =>
    rw [hb] at msub
    (all_goals have := fa (a5 @pU_take1 @pU_len ht hmt3 (a5 @metU_len hm hmt2 msub (a4 @tabU_len nl @ov1 @ov2))); repeat' first | refine Wp.v ?_ | (apply Wp.call; exact new_call _) | (refine Wp.c ?_ ?_ <;> intro))
    refine Wp.ret ?_
    simp [Res, resU, res1, c_path_From, pathU, pU, acc_tl, tl_take, nl, tabU_len]
  | false =>
    rw [hb] at msub
    (all_goals have := fa (a5 @pU_take1 @pU_len ht hmt3 (a5 @metU_len hm hmt2 msub (a2 @pU_take26 @pU_over))); repeat' first | refine Wp.v ?_ | (refine Wp.c ?_ ?_ <;> intro))
    refine Wp.ret ?_
    simp [Res, resU, res1, c_path_From, pathU, pU_take26, pU_len, ht, acc_pU]
theorem from_call (p : Bool) (l : List Ins) (at_ : Int) (st : List Ob) : Cl T 31 [insL p l, i64 at_] st (.tup [pathU (fromF l at_).1, i64 (fromF l at_).2]) st := by
  cases h : rightF l && decide (0 ≤ at_) && decide (at_ < l.length) with
  | false =>
    have : fromF l at_ = ((0, List.replicate 24 .no, 0), 1) := by unfold fromF; rw [h]; rfl
    rw [this]
    exact from_bad p l at_ st h
  | true =>
    have e : fromF l at_ = ((if (pathRun l 201 (ps0 at_.toNat)).met.getD (pathRun l 201 (ps0 at_.toNat)).to false then (-1, newT, 0) else (((pathRun l 201 (ps0 at_.toNat)).to : Int), (pathRun l 201 (ps0 at_.toNat)).t, ((pathRun l 201 (ps0 at_.toNat)).steps : Int))), 0) := by unfold fromF; rw [h]; rfl
    rw [e]
    simp only [Bool.and_eq_true, decide_eq_true_eq] at h
    obtain ⟨a, rfl⟩ := Int.eq_ofNat_of_zero_le h.1.2
    rw [Int.toNat_natCast]
    exact from_good p l a (by omega) h.1.1 st
def usesF (x : Ins) : List Int :=
  if (4 ≤ x.op ∧ x.op ≤ 12) ∨ x.op = 14 then [x.a, x.b] else if x.op = 13 ∨ x.op = 15 ∨ x.op = 17 ∨ x.op = 18 then [x.a] else []
abbrev intsU (l : List Int) : U := .sl true (l.map fun v => [i64 v])
set_option maxHeartbeats 16000000 in
theorem uses_by (x : Ins) (w f : List UInt8) (hs : shapeU x.op = [.str w, .str f]) (hop : (decide (1 ≤ x.op) && decide (x.op ≤ 18)) = true) (hm : movesF x = false)
    (hf : f = [68, 65, 66] ∧ usesF x = [x.a, x.b] ∨ f = [65, 66] ∧ usesF x = [x.a, x.b] ∨ f = [68, 65] ∧ usesF x = [x.a] ∨ f = [68, 65, 78] ∧ usesF x = [x.a] ∨ f = [65, 84] ∧ usesF x = [x.a] ∨ f = [65] ∧ usesF x = [x.a]) (st : List Ob) :
    Cl T n_ins_Uses [.agg (insU x)] st (intsU (usesF x)) st := by
  refine Wp.pure (fn := c_ins_Uses) rfl rfl rfl («as» := [.agg (insU x)]) rfl ?_
  have hof := of_call x.op
  rw [hop, hs] at hof
  have hmv := moves_call x
  rw [hm] at hmv
  obtain ⟨op, d, a, b, n, to⟩ := x
  simp only [insU] at *
  rcases hf with ⟨rfl, hu⟩ | ⟨rfl, hu⟩ | ⟨rfl, hu⟩ | ⟨rfl, hu⟩ | ⟨rfl, hu⟩ | ⟨rfl, hu⟩
  all_goals
    rw [hu]
    (all_goals have := fa (a2 @dec_at @fieldOff.eq_1); repeat' first | refine Wp.v ?_ | (apply Wp.call; exact hof _) | (apply Wp.call; exact hmv _) | (apply Wp.call; exact field_call _ _ _) | refine Wp.l ?_ | (refine Wp.c ?_ ?_ <;> intro))
    refine Wp.ret ?_
    simp [Res, resU, res1, c_ins_Uses]
theorem uses_call (x : Ins) (h : 4 ≤ x.op ∧ x.op ≤ 18 ∧ ¬ x.op = 16) (st : List Ob) : Cl T n_ins_Uses [.agg (insU x)] st (intsU (usesF x)) st := by
  have hk : x.op = 4 ∨ x.op = 5 ∨ x.op = 6 ∨ x.op = 7 ∨ x.op = 8 ∨ x.op = 9 ∨ x.op = 10 ∨ x.op = 11 ∨ x.op = 12 ∨ x.op = 13 ∨ x.op = 14 ∨ x.op = 15 ∨ x.op = 17 ∨ x.op = 18 := by omega
  obtain ⟨op, d, a, b, n, to⟩ := x
  simp only at hk
  rcases hk with rfl | rfl | rfl | rfl | rfl | rfl | rfl | rfl | rfl | rfl | rfl | rfl | rfl | rfl
  all_goals first
    | exact uses_by _ _ [68, 65, 66] rfl rfl rfl (.inl ⟨rfl, by simp [usesF]⟩) st
    | exact uses_by _ _ [65, 66] rfl rfl rfl (.inr (.inl ⟨rfl, by simp [usesF]⟩)) st
    | exact uses_by _ _ [68, 65] rfl rfl rfl (.inr (.inr (.inl ⟨rfl, by simp [usesF]⟩))) st
    | exact uses_by _ _ [68, 65, 78] rfl rfl rfl (.inr (.inr (.inr (.inl ⟨rfl, by simp [usesF]⟩)))) st
    | exact uses_by _ _ [65, 84] rfl rfl rfl (.inr (.inr (.inr (.inr (.inl ⟨rfl, by simp [usesF]⟩))))) st
    | exact uses_by _ _ [65] rfl rfl rfl (.inr (.inr (.inr (.inr (.inr ⟨rfl, by simp [usesF]⟩))))) st
structure RP where
  to : Nat
  t : List Src
  steps : Nat
def refStep (l : List Ins) (s : RP) : RP := ⟨nextTo (l.getD s.to default) s.to, afterF s.t (l.getD s.to default), s.steps + 1⟩
def refRun (l : List Ins) : Nat → RP → Option RP
  | 0, _ => none
  | n + 1, s => if movesF (l.getD s.to default) then refRun l n (refStep l s) else some s
theorem place5_call (x : Int) (st : List Ob) : Cl T 90 [i64 x] st (.bool (locF 24 x)) st := by
  refine Wp.pure (fn := c_joineryref05_place) rfl rfl rfl («as» := [i64 x]) rfl ?_
  (repeat' first | refine Wp.u ?_ | (refine Wp.c ?_ ?_ <;> intro))
  (all_goals refine Wp.ret ?_); (all_goals (try simp_all [Res, resU, res1, c_joineryref05_place, locF])); (all_goals (try omega))
theorem moves3_call (x : Ins) (st : List Ob) : Cl T 24 [.agg (insU x)] st (.bool (movesF x)) st := by
  refine Wp.pure (fn := c_joineryref03_Moves) rfl rfl rfl («as» := [.agg (insU x)]) rfl ?_
  (all_goals have := fa @insU.eq_1; repeat' first | refine Wp.v ?_ | (refine Wp.c ?_ ?_ <;> intro))
  (all_goals refine Wp.ret ?_); (all_goals (try simp_all [Res, resU, res1, c_joineryref03_Moves, movesF])); (all_goals (try omega))
def asU : Src → List U
  | .was l => [i64 0, i64 l]
  | .is n => [i64 1, i64 n]
  | .no => [i64 2, i64 0]
def refT (p : Bool) (t : List Src) : U := .sl p (t.map asU)
theorem new5_call (st : List Ob) : Cl T 81 [] st (refT true newT) st := Cl.at (n := 60) (by kernel_rfl) rfl st
theorem asU_len (s : Src) : (asU s).length = 2 := by cases s <;> rfl
theorem acc_asU (st : List Ob) (s : Src) : accM (frz frzD) st (asU s) = some (asU s, st) := by cases s <;> rfl
def g5S (p : Bool) (t : List Src) (i : Nat) : S := ⟨[(0, refT p t), (3, i64 i)], []⟩
theorem good5_loop (p : Bool) (t : List Src) (ht : t.length = 24) : Wp T (.loop c_joineryref05_Good_L0) (g5S p t (0 : Nat)) (fun _ => False) (Res c_joineryref05_Good (.bool (t.all mayF))) (fun b s' => b = 0 ∧ s' = ⟨[(0, refT p t), (3, i64 (24 : Nat)), (7, .bool false)], []⟩ ∧ t.all mayF = true) := by
  refine Wp.count 24 (fun i => g5S p t i) (fun i => ∀ j (h : j < t.length), j < i → mayF t[j] = true) (fun i hi hP => ?_) (fun hP => ?_) 0 (by omega) (fun j _ h => absurd h (by omega))
  · have hit : i < t.length := by omega
    have hi' : (i : Int) < 24 := by omega
    have hstep : mayF t[i] = true → ∀ j (h : j < t.length), j < i + 1 → mayF t[j] = true := fun hm j hj hji => by
      by_cases e : j = i
      · subst e; exact hm
      · exact hP j hj (by omega)
    have hbad : mayF t[i] = false → t.all mayF = false := fun hm => by
      rw [List.all_eq_false]
      exact ⟨t[i], List.getElem_mem hit, by rw [hm]; decide⟩
    simp only [g5S]
    cases hs : t[i] with
    | was l =>
      rw [hs] at hstep hbad
      cases hm : mayF (.was l) with
      | false =>
        rw [hbad hm]
        simp [mayF, locF] at hm
        (repeat' first | refine Wp.t ?_ | ((first | apply Wp.op | apply Wp.opN); (apply Evt.all; intro; (simp [refT, hit, hs, asU, asU_len]) <;> (try simp (disch := omega) only [wrap_id]) <;> first | exact ⟨rfl, rfl⟩ | exact rfl)) | (refine Wp.c ?_ ?_ <;> intro))
        all_goals first
          | (exfalso; simp_all; omega)
          | (refine Wp.ret ?_; simp [Res, resU, res1, c_joineryref05_Good]; done)
      | true =>
        have hst := hstep hm
        simp [mayF, locF] at hm
        (repeat' first | refine Wp.t ?_ | ((first | apply Wp.op | apply Wp.opN); (apply Evt.all; intro; (simp [refT, hit, hs, asU, asU_len]) <;> (try simp (disch := omega) only [wrap_id]) <;> first | exact ⟨rfl, rfl⟩ | exact rfl)) | (refine Wp.c ?_ ?_ <;> intro))
        all_goals first
          | (exfalso; simp_all; omega)
          | (refine ⟨?_, hst⟩; simp [trimO, trim, refT]; done)
    | is n =>
      rw [hs] at hstep hbad
      (repeat' first | refine Wp.t ?_ | ((first | apply Wp.op | apply Wp.opN); (apply Evt.all; intro; (simp [refT, hit, hs, asU, asU_len]) <;> (try simp (disch := omega) only [wrap_id]) <;> first | exact ⟨rfl, rfl⟩ | exact rfl)) | (refine Wp.c ?_ ?_ <;> intro))
      all_goals first
        | (refine ⟨?_, hstep rfl⟩; simp [trimO, trim, refT]; done)
    | no =>
      rw [hs] at hstep hbad
      (repeat' first | refine Wp.t ?_ | ((first | apply Wp.op | apply Wp.opN); (apply Evt.all; intro; (simp [refT, hit, hs, asU, asU_len]) <;> (try simp (disch := omega) only [wrap_id]) <;> first | exact ⟨rfl, rfl⟩ | exact rfl)) | (refine Wp.c ?_ ?_ <;> intro))
      all_goals first
        | (refine Wp.ret ?_; rw [hbad rfl]; simp [Res, resU, res1, c_joineryref05_Good]; done)
  · simp only [g5S]
    (have := fa (a2 @refT.eq_1 ht); repeat refine Wp.f ?_)
    refine Wp.i ?_ ?_ <;> intro h1
    · cases h1
    · refine Wp.exit ⟨rfl, rfl, ?_⟩
      rw [List.all_eq_true]
      intro s hs
      obtain ⟨j, hj, rfl⟩ := List.mem_iff_getElem.1 hs
      exact hP j hj (by omega)
theorem goodQ5_call (p : Bool) (t : List Src) (ht : t.length = 24) (st : List Ob) : Cl T 102 [refT p t] st (.bool (t.all mayF)) st := by
  refine Wp.pure (fn := c_joineryref05_Good) rfl rfl rfl («as» := [refT p t]) rfl ?_
  repeat refine Wp.a ?_
  refine (show Wp T (.loop c_joineryref05_Good_L0) (g5S p t (0 : Nat)) _ _ _ from (good5_loop p t ht).imp (fun _ h => h.elim) (fun _ h => h) ?_)
  rintro b s ⟨rfl, rfl, hall⟩
  rw [if_pos rfl]
  (have := fa (a2 @refT.eq_1 ht); repeat refine Wp.f ?_)
  refine Wp.ret ?_
  simp [Res, resU, res1, c_joineryref05_Good, hall]
theorem good5_call (t : List Src) (ht : t.length = 24) (st : List Ob) : Cl T 89 [refT true t] st (refT true (goodF t)) st := by
  refine Wp.pure (fn := c_joineryref05_good) rfl rfl rfl («as» := [refT true t]) rfl ?_
  repeat refine Wp.a ?_
  apply Wp.call
  · exact goodQ5_call true t ht _
  cases hg : t.all mayF with
  | true =>
    have hgf : goodF t = t := by unfold goodF; rw [if_pos hg]
    repeat refine Wp.a ?_
    refine Wp.i ?_ ?_ <;> intro h1
    · repeat refine Wp.a ?_
      refine Wp.ret ?_
      rw [hgf]
      simp [Res, resU, res1, c_joineryref05_good, refT]
    · cases h1
  | false =>
    have hgf : goodF t = newT := by unfold goodF; rw [hg]; rfl
    repeat refine Wp.a ?_
    refine Wp.i ?_ ?_ <;> intro h1
    · cases h1
    repeat refine Wp.a ?_
    apply Wp.call
    · exact new5_call _
    repeat refine Wp.a ?_
    refine Wp.ret ?_
    rw [hgf]
    simp [Res, resU, res1, c_joineryref05_good, refT]
def afterR (t : List Src) (x : Ins) : List Src :=
  if locF 24 x.d && locF 24 x.a then
    (if x.op = 1 then (goodF t).set x.d.toNat (.is x.n) else if x.op = 2 then (goodF t).set x.d.toNat ((goodF t).getD x.a.toNat .no)
      else if x.op = 3 then ((goodF t).set x.d.toNat ((goodF t).getD x.a.toNat .no)).set x.a.toNat ((goodF t).getD x.d.toNat .no) else goodF t)
  else goodF t
theorem afterR_eq {t : List Src} {x : Ins} (h : movesF x = true) : afterR t x = afterF t x := by
  unfold afterR afterF
  rw [h, Bool.true_and]
theorem over_asU (s : Src) (a b : U) : over (asU s) [a, b] = asU s := by cases s <;> rfl
theorem splice_asU (s : Src) (a b : U) : splice (asU s) 0 [a, b] = [a, b] := by cases s <;> rfl
theorem splice_asU2 (s s' : Src) : splice (asU s) 0 (asU s') = asU s' := by cases s <;> cases s' <;> rfl
theorem over_asU2 (s s' : Src) : over (asU s) (asU s') = asU s := by cases s <;> cases s' <;> rfl
theorem over_asU3 (s : Src) (a b : U) : over [a, b] (asU s) = [a, b] := by cases s <;> rfl
theorem take_asU (s : Src) : (asU s).take 2 = asU s := by cases s <;> rfl
theorem is_asU (n : Int) : [U.int .i64 1, U.int .i64 n] = asU (.is n) := rfl
theorem acc_asUs (st : List Ob) : ∀ t : List Src, accM (accM (frz frzD)) st (t.map asU) = some (t.map asU, st)
  | [] => rfl
  | s :: t => by rw [List.map_cons, accMM_cons, acc_asU, Option.bind_some, acc_asUs st t]; rfl
set_option maxHeartbeats 4000000 in
theorem after5_call (t : List Src) (x : Ins) (ht : t.length = 24) (st : List Ob) : Cl T 82 [refT true t, .agg (insU x)] st (refT true (afterR t x)) st := by
  refine Wp.pure (fn := c_joineryref05_After) rfl rfl rfl («as» := [refT true t, .agg (insU x)]) rfl ?_
  have hg := goodF_len ht
  have hgood := good5_call t ht
  unfold afterR
  generalize goodF t = g at *
  obtain ⟨op, d, a, b, n, to⟩ := x
  have hd := place5_call d
  have ha := place5_call a
  simp only
  cases m2 : locF 24 d with
  | false =>
    rw [m2] at hd
    (all_goals have := fa (a5 @insU.eq_1 @refT.eq_1 @asU_len @acc_asUs hg); repeat' first | refine Wp.v ?_ | (apply Wp.call; exact hgood _) | (apply Wp.call; exact hd _) | (apply Wp.call; exact ha _) | (refine Wp.c ?_ ?_ <;> intro))
    all_goals refine Wp.ret ?_
    all_goals simp [Res, resU, res1, c_joineryref05_After, refT, hg]
  | true =>
  cases m3 : locF 24 a with
  | false =>
    rw [m2] at hd
    rw [m3] at ha
    (all_goals have := fa (a5 @insU.eq_1 @refT.eq_1 @asU_len @acc_asUs hg); repeat' first | refine Wp.v ?_ | (apply Wp.call; exact hgood _) | (apply Wp.call; exact hd _) | (apply Wp.call; exact ha _) | (refine Wp.c ?_ ?_ <;> intro))
    all_goals refine Wp.ret ?_
    all_goals simp [Res, resU, res1, c_joineryref05_After, refT, hg]
  | true =>
  rw [m2] at hd
  rw [m3] at ha
  simp only [locF, Bool.and_eq_true, decide_eq_true_eq] at m2 m3
  obtain ⟨D, rfl⟩ := Int.eq_ofNat_of_zero_le m2.1
  obtain ⟨A, rfl⟩ := Int.eq_ofNat_of_zero_le m3.1
  have D1 : D < 24 := by omega
  have A1 : A < 24 := by omega
  have D3 : D < g.length := by omega
  have A3 : A < g.length := by omega
  have gA : g.getD A .no = g[A] := by simp [A3]
  have gD : g.getD D .no = g[D] := by simp [D3]
  simp only [Int.toNat_natCast, gA, gD]
  have D2 : (D : Int) < 24 := by omega
  have A2 : (A : Int) < 24 := by omega
  have eD : g[D]? = some g[D] := List.getElem?_eq_getElem D3
  have eA : g[A]? = some g[A] := List.getElem?_eq_getElem A3
  have dr : ∀ (K R : S → Prop) (B : Nat → S → Prop), K ⟨[(3, .bp 0 0), (5, .own 1 24), (6, .bp 2 0), (7, .bp 3 0)], [.box [i64 op, i64 D, i64 A, i64 b, i64 n, i64 to], .row 108 2 false (g.map asU), .box (asU g[D]), .box (asU g[A])]⟩ →
      Wp T (.opsD c_joineryref05_After_D0 [0, 0, 2, 7, 15, 0, 0, 64, 224, 480, 0, 0, 3103, 8191] [3, 5, 6, 7]) ⟨[(3, .bp 0 0), (5, .own 1 24), (21, .bool false)], [.box [i64 op, i64 D, i64 A, i64 b, i64 n, i64 to], .row 108 2 false (g.map asU)]⟩ K R B := fun K R B hk => by
    refine Wp.draw (by (simp [c_joineryref05_After_D0, I.need]) <;> rfl) (by (simp [D2, A2, eD, eA, hg, asU_len, take_asU, over_asU]) <;> rfl) (by (simp [D2, A2, eD, eA, hg, asU_len, take_asU, over_asU]) <;> rfl) (by (unfold c_joineryref05_After_D0); (repeat (first | ((first | apply Dr.op | apply Dr.opN | (apply Dr.opG; exact rfl)); ((simp [D2, A2, eD, eA, hg, asU_len, take_asU, over_asU]) <;> rfl); (apply Evt.all; intro; (simp [D2, A2, eD, eA, hg, asU_len, take_asU, over_asU]) <;> (try simp (disch := omega) only [wrap_id]) <;> first | exact ⟨rfl, rfl⟩ | exact rfl); ((simp [I.need]) <;> rfl)) | ((first | (apply Dr.opS; exact rfl; decide) | (apply Dr.opS0; exact rfl)); ((simp [I.need]) <;> rfl)))); exact Dr.nil) (by first | decide +kernel | exact rfl) (by (simp [M2.keep]) <;> rfl) ?_
    exact hk
  rw [if_pos (show (true && true) = true from rfl)]
  by_cases c1 : op = 1
  · subst c1
    obtain ⟨h, hh⟩ : ∃ h, h = g.set D (.is n) := ⟨_, rfl⟩
    have h24 : h.length = 24 := by rw [hh, List.length_set]; exact hg
    have s1 : (g.map asU).set D [.int .i64 1, i64 n] = h.map asU := by rw [hh, List.map_set]; rfl
    have a1 : ∀ st, accM (frz frzD) st [.int .i64 1, i64 n] = some ([.int .i64 1, i64 n], st) := fun _ => rfl
    rw [if_pos rfl, ← hh]
    (repeat' first | refine Wp.t ?_ | ((first | apply Wp.op | apply Wp.opN); (apply Evt.all; intro; (simp [-List.map_set, insU, refT, asU_len, acc_asUs, acc_asU, hg, D2, A2, eD, eA, over_asU, splice_asU, splice_asU2, over_asU2, over_asU3, take_asU, s1, a1, h24]) <;> (try simp (disch := omega) only [wrap_id]) <;> first | exact ⟨rfl, rfl⟩ | exact rfl)) | (apply Wp.call; exact hgood _) | (apply Wp.call; exact hd _) | (apply Wp.call; exact ha _) | (apply dr) | (refine Wp.c ?_ ?_ <;> intro))
    all_goals refine Wp.ret ?_
    all_goals simp [Res, resU, res1, c_joineryref05_After, refT, h24]
  by_cases c2 : op = 2
  · subst c2
    obtain ⟨h, hh⟩ : ∃ h, h = g.set D g[A] := ⟨_, rfl⟩
    have h24 : h.length = 24 := by rw [hh, List.length_set]; exact hg
    have s1 : (g.map asU).set D (asU g[A]) = h.map asU := by rw [hh, List.map_set]
    rw [if_neg (by decide), if_pos rfl, ← hh]
    (repeat' first | refine Wp.t ?_ | ((first | apply Wp.op | apply Wp.opN); (apply Evt.all; intro; (simp [-List.map_set, insU, refT, asU_len, acc_asUs, acc_asU, hg, D2, A2, eD, eA, over_asU, splice_asU, splice_asU2, over_asU2, over_asU3, take_asU, s1, h24]) <;> (try simp (disch := omega) only [wrap_id]) <;> first | exact ⟨rfl, rfl⟩ | exact rfl)) | (apply Wp.call; exact hgood _) | (apply Wp.call; exact hd _) | (apply Wp.call; exact ha _) | (apply dr) | (refine Wp.c ?_ ?_ <;> intro))
    all_goals refine Wp.ret ?_
    all_goals simp [Res, resU, res1, c_joineryref05_After, refT, h24]
  by_cases c3 : op = 3
  · subst c3
    obtain ⟨h, hh⟩ : ∃ h, h = g.set D g[A] := ⟨_, rfl⟩
    have h24 : h.length = 24 := by rw [hh, List.length_set]; exact hg
    have s1 : (g.map asU).set D (asU g[A]) = h.map asU := by rw [hh, List.map_set]
    obtain ⟨k, hk⟩ : ∃ k, k = h.set A g[D] := ⟨_, rfl⟩
    have k24 : k.length = 24 := by rw [hk, List.length_set]; exact h24
    have s2 : (h.map asU).set A (asU g[D]) = k.map asU := by rw [hk, List.map_set]
    have eh : h[A]? = some (h[A]'(by omega)) := List.getElem?_eq_getElem (by omega)
    rw [if_neg (by decide), if_neg (by decide), if_pos rfl, ← hh, ← hk]
    (repeat' first | refine Wp.t ?_ | ((first | apply Wp.op | apply Wp.opN); (apply Evt.all; intro; (simp [-List.map_set, insU, refT, asU_len, acc_asUs, acc_asU, hg, D2, A2, eD, eA, over_asU, splice_asU, splice_asU2, over_asU2, over_asU3, take_asU, s1, s2, h24, k24, eh]) <;> (try simp (disch := omega) only [wrap_id]) <;> first | exact ⟨rfl, rfl⟩ | exact rfl)) | (apply Wp.call; exact hgood _) | (apply Wp.call; exact hd _) | (apply Wp.call; exact ha _) | (apply dr) | (refine Wp.c ?_ ?_ <;> intro))
    all_goals refine Wp.ret ?_
    all_goals simp [Res, resU, res1, c_joineryref05_After, refT, k24]
  · rw [if_neg c1, if_neg c2, if_neg c3]
    (repeat' first | refine Wp.t ?_ | ((first | apply Wp.op | apply Wp.opN); (apply Evt.all; intro; (simp [-List.map_set, insU, refT, asU_len, acc_asUs, acc_asU, hg, D2, A2, eD, eA, over_asU, splice_asU, splice_asU2, over_asU2, over_asU3, take_asU, c1, c2, c3]) <;> (try simp (disch := omega) only [wrap_id]) <;> first | exact ⟨rfl, rfl⟩ | exact rfl)) | (apply Wp.call; exact hgood _) | (apply Wp.call; exact hd _) | (apply Wp.call; exact ha _) | (apply dr) | (refine Wp.c ?_ ?_ <;> intro))
    all_goals refine Wp.ret ?_
    all_goals simp [Res, resU, res1, c_joineryref05_After, refT, hg]
theorem asU_same (x y : Src) : sameV (.tst [(1, .ti), (1, .ti)]) (.agg (asU x)) (.agg (asU y)) = some (decide (x = y)) := by
  cases x <;> cases y <;> simp only [sameV, cellsS, Option.bind_some, asU, sameD, same, same.fields, List.length_cons, List.length_nil, List.take, List.drop, i64] <;> simp
  all_goals (rename_i a b; by_cases h : a = b <;> simp [h])
def rpU (s : RP) : List U := [i64 s.to, refT true s.t, i64 s.steps]
def refAns (l : List Ins) (a : Nat) : U := match refRun l (l.length + 1) ⟨a, newT, 0⟩ with
  | some s => .agg (rpU s)
  | none => .agg [i64 (-1), refT true newT, i64 0]
def rfS (p : Bool) (l : List Ins) (i : Nat) (s : RP) : S := ⟨[(0, insL p l), (4, .bp 0 0), (5, .bp 1 0), (6, i64 i)], [.box [i64 0, .nils, i64 0], .box (rpU s)]⟩
theorem pf42 : pfT T 82 = true := rfl
set_option maxHeartbeats 4000000 in
theorem rf_step (p : Bool) (l : List Ins) (hr : rightF l = true) (i : Nat) (hi : i ≤ l.length) (s : RP) (hto : s.to < l.length) (hs : s.steps ≤ i) (ht : s.t.length = 24) (u : U) (hu : movesF (l.getD s.to default) = false → u = .agg (rpU s)) :
    Wp T c_joineryref09_From_L1 (rfS p l i s) (fun s' => movesF (l.getD s.to default) = true ∧ trimO 2 s' = rfS p l (i + 1) (refStep l s)) (Res c_joineryref09_From u) (fun _ _ => False) := by
  have h200 := (right_facts hr).1
  have hx : l.getD s.to default = l[s.to] := by simp [hto]
  have hnx := nextTo_ok hr hto
  have hmv := moves3_call (l.getD s.to default)
  have haf := after5_call s.t (l.getD s.to default) ht
  unfold refStep
  rw [hx] at hnx hu hmv haf ⊢
  have hii : (i : Int) ≤ l.length := by omega
  obtain ⟨to, t, steps⟩ := s
  simp only at hto hs ht hnx hu hmv haf ⊢
  simp only [rfS, rpU]
  have hnn : ((nextTo l[to] to : Nat) : Int) = if l[to].op = 16 then l[to].to else (to : Int) + 1 := by
    unfold nextTo
    split
    · rename_i h16
      have := (hnx (by rw [movesF]; simp [h16])).2 h16
      omega
    · omega
  (have := fa (a2 @insL.eq_1 hii); repeat refine Wp.f ?_)
  refine Wp.i ?_ ?_ <;> intro h1
  · (have := fa (a5 @insL.eq_1 hto @insU_len @insU_take @over_full); repeat refine Wp.f ?_)
    apply Wp.call
    · exact hmv _
    cases hm : movesF l[to] with
    | false =>
      rw [hu hm]
      repeat refine Wp.a ?_
      refine Wp.i ?_ ?_ <;> intro h2
      · repeat refine Wp.a ?_
        refine Wp.ret ?_
        simp [Res, resU, res1, c_joineryref09_From, refT, rpU]
      · cases h2
    | true =>
      rw [afterR_eq hm] at haf
      repeat refine Wp.a ?_
      refine Wp.i ?_ ?_ <;> intro h2
      · cases h2
      (have := fa (a2 @wrap_id @insU.eq_1); repeat refine Wp.f ?_)
      have fin : ∀ b v, (trimO 2 ⟨[(0, .sl p (l.map insU)), (4, .bp 0 0), (5, .bp 1 0), (6, i64 ((i : Int) + 1))], [.box [i64 0, .nils, i64 0], .box [i64 b, refT true (afterF t l[to]), i64 ((steps : Int) + 1)], v]⟩) = ⟨[(0, .sl p (l.map insU)), (4, .bp 0 0), (5, .bp 1 0), (6, i64 ((i : Int) + 1))], [.box [i64 0, .nils, i64 0], .box [i64 b, refT true (afterF t l[to]), i64 ((steps : Int) + 1)]]⟩ := fun b v => by
        simp [trimO, trim, refT]
      rw [hnn]
      refine Wp.i ?_ ?_ <;> intro hc
      · have h16 : l[to].op = 16 := by simpa using hc
        rw [if_pos h16]
        repeat refine Wp.a ?_
        refine Wp.draw (by (simp [c_joineryref09_From_D0, I.need]) <;> rfl) (by (simp [wrap_id, refT, pf42]) <;> rfl) (by (simp [wrap_id, refT, pf42]) <;> rfl) (by (unfold c_joineryref09_From_D0); (repeat (first | ((first | apply Dr.op | apply Dr.opN | (apply Dr.opG; exact rfl)); ((simp [wrap_id, refT, pf42]) <;> rfl); (apply Evt.all; intro; (simp [wrap_id, refT, pf42]) <;> (try simp (disch := omega) only [wrap_id]) <;> first | exact ⟨rfl, rfl⟩ | exact rfl); ((simp [I.need]) <;> rfl)) | ((first | (apply Dr.opS; exact rfl; decide) | (apply Dr.opS0; exact rfl)); ((simp [I.need]) <;> rfl)) | (apply Dr.call; ((simp [wrap_id, refT, pf42]) <;> rfl); exact haf _) | (apply Dr.callG; (exact rfl); ((simp [wrap_id, refT, pf42]) <;> rfl); exact haf _))); exact Dr.nil) (by first | decide +kernel | exact rfl) (by (simp [M2.keep]) <;> rfl) ?_
        (have := fa @wrap_id; repeat refine Wp.f ?_)
        exact ⟨rfl, fin _ _⟩
      · have h16 : ¬ l[to].op = 16 := by simpa using hc
        rw [if_neg h16]
        repeat refine Wp.a ?_
        refine Wp.draw (by (simp [c_joineryref09_From_D0, I.need]) <;> rfl) (by (simp [wrap_id, refT, pf42]) <;> rfl) (by (simp [wrap_id, refT, pf42]) <;> rfl) (by (unfold c_joineryref09_From_D0); (repeat (first | ((first | apply Dr.op | apply Dr.opN | (apply Dr.opG; exact rfl)); ((simp [wrap_id, refT, pf42]) <;> rfl); (apply Evt.all; intro; (simp [wrap_id, refT, pf42]) <;> (try simp (disch := omega) only [wrap_id]) <;> first | exact ⟨rfl, rfl⟩ | exact rfl); ((simp [I.need]) <;> rfl)) | ((first | (apply Dr.opS; exact rfl; decide) | (apply Dr.opS0; exact rfl)); ((simp [I.need]) <;> rfl)) | (apply Dr.call; ((simp [wrap_id, refT, pf42]) <;> rfl); exact haf _) | (apply Dr.callG; (exact rfl); ((simp [wrap_id, refT, pf42]) <;> rfl); exact haf _))); exact Dr.nil) (by first | decide +kernel | exact rfl) (by (simp [M2.keep]) <;> rfl) ?_
        (have := fa @wrap_id; repeat refine Wp.f ?_)
        exact ⟨rfl, fin _ _⟩
  · cases h1
theorem rf_out (p : Bool) (l : List Ins) (i : Nat) (hi : l.length < i) (s : RP) : Wp T c_joineryref09_From_L1 (rfS p l i s) (fun _ => False) (fun _ => False) (fun b s' => b = 0 ∧ s' = ⟨[(0, insL p l), (4, .bp 0 0), (5, .bp 1 0), (6, i64 i), (15, .bool false)], [.box [i64 0, .nils, i64 0], .box (rpU s)]⟩) := by
  have hii : ¬ (i : Int) ≤ l.length := by omega
  have hii2 : ¬ i ≤ l.length := by omega
  simp only [rfS]
  (have := fa (a3 @insL.eq_1 hii hii2); repeat refine Wp.f ?_)
  refine Wp.i ?_ ?_ <;> intro h1
  · cases h1
  · exact Wp.exit ⟨rfl, rfl⟩
structure RInv (l : List Ins) (i : Nat) (s : RP) : Prop where
  le : i ≤ l.length + 1
  to : s.to < l.length
  steps : s.steps ≤ i
  t : s.t.length = 24
theorem rf_loop (p : Bool) (l : List Ins) (hr : rightF l = true) (a : Nat) (ha : a < l.length) :
    Wp T (.loop c_joineryref09_From_L1) (rfS p l (0 : Nat) ⟨a, newT, 0⟩) (fun _ => False) (Res c_joineryref09_From (refAns l a)) (fun b s' => b = 0 ∧ ∃ s : RP, s' = ⟨[(0, insL p l), (4, .bp 0 0), (5, .bp 1 0), (6, i64 (l.length + 1 : Nat)), (15, .bool false)], [.box [i64 0, .nils, i64 0], .box (rpU s)]⟩ ∧ refRun l (l.length + 1) ⟨a, newT, 0⟩ = none) := by
  refine Wp.loop (fun x : Nat × RP => l.length + 1 - x.1) (fun x => rfS p l x.1 x.2) (fun x => RInv l x.1 x.2 ∧ refRun l (l.length + 1 - x.1) x.2 = refRun l (l.length + 1) ⟨a, newT, 0⟩) (fun x ⟨hx, hrun⟩ => ?_) (0, ⟨a, newT, 0⟩) ⟨⟨by simp, ha, Nat.le_refl _, rfl⟩, rfl⟩
  obtain ⟨i, s⟩ := x
  have hi := hx.le
  simp only at hi hrun ⊢
  by_cases h : i = l.length + 1
  · subst h
    refine (rf_out p l _ (by omega) s).imp (fun _ h => h.elim) (fun _ h => h.elim) ?_
    rintro b s' ⟨rfl, rfl⟩
    refine ⟨rfl, s, rfl, ?_⟩
    rw [← hrun, Nat.sub_self]
    rfl
  · have hle : i ≤ l.length := by omega
    have hn : l.length + 1 - i = (l.length - i) + 1 := by omega
    rw [hn, refRun] at hrun
    refine (rf_step p l hr i hle s hx.to hx.steps hx.t (refAns l a) (fun hm => ?_)).imp (fun s' h => ?_) (fun _ h => h) (fun _ _ h => h.elim)
    · rw [hm, if_neg (by simp)] at hrun
      unfold refAns
      rw [← hrun]
    · obtain ⟨hm, htr⟩ := h
      rw [hm, if_pos rfl] at hrun
      refine ⟨(i + 1, refStep l s), htr, by simp only; omega, ⟨by simp only; omega, (nextTo_ok hr hx.to hm).1, ?_, ?_⟩, ?_⟩
      · have := hx.steps
        simp only [refStep] at this ⊢; omega
      · exact afterF_len hx.t _
      · rw [← hrun, show l.length + 1 - (i + 1) = l.length - i by omega]
theorem reffrom_call (p : Bool) (l : List Ins) (hr : rightF l = true) (a : Nat) (ha : a < l.length) (st : List Ob) : Cl T 61 [insL p l, i64 a] st (refAns l a) st := by
  refine Wp.pure (fn := c_joineryref09_From) rfl rfl rfl («as» := [insL p l, i64 a]) rfl ?_
  repeat refine Wp.a ?_
  apply Wp.call
  · exact new5_call _
  (have := fa @refT.eq_1; repeat refine Wp.f ?_)
  refine (show Wp T (.loop c_joineryref09_From_L1) (rfS p l (0 : Nat) ⟨a, newT, 0⟩) _ _ _ from (rf_loop p l hr a ha).imp (fun _ h => h.elim) (fun _ h => h) ?_)
  rintro b s ⟨rfl, s, rfl, hn⟩
  rw [if_pos rfl]
  unfold refAns
  rw [hn]
  repeat refine Wp.a ?_
  apply Wp.call
  · exact new5_call _
  (have := fa @refT.eq_1; repeat refine Wp.f ?_)
  refine Wp.ret ?_
  simp [Res, resU, res1, c_joineryref09_From, refT]
end Go.Proofs.YtcehbpimdngjfaaDoor.M2
namespace Go.Proofs.YtcehbpimdngjfaaDoor.M2
open Go
theorem refRun_none {l : List Ins} {P : Nat → Prop} (h : ∀ j, P j → movesF (l.getD j default) = true ∧ P (nextTo (l.getD j default) j)) : ∀ (n : Nat) (s : RP), P s.to → refRun l n s = none
  | 0, _, _ => rfl
  | n + 1, s, hs => by
    rw [refRun, (h _ hs).1, if_pos rfl]
    exact refRun_none h n _ (h _ hs).2
structure CInv (l : List Ins) (a : Nat) (s : PS) : Prop where
  base : PInv l s
  cl : ∀ j, s.met.getD j false = true → j < l.length ∧ movesF (l.getD j default) = true ∧ (nextTo (l.getD j default) j = s.to ∨ s.met.getD (nextTo (l.getD j default) j) false = true)
  st : s.met.getD a false = true ∨ s.to = a
  run : refRun l (l.length + 1) ⟨a, newT, 0⟩ = refRun l (l.length + 1 - s.steps) ⟨s.to, s.t, s.steps⟩
theorem frees_app (a b : List Bool) : frees (a ++ b) = frees a + frees b := by simp [frees]
theorem frees_all {m : List Bool} (h : ∀ b ∈ m, b = false) : frees m = m.length := by
  unfold frees
  rw [List.filter_eq_self.2]
  intro b hb
  rw [h b hb]
  rfl
theorem steps_le {l : List Ins} {a : Nat} {s : PS} (h : CInv l a s) (h200 : l.length ≤ 200) : s.steps ≤ l.length := by
  have h1 : frees s.met = frees (s.met.take l.length) + frees (s.met.drop l.length) := by rw [← frees_app, List.take_append_drop]
  have h2 : frees (s.met.drop l.length) = (s.met.drop l.length).length := frees_all (fun b hb => by
    obtain ⟨j, hj, rfl⟩ := List.mem_iff_getElem.1 hb
    rw [List.getElem_drop]
    rw [List.length_drop] at hj
    cases hb : s.met[l.length + j] with
    | false => rfl
    | true =>
      have := (h.cl (l.length + j) (by rw [List.getD_eq_getElem?_getD, List.getElem?_eq_getElem (by omega), Option.getD_some, hb])).1
      omega)
  rw [List.length_drop] at h2
  have := h.base.steps
  have := h.base.met
  omega
theorem follow_cinv {l : List Ins} (hr : rightF l = true) {a : Nat} {s : PS} (h : CInv l a s) (hf : followsF l s = true) : CInv l a (followF l s) := by
  have h200 := (right_facts hr).1
  have hle := steps_le h h200
  have hb := (follow_inv hr h.base hf).1
  unfold followsF at hf
  simp only [Bool.and_eq_true, Bool.not_eq_true'] at hf
  have hmt : s.to < s.met.length := by have := h.base.to; have := h.base.met; omega
  have get : ∀ j, (s.met.set s.to true).getD j false = (decide (s.to = j) || s.met.getD j false) := fun j => by
    simp only [List.getD_eq_getElem?_getD, List.getElem?_set]
    by_cases e : s.to = j
    · subst e; simp [hmt]
    · simp [e]
  refine ⟨hb, fun j hj => ?_, ?_, ?_⟩
  · simp only [followF] at hj ⊢
    rw [get] at hj
    by_cases e : s.to = j
    · subst e
      exact ⟨h.base.to, hf.1, .inl rfl⟩
    · simp only [e, decide_false, Bool.false_or] at hj
      obtain ⟨h1, h2, h3⟩ := h.cl j hj
      refine ⟨h1, h2, .inr ?_⟩
      rw [get]
      rcases h3 with h3 | h3
      · rw [h3, decide_eq_true rfl, Bool.true_or]
      · rw [h3, Bool.or_true]
  · left
    simp only [followF]
    rw [get]
    rcases h.st with h1 | h1
    · rw [h1, Bool.or_true]
    · simp [h1]
  · rw [h.run]
    have : l.length + 1 - s.steps = (l.length - s.steps) + 1 := by omega
    rw [this, refRun, hf.1, if_pos rfl]
    simp only [followF, refStep]
    rw [show l.length + 1 - (s.steps + 1) = l.length - s.steps by omega]
theorem pathRun_end {l : List Ins} (hr : rightF l = true) {a : Nat} : ∀ (n : Nat) (s : PS), CInv l a s → frees s.met < n → CInv l a (pathRun l n s) ∧ followsF l (pathRun l n s) = false
  | 0, _, _, h => absurd h (by omega)
  | n + 1, s, h, hn => by
    rw [pathRun]
    cases hf : followsF l s with
    | false => rw [if_neg (by simp)]; exact ⟨h, hf⟩
    | true =>
      rw [if_pos rfl]
      exact pathRun_end hr n _ (follow_cinv hr h hf) (by have := (follow_inv hr h.base hf).2; omega)
theorem start_cinv {l : List Ins} {a : Nat} (ha : a < l.length) : CInv l a (ps0 a) := by
  refine ⟨⟨ha, rfl, List.length_replicate, by
    show 0 + ((List.replicate 200 false).filter (!·)).length = 200
    rw [List.filter_replicate_of_pos rfl, List.length_replicate]⟩, fun j hj => ?_, .inr rfl, rfl⟩
  have : (ps0 a).met.getD j false = false := by
    show (List.replicate 200 false).getD j false = false
    rw [List.getD_eq_getElem?_getD, List.getElem?_replicate]
    split <;> rfl
  rw [this] at hj
  cases hj
theorem path_end {l : List Ins} (hr : rightF l = true) {a : Nat} (ha : a < l.length) : CInv l a (pathRun l 201 (ps0 a)) ∧ followsF l (pathRun l 201 (ps0 a)) = false :=
  pathRun_end hr 201 _ (start_cinv ha) (by
    have := (start_cinv (l := l) ha).base.steps
    omega)
theorem from_ref {l : List Ins} (hr : rightF l = true) {a : Nat} (ha : a < l.length) :
    refRun l (l.length + 1) ⟨a, newT, 0⟩ = if (pathRun l 201 (ps0 a)).met.getD (pathRun l 201 (ps0 a)).to false then none else some ⟨(pathRun l 201 (ps0 a)).to, (pathRun l 201 (ps0 a)).t, (pathRun l 201 (ps0 a)).steps⟩ := by
  obtain ⟨h, hf⟩ := path_end hr ha
  generalize pathRun l 201 (ps0 a) = s at *
  cases hm : s.met.getD s.to false with
  | true =>
    rw [if_pos rfl]
    refine refRun_none (P := fun j => s.met.getD j false = true) (fun j hj => ?_) _ _ ?_
    · obtain ⟨_, h2, h3⟩ := h.cl j hj
      exact ⟨h2, h3.elim (fun h3 => by rw [h3]; exact hm) (fun h3 => h3)⟩
    · rcases h.st with h1 | h1
      · exact h1
      · rw [h1] at hm; exact hm
  | false =>
    rw [if_neg (by simp), h.run]
    have hle := steps_le h (right_facts hr).1
    have hmv : movesF (l.getD s.to default) = false := by
      unfold followsF at hf
      rw [hm] at hf
      simpa using hf
    rw [show l.length + 1 - s.steps = (l.length - s.steps) + 1 by omega, refRun, hmv, if_neg (by simp)]
def pr (l : List Ins) : Nat → Nat → Option (Nat × Nat)
  | 0, _ => none
  | n + 1, a => if movesF (l.getD a default) then (pr l n (nextTo (l.getD a default) a)).map (fun r => (r.1, r.2 + 1)) else some (a, 0)
theorem refRun_pr (l : List Ins) : ∀ (n : Nat) (s : RP), (refRun l n s).map (fun x => (x.to, x.steps)) = (pr l n s.to).map fun r => (r.1, s.steps + r.2)
  | 0, _ => rfl
  | n + 1, s => by
    rw [refRun, pr]
    split
    · rw [refRun_pr l n, Option.map_map]
      simp only [refStep]
      congr 1
      funext r
      simp only [Function.comp]
      rw [show s.steps + 1 + r.2 = s.steps + (r.2 + 1) by omega]
    · simp
theorem pr_lt {l : List Ins} : ∀ {n a : Nat} {r : Nat × Nat}, pr l n a = some r → r.2 < n
  | 0, _, _, h => by cases h
  | n + 1, a, r, h => by
    rw [pr] at h
    split at h
    · obtain ⟨q, hq, rfl⟩ := Option.map_eq_some_iff.1 h
      have := pr_lt hq
      simp only
      omega
    · simp only [Option.some.injEq] at h
      subst h
      simp
theorem pr_mono {l : List Ins} : ∀ {n m a : Nat} {r : Nat × Nat}, pr l n a = some r → r.2 < m → pr l m a = some r
  | 0, _, _, _, h, _ => by cases h
  | n + 1, 0, a, r, h, hm => by omega
  | n + 1, m + 1, a, r, h, hm => by
    rw [pr] at h ⊢
    split at h
    · rename_i hmv
      rw [if_pos hmv]
      obtain ⟨q, hq, rfl⟩ := Option.map_eq_some_iff.1 h
      rw [pr_mono hq (by simp only at hm; omega)]
      rfl
    · rename_i hmv
      rw [if_neg hmv]
      exact h
theorem pr_end {l : List Ins} : ∀ {n a : Nat} {r : Nat × Nat}, pr l n a = some r → movesF (l.getD r.1 default) = false
  | 0, _, _, h => by cases h
  | n + 1, a, r, h => by
    rw [pr] at h
    split at h
    · obtain ⟨q, hq, rfl⟩ := Option.map_eq_some_iff.1 h
      have := pr_end hq
      exact this
    · rename_i hmv
      simp only [Option.some.injEq] at h
      subst h
      simpa using hmv
theorem pr_to {l : List Ins} (hr : rightF l = true) : ∀ {n a : Nat} {r : Nat × Nat}, a < l.length → pr l n a = some r → r.1 < l.length
  | 0, _, _, _, h => by cases h
  | n + 1, a, r, ha, h => by
    rw [pr] at h
    split at h
    · rename_i hmv
      obtain ⟨q, hq, rfl⟩ := Option.map_eq_some_iff.1 h
      have := pr_to hr (nextTo_ok hr ha hmv).1 hq
      exact this
    · simp only [Option.some.injEq] at h
      subst h
      exact ha
theorem refRun_never {l : List Ins} (hr : rightF l = true) {a : Nat} (ha : a < l.length) (h : refRun l (l.length + 1) ⟨a, newT, 0⟩ = none) (n : Nat) (t : List Src) (k : Nat) : refRun l n ⟨a, t, k⟩ = none := by
  have he := from_ref hr ha
  rw [h] at he
  obtain ⟨hc, hf⟩ := path_end hr ha
  generalize pathRun l 201 (ps0 a) = s at *
  cases hm : s.met.getD s.to false with
  | false => rw [hm] at he; simp at he
  | true =>
    refine refRun_none (P := fun j => s.met.getD j false = true) (fun j hj => ?_) _ _ ?_
    · obtain ⟨_, h2, h3⟩ := hc.cl j hj
      exact ⟨h2, h3.elim (fun h3 => by rw [h3]; exact hm) (fun h3 => h3)⟩
    · rcases hc.st with h1 | h1
      · exact h1
      · rw [h1] at hm; exact hm
theorem pr_never {l : List Ins} (hr : rightF l = true) {a : Nat} (ha : a < l.length) (h : pr l (l.length + 1) a = none) (n : Nat) : pr l n a = none := by
  have h1 := refRun_pr l (l.length + 1) ⟨a, newT, 0⟩
  rw [h] at h1
  simp only [Option.map_none, Option.map_eq_none_iff] at h1
  have h2 := refRun_pr l n ⟨a, newT, 0⟩
  rw [refRun_never hr ha h1 n newT 0] at h2
  simp only [Option.map_none] at h2
  exact Option.map_eq_none_iff.1 h2.symm
def rpT : Option RP → Int × List Src × Int
  | some s => ((s.to : Int), s.t, (s.steps : Int))
  | none => (-1, newT, 0)
theorem fair_run {l : List Ins} (hr : rightF l = true) {a : Nat} (ha : a < l.length) : fromF l a = (rpT (refRun l (l.length + 1) ⟨a, newT, 0⟩), 0) := by
  have e : fromF l a = ((if (pathRun l 201 (ps0 a)).met.getD (pathRun l 201 (ps0 a)).to false then (-1, newT, 0) else (((pathRun l 201 (ps0 a)).to : Int), (pathRun l 201 (ps0 a)).t, ((pathRun l 201 (ps0 a)).steps : Int))), 0) := by
    unfold fromF
    rw [if_pos (by simp [hr, ha])]
    rfl
  rw [e, from_ref hr ha]
  split <;> rfl
def prI : Option (Nat × Nat) → Int × Int
  | some r => ((r.1 : Int), (r.2 : Int))
  | none => (-1, 0)
theorem refRun_len {l : List Ins} : ∀ (n : Nat) (s s' : RP), s.t.length = 24 → refRun l n s = some s' → s'.t.length = 24
  | 0, _, _, _, h => by cases h
  | n + 1, s, s', ht, h => by
    rw [refRun] at h
    split at h
    · exact refRun_len n _ _ (afterF_len ht _) h
    · simp only [Option.some.injEq] at h
      subst h
      exact ht
theorem fair_pr {l : List Ins} (hr : rightF l = true) {a : Nat} (ha : a < l.length) : ∃ t : List Src, t.length = 24 ∧ fromF l a = (((prI (pr l (l.length + 1) a)).1, t, (prI (pr l (l.length + 1) a)).2), 0) := by
  have h1 := refRun_pr l (l.length + 1) ⟨a, newT, 0⟩
  rw [fair_run hr ha]
  cases h : refRun l (l.length + 1) ⟨a, newT, 0⟩ with
  | none =>
    rw [h] at h1
    simp only [Option.map_none] at h1
    rw [Option.map_eq_none_iff.1 h1.symm]
    exact ⟨newT, rfl, rfl⟩
  | some s =>
    rw [h] at h1
    simp only [Option.map_some] at h1
    obtain ⟨r, hr', he⟩ := Option.map_eq_some_iff.1 h1.symm
    rw [hr']
    simp only [Nat.zero_add, Prod.mk.injEq] at he
    refine ⟨s.t, refRun_len _ _ _ rfl h, ?_⟩
    simp only [rpT, prI, he.1, he.2]
end Go.Proofs.YtcehbpimdngjfaaDoor.M2
namespace Go.Proofs.YtcehbpimdngjfaaDoor.M2
open Go
attribute [local simp] ev1 M2.get put A.ev ld sub part elems bin arith un opt idx fillC cellsO splice over newOb sto fillR laidOwn appTo appRow touch touchN touchM touchE touchA plainU flatU plainAs allM rowAt stoRow accM_nil accM_cons accMM_nil accMM_cons frz_int frz_bool frz_str frz_slt frz_nils frz_nilI frz_nilF frz_own frzRow_row frzRow_frow Ob.blw blw_bool blw_int blw_str blw_nils blw_nilI blw_nilF blw_nilp blw_nilm blw_sl blw_own blw_bp blw_rp blw_mp blw_it params
attribute [local simp] frz_agg frz_tup frz_iface frzS_agg frzS_iface accMS_cons frzS_int frzS_bool frzS_str frzS_slt frzS_nils frzS_nilI beq_dec bne_dec
theorem plain_tab (t : List Src) : plainU (.agg (tabU t)) = true := by
  show (tabU t).all (flatU 5) = true
  rw [List.all_eq_true]
  intro u hu
  obtain ⟨s, _, rfl⟩ := List.mem_map.1 hu
  cases s <;> rfl
abbrev nil24 : List U := [.nilI, .nilI, .nilI, .nilI, .nilI, .nilI, .nilI, .nilI, .nilI, .nilI, .nilI, .nilI, .nilI, .nilI, .nilI, .nilI, .nilI, .nilI, .nilI, .nilI, .nilI, .nilI, .nilI, .nilI]
theorem blw_tab (L : Nat) (t : List Src) : blw blwD L (.agg (tabU t)) = true := by
  show (tabU t).all (blw 11 L) = true
  rw [List.all_eq_true]
  intro u hu
  obtain ⟨s, _, rfl⟩ := List.mem_map.1 hu
  cases s <;> rfl
theorem box_tab (L : Nat) (t : List Src) : Ob.blw L (.box (tabU t)) = true := by
  show (tabU t).all (blw blwD L) = true
  rw [List.all_eq_true]
  exact fun u hu => tab_blw L t u hu
end Go.Proofs.YtcehbpimdngjfaaDoor.M2
namespace Go.Proofs.YtcehbpimdngjfaaDoor.M2
open Go
structure GoodT (t : List Src) : Prop where
  len : t.length = 24
  may : t.all mayF = true
theorem newT_ok : GoodT newT := ⟨rfl, newT_good⟩
theorem GoodT.eq {t : List Src} (h : GoodT t) : goodF t = t := by unfold goodF; rw [if_pos h.may]
theorem GoodT.get {t : List Src} (h : GoodT t) {i : Nat} (hi : i < 24) : mayF (t.getD i .no) = true := by
  rw [List.getD_eq_getElem?_getD, List.getElem?_eq_getElem (by rw [h.len]; exact hi)]
  exact List.all_eq_true.1 h.may _ (List.getElem_mem _)
theorem GoodT.set {t : List Src} (h : GoodT t) (i : Nat) {s : Src} (hs : mayF s = true) : GoodT (t.set i s) := by
  refine ⟨by rw [List.length_set]; exact h.len, ?_⟩
  rw [List.all_eq_true]
  intro x hx
  rcases List.mem_or_eq_of_mem_set hx with hx | rfl
  · exact List.all_eq_true.1 h.may x hx
  · exact hs
theorem loc_lt {x : Int} (h : locF 24 x = true) : x.toNat < 24 := by
  simp only [locF, Bool.and_eq_true, decide_eq_true_eq] at h
  omega
theorem GoodT.after {t : List Src} (h : GoodT t) (x : Ins) : GoodT (afterF t x) := by
  unfold afterF
  rw [h.eq]
  split
  · rename_i hc
    simp only [Bool.and_eq_true] at hc
    have hd := loc_lt hc.1.2
    have ha := loc_lt hc.2
    split
    · exact h.set _ rfl
    · split
      · exact h.set _ (h.get ha)
      · split
        · exact (h.set _ (h.get ha)).set _ (h.get hd)
        · exact h
  · exact h
theorem refRun_good {l : List Ins} : ∀ {n : Nat} {s s' : RP}, GoodT s.t → refRun l n s = some s' → GoodT s'.t
  | 0, _, _, _, h => by cases h
  | n + 1, s, s', ht, h => by
    rw [refRun] at h
    split at h
    · exact refRun_good (s := refStep l s) (ht.after _) h
    · simp only [Option.some.injEq] at h
      subst h
      exact ht
def wq (l : List Ins) (a : Nat) : Int × List Src × Int := (fromF l a).1
abbrev Way := Int × List Src
def addP (l : List Ins) (ps : List Nat) (a : Nat) : List Nat := if (wq l a).1 < 0 ∨ (wq l a).1.toNat ∈ ps then ps else ps ++ [(wq l a).1.toNat]
def outP (l : List Ins) (ps : List Nat) (a : Nat) : Way := if (wq l a).1 < 0 then (-1, (wq l a).2.1) else (((ps.idxOf (wq l a).1.toNat : Nat) : Int), (wq l a).2.1)
def fsN (x : Ins) (i : Nat) : List Nat := if x.op = 18 then [] else if x.op = 17 then [x.to.toNat, i + 1] else [i + 1]
def cutF (cut : List Bool) (i : Nat) : Bool := cut.getD i false
/-! The program's skeleton. -/
abbrev Node := Nat × Option (List Way)
def pAdd (l : List Ins) (ns : List Node) (a : Nat) : List Node := if (wq l a).1 < 0 ∨ (wq l a).1.toNat ∈ ns.map (·.1) then ns else ns ++ [((wq l a).1.toNat, none)]
def pOuts (l : List Ins) : List Nat → List Node → List Way → List Node × List Way
  | [], ns, os => (ns, os)
  | a :: ls, ns, os => pOuts l ls (pAdd l ns a) (os ++ [outP l ((pAdd l ns a).map (·.1)) a])
def atN (ns : List Node) (n : Nat) : Nat := (ns.getD n (0, none)).1
def fsAt (l : List Ins) (i : Nat) : List Nat := fsN (l.getD i default) i
def pStep (l : List Ins) (cut : List Bool) (n : Nat) (ns : List Node) : List Node :=
  if cutF cut (atN ns n) then ns else (pOuts l (fsAt l (atN ns n)) ns []).1.set n (atN ns n, some (pOuts l (fsAt l (atN ns n)) ns []).2)
def pRun (l : List Ins) (cut : List Bool) : Nat → Nat → List Node → List Node
  | 0, _, ns => ns
  | k + 1, n, ns => if n < ns.length then pRun l cut k (n + 1) (pStep l cut n ns) else ns
def pNodes (l : List Ins) (cut : List Bool) : List Node := pRun l cut 201 0 (pAdd l [] 0)
def pEntry (l : List Ins) : Way := outP l ((pAdd l [] 0).map (·.1)) 0
/-! The document's. -/
def fsC (l : List Ins) (cut : List Bool) (i : Nat) : List Nat := if cutF cut i then [] else fsAt l i
def rRun (l : List Ins) (cut : List Bool) : Nat → Nat → List Nat → List Nat
  | 0, _, ps => ps
  | k + 1, n, ps => if n < ps.length then rRun l cut k (n + 1) ((fsC l cut (ps.getD n 0)).foldl (addP l) ps) else ps
def rPlaces (l : List Ins) (cut : List Bool) : List Nat := rRun l cut 201 0 (addP l [] 0)
def rOuts (l : List Ins) (cut : List Bool) (ps : List Nat) (i : Nat) : List Way := (fsC l cut i).map (outP l ps)
/-! The same. -/
def Has (l : List Ins) (ps : List Nat) (a : Nat) : Prop := (wq l a).1 < 0 ∨ (wq l a).1.toNat ∈ ps
theorem Has.app {l : List Ins} {ps : List Nat} {a : Nat} (h : Has l ps a) (qs : List Nat) : Has l (ps ++ qs) a := h.imp id fun h => List.mem_append_left _ h
theorem Has.out {l : List Ins} {ps : List Nat} {a : Nat} (h : Has l ps a) (qs : List Nat) : outP l (ps ++ qs) a = outP l ps a := by
  unfold outP
  split
  · rfl
  · rename_i hn
    rw [List.idxOf_append, if_pos (h.resolve_left hn)]
theorem addP_spec (l : List Ins) (ps : List Nat) (a : Nat) : Has l (addP l ps a) a ∧ ∃ qs, addP l ps a = ps ++ qs := by
  unfold addP Has
  split
  · rename_i h
    exact ⟨h, [], by simp⟩
  · exact ⟨.inr (by simp), _, rfl⟩
theorem addP_has {l : List Ins} {ps : List Nat} {a : Nat} (h : Has l ps a) : addP l ps a = ps := by unfold addP; exact if_pos h
theorem pAdd_places (l : List Ins) (ns : List Node) (a : Nat) : (pAdd l ns a).map (·.1) = addP l (ns.map (·.1)) a ∧ ∃ qs : List Nat, pAdd l ns a = ns ++ qs.map fun p => (p, none) := by
  unfold pAdd addP
  split
  · exact ⟨rfl, [], by simp⟩
  · exact ⟨by simp, [(wq l a).1.toNat], rfl⟩
theorem fold_spec (l : List Ins) : ∀ (ls : List Nat) (ps : List Nat), (∃ qs, ls.foldl (addP l) ps = ps ++ qs) ∧ ∀ a ∈ ls, Has l (ls.foldl (addP l) ps) a
  | [], ps => ⟨⟨[], by simp⟩, by simp⟩
  | a :: ls, ps => by
    obtain ⟨h1, qs, h2⟩ := addP_spec l ps a
    obtain ⟨⟨rs, h3⟩, h4⟩ := fold_spec l ls (addP l ps a)
    rw [List.foldl_cons]
    refine ⟨⟨qs ++ rs, by rw [h3, h2, List.append_assoc]⟩, fun b hb => ?_⟩
    rcases List.mem_cons.1 hb with rfl | hb
    · rw [h3]; exact h1.app _
    · exact h4 b hb
theorem pOuts_spec (l : List Ins) : ∀ (ls : List Nat) (ns : List Node) (os : List Way), (pOuts l ls ns os).1.map (·.1) = ls.foldl (addP l) (ns.map (·.1)) ∧ (∃ qs : List Nat, (pOuts l ls ns os).1 = ns ++ qs.map fun p => (p, none)) ∧
    (pOuts l ls ns os).2 = os ++ ls.map (outP l (ls.foldl (addP l) (ns.map (·.1))))
  | [], ns, os => ⟨rfl, ⟨[], by simp [pOuts]⟩, by simp [pOuts]⟩
  | a :: ls, ns, os => by
    obtain ⟨h1, qs, h2⟩ := pAdd_places l ns a
    obtain ⟨h3, ⟨rs, h4⟩, h5⟩ := pOuts_spec l ls (pAdd l ns a) (os ++ [outP l ((pAdd l ns a).map (·.1)) a])
    rw [pOuts, List.foldl_cons]
    rw [h1] at h3 h4 h5
    refine ⟨by rw [h1]; exact h3, ⟨qs ++ rs, by rw [h1, h4, h2, List.map_append, List.append_assoc]⟩, ?_⟩
    rw [h1, h5, List.map_cons, List.append_assoc, List.singleton_append]
    obtain ⟨⟨ts, h6⟩, _⟩ := fold_spec l ls (addP l (ns.map (·.1)) a)
    rw [h6, (addP_spec l (ns.map (·.1)) a).1.out]
structure NInv (l : List Ins) (cut : List Bool) (n : Nat) (ns : List Node) : Prop where
  le : n ≤ ns.length
  nodup : (ns.map (·.1)).Nodup
  lt : ∀ p ∈ ns.map (·.1), p < l.length ∧ movesF (l.getD p default) = false
  done : ∀ i x, i < n → ns[i]? = some x → x.2 = (if cutF cut x.1 then none else some ((fsAt l x.1).map (outP l (ns.map (·.1))))) ∧ ∀ a ∈ fsC l cut x.1, Has l (ns.map (·.1)) a
  new : ∀ i x, n ≤ i → ns[i]? = some x → x.2 = none
theorem wq_ok {l : List Ins} (hr : rightF l = true) {a : Nat} (ha : a < l.length) : (wq l a).1 < 0 ∨ (0 ≤ (wq l a).1 ∧ (wq l a).1.toNat < l.length ∧ movesF (l.getD (wq l a).1.toNat default) = false) := by
  obtain ⟨t, _, e⟩ := fair_pr hr ha
  unfold wq
  rw [e]
  cases h : pr l (l.length + 1) a with
  | none => left; simp [prI]
  | some r =>
    right
    have h1 := pr_to hr ha h
    have h2 := pr_end h
    simp only [prI, Int.toNat_natCast]
    exact ⟨by omega, h1, h2⟩
theorem addP_ok {l : List Ins} (hr : rightF l = true) {a : Nat} (ha : a < l.length) {ps : List Nat} (h1 : ps.Nodup) (h2 : ∀ p ∈ ps, p < l.length ∧ movesF (l.getD p default) = false) : (addP l ps a).Nodup ∧ ∀ p ∈ addP l ps a, p < l.length ∧ movesF (l.getD p default) = false := by
  unfold addP
  split
  · exact ⟨h1, h2⟩
  · rename_i hn
    have hn1 : ¬ (wq l a).1 < 0 := fun h => hn (.inl h)
    have hn2 : (wq l a).1.toNat ∉ ps := fun h => hn (.inr h)
    have := (wq_ok hr ha).resolve_left hn1
    refine ⟨?_, ?_⟩
    · rw [List.nodup_append]
      refine ⟨h1, by simp, ?_⟩
      intro x hx y hy
      simp only [List.mem_singleton] at hy
      subst hy
      rintro rfl
      exact hn2 hx
    · intro p hp
      rcases List.mem_append.1 hp with hp | hp
      · exact h2 p hp
      · simp only [List.mem_singleton] at hp
        subst hp
        exact this.2
theorem fold_ok {l : List Ins} (hr : rightF l = true) : ∀ (ls : List Nat) (ps : List Nat), (∀ a ∈ ls, a < l.length) → ps.Nodup → (∀ p ∈ ps, p < l.length ∧ movesF (l.getD p default) = false) → (ls.foldl (addP l) ps).Nodup ∧ ∀ p ∈ ls.foldl (addP l) ps, p < l.length ∧ movesF (l.getD p default) = false
  | [], _, _, h1, h2 => ⟨h1, h2⟩
  | a :: ls, ps, ha, h1, h2 => by
    obtain ⟨k1, k2⟩ := addP_ok hr (ha a (by simp)) h1 h2
    exact fold_ok hr ls _ (fun b hb => ha b (by simp [hb])) k1 k2
theorem check_to17 {x : Ins} {m : Int} (h : checkF x m = 0) (ho : x.op = 17) : 0 ≤ x.to ∧ x.to < m := by
  unfold checkF at h
  split at h
  · simp at h
  · split at h
    · simp at h
    · split at h
      · simp at h
      · rename_i h4
        unfold bad4 at h4
        simp only [ho, or_true, true_and] at h4
        omega
theorem fsAt_ok {l : List Ins} (hr : rightF l = true) {i : Nat} (hi : i < l.length) (hm : movesF (l.getD i default) = false) : (∀ a ∈ fsAt l i, a < l.length) ∧ ((l.getD i default).op = 17 → 0 ≤ (l.getD i default).to) := by
  obtain ⟨h1, h2, h3, h4⟩ := right_facts hr
  have hx : l.getD i default = l[i] := by simp [hi]
  have hc := h3 l[i] (List.getElem_mem hi)
  have h5 : lastOp l = (l.getD (l.length - 1) default).op := rfl
  unfold fsAt fsN
  rw [hx] at hm ⊢
  have hlast : l[i].op ≠ 18 → i + 1 < l.length := by
    intro h18
    rcases Nat.lt_or_ge (i + 1) l.length with h | h
    · exact h
    · have he : i = l.length - 1 := by omega
      rw [← he, hx] at h5
      have h16 : l[i].op = 16 := by omega
      rw [movesF, h16] at hm
      simp at hm
  refine ⟨?_, fun h => (check_to17 hc h).1⟩
  split
  · simp
  · rename_i h18
    split
    · rename_i h17
      have := check_to17 hc h17
      intro a ha
      simp only [List.mem_cons, List.not_mem_nil, or_false] at ha
      rcases ha with rfl | rfl
      · omega
      · exact hlast h18
    · intro a ha
      simp only [List.mem_cons, List.not_mem_nil, or_false] at ha
      subst ha
      exact hlast h18
theorem atN_get {ns : List Node} {n : Nat} (h : n < ns.length) : (ns.map (·.1))[n]? = some (atN ns n) ∧ ∃ o, ns[n]? = some (atN ns n, o) := by
  have e : ns.getD n (0, none) = ns[n] := by simp [h]
  unfold atN
  rw [e]
  exact ⟨by simp [h], ns[n].2, by simp [h]⟩
theorem NInv.step {l : List Ins} {cut : List Bool} (hr : rightF l = true) {n : Nat} {ns : List Node} (h : NInv l cut n ns) (hn : n < ns.length) :
    NInv l cut (n + 1) (pStep l cut n ns) ∧ (pStep l cut n ns).map (·.1) = (fsC l cut (atN ns n)).foldl (addP l) (ns.map (·.1)) ∧ ∃ qs, (pStep l cut n ns).map (·.1) = ns.map (·.1) ++ qs := by
  unfold pStep
  obtain ⟨hg, o, hg2⟩ := atN_get hn
  have hold := h.new n _ (Nat.le_refl _) hg2
  simp only at hold
  subst hold
  generalize atN ns n = at_ at *
  have hat := h.lt at_ (List.mem_of_getElem? hg)
  cases hc : cutF cut at_ with
  | true =>
    have e : fsC l cut at_ = [] := by unfold fsC; rw [if_pos hc]
    rw [if_pos rfl, e]
    refine ⟨⟨hn, h.nodup, h.lt, fun i x hi hx => ?_, fun i x hi hx => h.new i x (by omega) hx⟩, rfl, [], by simp⟩
    by_cases hin : i = n
    · subst hin
      rw [hg2] at hx
      cases hx
      simp only [hc, if_true, e]
      exact ⟨trivial, by simp⟩
    · exact h.done i x (by omega) hx
  | false =>
    have e : fsC l cut at_ = fsAt l at_ := by unfold fsC; rw [if_neg (by simp [hc])]
    rw [if_neg (by simp), e]
    obtain ⟨k1, ⟨qs, k2⟩, k3⟩ := pOuts_spec l (fsAt l at_) ns []
    obtain ⟨_, k4⟩ := fold_spec l (fsAt l at_) (ns.map (·.1))
    obtain ⟨k5, k6⟩ := fold_ok hr (fsAt l at_) (ns.map (·.1)) (fsAt_ok hr hat.1 hat.2).1 h.nodup h.lt
    rw [← k1] at k3 k4 k5 k6
    have hmap : ((pOuts l (fsAt l at_) ns []).1.set n (at_, some (pOuts l (fsAt l at_) ns []).2)).map (·.1) = (pOuts l (fsAt l at_) ns []).1.map (·.1) := by
      apply List.ext_getElem?
      intro i
      rw [List.getElem?_map, List.getElem?_map, List.getElem?_set]
      split
      · rename_i hi
        subst hi
        rw [k2, List.getElem?_append_left hn, hg2]
        simp only [Option.map_some]
        rw [if_pos (by rw [List.length_append]; omega)]
        rfl
      · rfl
    have hext : (pOuts l (fsAt l at_) ns []).1.map (·.1) = ns.map (·.1) ++ qs := by
      rw [k2, List.map_append, List.map_map]
      congr 1
      exact List.map_id' qs
    rw [hmap]
    have hlen : n < (pOuts l (fsAt l at_) ns []).1.length := by rw [k2, List.length_append]; omega
    refine ⟨⟨?_, by rw [hmap]; exact k5, by rw [hmap]; exact k6, fun i x hi hx => ?_, fun i x hi hx => ?_⟩, k1, qs, hext⟩
    · rw [List.length_set]; exact hlen
    · rw [hmap]
      by_cases hin : i = n
      · subst hin
        rw [List.getElem?_set_self hlen] at hx
        cases hx
        simp only [hc]
        refine ⟨by rw [k3]; simp, by rw [e]; exact k4⟩
      · rw [List.getElem?_set_ne (Ne.symm hin), k2, List.getElem?_append_left (by omega)] at hx
        obtain ⟨d1, d2⟩ := h.done i x (by omega) hx
        rw [hext]
        refine ⟨?_, fun a ha => (d2 a ha).app _⟩
        rw [d1]
        cases hcx : cutF cut x.1 with
        | true => rfl
        | false =>
          simp only [Bool.false_eq_true, if_false]
          congr 1
          refine List.map_congr_left fun a ha => ((d2 a ?_).out qs).symm
          unfold fsC
          rw [if_neg (by simp [hcx])]
          exact ha
    · have hin : n ≠ i := by omega
      rw [List.getElem?_set_ne hin, k2] at hx
      rcases Nat.lt_or_ge i ns.length with hl | hl
      · rw [List.getElem?_append_left hl] at hx
        exact h.new i x (by omega) hx
      · rw [List.getElem?_append_right hl, List.getElem?_map] at hx
        obtain ⟨p, _, rfl⟩ := Option.map_eq_some_iff.1 hx
        rfl
theorem NInv.few {l : List Ins} {cut : List Bool} {n : Nat} {ns : List Node} (h : NInv l cut n ns) : ns.length ≤ l.length := by
  have := List.Nodup.length_le_of_subset h.nodup (l₂ := List.range l.length) (fun p hp => by rw [List.mem_range]; exact (h.lt p hp).1)
  simpa using this
theorem pRun_spec {l : List Ins} {cut : List Bool} (hr : rightF l = true) : ∀ (k n : Nat) (ns : List Node), NInv l cut n ns → l.length < k + n →
    NInv l cut (pRun l cut k n ns).length (pRun l cut k n ns) ∧ (pRun l cut k n ns).map (·.1) = rRun l cut k n (ns.map (·.1)) ∧ ∃ qs, (pRun l cut k n ns).map (·.1) = ns.map (·.1) ++ qs
  | 0, n, ns, h, hk => by
    have := h.le
    have := h.few
    omega
  | k + 1, n, ns, h, hk => by
    rw [pRun, rRun, List.length_map]
    split
    · rename_i hn
      obtain ⟨h1, h2, qs, h3⟩ := h.step hr hn
      obtain ⟨k1, k2, rs, k3⟩ := pRun_spec hr k (n + 1) _ h1 (by omega)
      refine ⟨k1, ?_, qs ++ rs, by rw [k3, h3, List.append_assoc]⟩
      rw [k2, h2]
      have e : (ns.map (·.1)).getD n 0 = atN ns n := by rw [List.getD_eq_getElem?_getD, (atN_get hn).1]; rfl
      rw [e]
    · have hn : n = ns.length := by have := h.le; omega
      subst hn
      exact ⟨h, rfl, [], by simp⟩
theorem ninv0 {l : List Ins} {cut : List Bool} (hr : rightF l = true) : NInv l cut 0 (pAdd l [] 0) := by
  have hpos := (right_facts hr).2.1
  obtain ⟨h1, qs, h2⟩ := pAdd_places l [] 0
  obtain ⟨h3, h4⟩ := addP_ok hr hpos (ps := []) List.nodup_nil (by simp)
  exact ⟨Nat.zero_le _, by rw [h1]; exact h3, by rw [h1]; exact h4, fun i x hi => by omega, fun i x _ hx => by
    rw [h2, List.nil_append, List.getElem?_map] at hx
    obtain ⟨p, _, rfl⟩ := Option.map_eq_some_iff.1 hx
    rfl⟩
theorem nodes_spec {l : List Ins} {cut : List Bool} (hr : rightF l = true) :
    pNodes l cut = (rPlaces l cut).map (fun i => (i, if cutF cut i then none else some ((fsAt l i).map (outP l (rPlaces l cut))))) ∧ pEntry l = outP l (rPlaces l cut) 0 ∧ (rPlaces l cut).length ≤ l.length ∧ (rPlaces l cut).Nodup ∧ (∀ p ∈ rPlaces l cut, p < l.length ∧ movesF (l.getD p default) = false) ∧ (∀ p ∈ rPlaces l cut, ∀ a ∈ fsC l cut p, Has l (rPlaces l cut) a) := by
  have h200 := (right_facts hr).1
  have hpos := (right_facts hr).2.1
  have h1 := (pAdd_places l [] 0).1
  have h0 := ninv0 (cut := cut) hr
  obtain ⟨k1, k2, rs, k3⟩ := pRun_spec hr 201 0 _ h0 (by omega)
  have hp : (pNodes l cut).map (·.1) = rPlaces l cut := by
    unfold pNodes rPlaces
    rw [k2, h1]
    rfl
  have hN : NInv l cut (pNodes l cut).length (pNodes l cut) := k1
  refine ⟨?_, ?_, by rw [← hp, List.length_map]; exact hN.few, by rw [← hp]; exact hN.nodup, by rw [← hp]; exact hN.lt, ?_⟩
  · apply List.ext_getElem?
    intro i
    rw [← hp, List.map_map, List.getElem?_map]
    cases hx : (pNodes l cut)[i]? with
    | none => rfl
    | some x =>
      have := (hN.done i x (List.getElem?_eq_some_iff.1 hx).1 hx).1
      simp only [Option.map_some, Function.comp]
      rw [← this]
  · unfold pEntry
    rw [← hp]
    have e : (pNodes l cut).map (·.1) = (pAdd l [] 0).map (·.1) ++ rs := k3
    rw [e, Has.out]
    rw [h1]
    exact (addP_spec l [] 0).1
  · intro p hp' a ha
    rw [← hp] at hp' ⊢
    obtain ⟨x, hx, rfl⟩ := List.mem_map.1 hp'
    obtain ⟨i, hi, rfl⟩ := List.mem_iff_getElem.1 hx
    exact (hN.done i _ hi (List.getElem?_eq_getElem hi)).2 a ha
end Go.Proofs.YtcehbpimdngjfaaDoor.M2
namespace Go.Proofs.YtcehbpimdngjfaaDoor.M2
open Go
attribute [local simp] ev1 M2.get put A.ev ld sub part elems bin arith un opt idx fillC cellsO splice over newOb sto fillR laidOwn appTo appRow touch touchN touchM touchE touchA plainU flatU plainAs allM rowAt stoRow accM_nil accM_cons accMM_nil accMM_cons frz_int frz_bool frz_str frz_slt frz_nils frz_nilI frz_nilF frz_own frzRow_row frzRow_frow Ob.blw blw_bool blw_int blw_str blw_nils blw_nilI blw_nilF blw_nilp blw_nilm blw_sl blw_own blw_bp blw_rp blw_mp blw_it params
attribute [local simp] frz_agg frz_tup frz_iface frzS_agg frzS_iface accMS_cons frzS_int frzS_bool frzS_str frzS_slt frzS_nils frzS_nilI beq_dec bne_dec
def natU (p : Bool) (ps : List Nat) : U := .sl p (ps.map fun (n : Nat) => [i64 (n : Int)])
def boolU (p : Bool) (bs : List Bool) : U := .sl p (bs.map fun b => [.bool b])
theorem nexts_call (x : Ins) (i : Nat) (hi : i < 1000) (hto : x.op = 17 → 0 ≤ x.to) (st : List Ob) : Cl T 32 [.agg (insU x), i64 i] st (natU true (fsN x i)) st := by
  refine Wp.pure (fn := c_skel_nexts) rfl rfl rfl («as» := [.agg (insU x), i64 i]) rfl ?_
  unfold fsN
  obtain ⟨op, d, a, b, n, to⟩ := x
  simp only at hto ⊢
  by_cases h18 : op = 18
  · subst h18
    (all_goals have := fa (a2 @insU.eq_1 @natU.eq_1); repeat' first | refine Wp.v ?_ | (refine Wp.c ?_ ?_ <;> intro))
    refine Wp.ret ?_
    simp [Res, resU, res1, c_skel_nexts, natU]
  · rw [if_neg h18]
    have d18 : decide (op = 18) = false := decide_eq_false h18
    by_cases h17 : op = 17
    · subst h17
      obtain ⟨N, rfl⟩ := Int.eq_ofNat_of_zero_le (hto rfl)
      (all_goals have := fa (a3 @insU.eq_1 @natU.eq_1 @wrap_id); repeat' first | refine Wp.v ?_ | (refine Wp.c ?_ ?_ <;> intro))
      refine Wp.ret ?_
      simp [Res, resU, res1, c_skel_nexts, natU]
    · rw [if_neg h17]
      have d17 : decide (op = 17) = false := decide_eq_false h17
      (all_goals have := fa (a5 @insU.eq_1 @natU.eq_1 @wrap_id h17 h18); repeat' first | refine Wp.v ?_ | (refine Wp.c ?_ ?_ <;> intro))
      refine Wp.ret ?_
      simp [Res, resU, res1, c_skel_nexts, natU]
end Go.Proofs.YtcehbpimdngjfaaDoor.M2
