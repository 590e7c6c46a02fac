/- Typed arguments: a function, and cuts. -/
import Derived.Test.YtcehbpimdngjfaaDoorCm
import Derived.KernelRfl
import Derived.Test.YtcehbpimdngjfaaDoorCe
import Derived.Test.YtcehbpimdngjfaaDoorCk
import Derived.Test.YtcehbpimdngjfaaDoorCg
set_option linter.unusedSimpArgs false
set_option linter.unusedVariables false
set_option linter.unusedSectionVars false
namespace Go.Proofs.YtcehbpimdngjfaaDoor.M2
open Go
attribute [local simp] ev1 M2.get put A.ev ld sub part elems bin arith un opt idx fillC cellsO splice over newOb sto fillR laidOwn appTo appRow touch touchN touchM touchE touchA plainU flatU plainAs allM rowAt stoRow accM_nil accM_cons accMM_nil accMM_cons frz_int frz_bool frz_str frz_slt frz_nils frz_nilI frz_nilF frz_own frzRow_row frzRow_frow Ob.blw blw_bool blw_int blw_str blw_nils blw_nilI blw_nilF blw_nilp blw_nilm blw_sl blw_own blw_bp blw_rp blw_mp blw_it params
attribute [local simp] frz_agg frz_tup frz_iface frzS_agg frzS_iface accMS_cons frzS_int frzS_bool frzS_str frzS_slt frzS_nils frzS_nilI beq_dec bne_dec
theorem use_len (f : Nat → Nat → FS) (n at_ : Nat) : ∀ (us : List Int) (x : List Bool × Bool), (us.foldl (useF f n at_) x).1.length = x.1.length
  | [], _ => rfl
  | u :: us, x => by
    rw [List.foldl_cons, use_len f n at_ us]
    unfold useF
    split
    · simp
    · rfl
theorem round_len (f : Nat → Nat → FS) (l : List Ins) : ∀ (ps : List Nat) (n : Nat) (x : List Bool × Bool), (roundF f l n ps x).1.length = x.1.length
  | [], _, _ => rfl
  | p :: ps, n, x => by rw [roundF, round_len f l ps, use_len]
theorem round_take (f : Nat → Nat → FS) (l : List Ins) : ∀ (ps : List Nat) (n i : Nat) (x : List Bool × Bool) (h : i < ps.length), roundF f l n (ps.take (i + 1)) x = (usesF (l.getD ps[i] default)).foldl (useF f (n + i) ps[i]) (roundF f l n (ps.take i) x)
  | p :: ps, n, 0, x, _ => by simp [roundF]
  | p :: ps, n, i + 1, x, h => by
    rw [List.take_succ_cons, roundF, round_take f l ps (n + 1) i _ (by simpa using h), List.take_succ_cons, roundF]
    simp only [List.getElem_cons_succ]
    rw [show n + 1 + i = n + (i + 1) by omega]
theorem bits_set (c : List Bool) (i : Nat) (b : Bool) : bitsR (c.set i b) = (bitsR c).set i [.bool b] := by unfold bitsR; rw [List.map_set]
theorem bits_len (c : List Bool) : (bitsR c).length = c.length := by simp [bitsR]
theorem bits_get {c : List Bool} {i : Nat} (h : i < c.length) : (bitsR c)[i]? = some [.bool (c.getD i false)] := by
  unfold bitsR
  rw [List.getElem?_map, List.getElem?_eq_getElem h, List.getD_eq_getElem?_getD, List.getElem?_eq_getElem h]
  rfl
def cu0S (p : Bool) (l : List Ins) (w : Way) (ns : List Node) (FU : List (List U)) (n at_ : Nat) (os : U) (us : List Int) (k : Nat) (x : List Bool × Bool) : S :=
  ⟨[(0, insL p l), (4, .own 0 l.length), (5, .bool x.2), (8, .sl true FU), (9, i64 n), (10, .bp 2 0), (30, .sl true (ns.map nodeU)), (31, i64 (ns.length : Nat)), (32, i64 n), (42, intsU us), (43, i64 (us.length : Nat)), (44, i64 k)],
    [.row 4 1 false (bitsR x.1), .box (skelU w ns), .box [i64 at_, os]]⟩
theorem cu_blw (R : List (List U)) (w : Way) (ns : List Node) (o : List Ob) (L : Nat) (ho : o.all (Ob.blw L) = true) : (Ob.row 4 1 false R :: .box (skelU w ns) :: o).all (Ob.blw L) = true := by
  have e : Ob.blw L (.row 4 1 false R) = true := rfl
  simp only [List.all_cons, e, skel_blw, ho, Bool.and_self]
set_option maxHeartbeats 8000000 in
theorem cu0_loop (p : Bool) (l : List Ins) (w : Way) (ns : List Node) (FU : List (List U)) (f : Nat → Nat → FS) (n : Nat) (hFU : FU[n]? = some [.sl true (rowU (f n))]) (at_ : Nat) (hat : at_ < l.length) (os : U) (us : List Int) (hus : us.length ≤ 2) (hu : ∀ u ∈ us, 0 ≤ u ∧ u < 8) (x : List Bool × Bool) (hx : x.1.length = l.length) :
    Wp T (.loop c_value_Cut_L0) (cu0S p l w ns FU n at_ os us 0 x) (fun _ => False) (fun _ => False) (fun b s' => b = 4 ∧ s' = ⟨[(0, insL p l), (4, .own 0 l.length), (5, .bool (us.foldl (useF f n at_) x).2), (8, .sl true FU), (9, i64 n), (10, .bp 2 0), (30, .sl true (ns.map nodeU)), (31, i64 (ns.length : Nat)), (32, i64 n), (42, intsU us), (43, i64 (us.length : Nat)), (44, i64 (us.length : Nat)), (45, .bool false)],
    [.row 4 1 false (bitsR (us.foldl (useF f n at_) x).1), .box (skelU w ns), .box [i64 at_, os]]⟩) := by
  have hnF := (List.getElem?_eq_some_iff.1 hFU).1
  have hn' : (n : Int) < FU.length := by omega
  have hat' : (at_ : Int) < l.length := by omega
  refine Wp.count us.length (fun k => cu0S p l w ns FU n at_ os us k ((us.take k).foldl (useF f n at_) x)) (fun _ => True) (fun k hk _ => ?_) (fun _ => ?_) 0 (by omega) trivial
  · have hk' : (k : Int) < us.length := by omega
    have eg : us[k]? = some us[k] := List.getElem?_eq_getElem hk
    have hul := hu _ (List.getElem_mem hk)
    have hyl := use_len f n at_ (us.take k) x
    rw [hx] at hyl
    rw [List.take_succ_eq_append_getElem hk, List.foldl_append, List.foldl_cons, List.foldl_nil]
    generalize (us.take k).foldl (useF f n at_) x = y at *
    generalize us[k] = u at *
    obtain ⟨u, rfl⟩ := Int.eq_ofNat_of_zero_le hul.1
    obtain ⟨c, more⟩ := y
    simp only at hyl
    have hcl := bits_len c
    rw [hyl] at hcl
    have hcg := bits_get (c := c) (i := at_) (by omega)
    have hrl := rowU_len (f n)
    have hu24 : u < 24 := by omega
    have hrq : (rowU (f n))[u]? = some (fsU (f n u)) := by simp [rowU, hu24]
    have hu' : (u : Int) < 24 := by omega
    have key : useF f n at_ (c, more) (u : Int) = if c.getD at_ false = false ∧ (f n u).1 = 0 then (c.set at_ true, true) else (c, more) := rfl
    rw [key]
    have hbs := bits_set c at_ true
    generalize c.getD at_ false = v at *
    generalize f n u = z at *
    generalize rowU (f n) = RU at *
    obtain ⟨a, b⟩ := z
    simp only at key ⊢
    simp only [cu0S]
    (have := fa hk'; repeat refine Wp.f ?_)
    refine Wp.i ?_ ?_ <;> intro h1
    · cases v with
      | true =>
        rw [if_neg (by simp)]
        (have := fa (a5 hk' eg hcl hat' hcg); repeat refine Wp.f ?_)
        refine Wp.i ?_ ?_ <;> intro h2
        · cases h2
        · (have := fa @wrap_id; repeat refine Wp.f ?_)
          exact ⟨trimO_len rfl, trivial⟩
      | false =>
        by_cases ha : a = 0
        · rw [if_pos ⟨rfl, ha⟩, hbs]
          subst ha
          (have := fa (a5 hk' eg hcl hat' (a5 hcg hn' hFU hrl (a3 hu' hrq @fsU.eq_1))); repeat refine Wp.f ?_)
          refine Wp.i ?_ ?_ <;> intro h2
          · (have := fa (a4 hcl hat' hcg @wrap_id); repeat refine Wp.f ?_)
            exact ⟨trimO_len rfl, trivial⟩
          · cases h2
        · rw [if_neg (fun h => ha h.2)]
          (have := fa (a5 hk' eg hcl hat' (a5 hcg hn' hFU hrl (a4 hu' hrq @fsU.eq_1 ha))); repeat refine Wp.f ?_)
          refine Wp.i ?_ ?_ <;> intro h2
          · first | cases h2 | simp [ha] at h2
          · (have := fa @wrap_id; repeat refine Wp.f ?_)
            exact ⟨trimO_len rfl, trivial⟩
    · cases h1
  · rw [List.take_of_length_le (Nat.le_refl _)]
    simp only [cu0S]
    repeat refine Wp.a ?_
    refine Wp.i ?_ ?_ <;> intro h1
    · simp at h1
    · exact Wp.exit ⟨rfl, rfl⟩
def cu1S (p : Bool) (l : List Ins) (w : Way) (ns : List Node) (FU : List (List U)) (n : Nat) (x : List Bool × Bool) : S :=
  ⟨[(0, insL p l), (4, .own 0 l.length), (5, .bool x.2), (8, .sl true FU), (30, .sl true (ns.map nodeU)), (31, i64 (ns.length : Nat)), (32, i64 n)], [.row 4 1 false (bitsR x.1), .box (skelU w ns)]⟩
set_option maxHeartbeats 8000000 in
theorem cu1_loop (p : Bool) (l : List Ins) (w : Way) (ns : List Node) (hns : ns.length ≤ 200) (FU : List (List U)) (f : Nat → Nat → FS) (hFU : ∀ n, n < ns.length → FU[n]? = some [.sl true (rowU (f n))]) (hlt : ∀ x ∈ ns, x.1 < l.length ∧ movesF (l.getD x.1 default) = false) (hck : ∀ x ∈ l, (∀ u ∈ usesF x, 0 ≤ u ∧ u < 8) ∧ 1 ≤ x.op ∧ x.op ≤ 18) (x : List Bool × Bool) (hx : x.1.length = l.length) :
    Wp T (.loop c_value_Cut_L1) (cu1S p l w ns FU 0 x) (fun _ => False) (fun _ => False) (fun b s' => b = 2 ∧ s' = ⟨[(0, insL p l), (4, .own 0 l.length), (5, .bool (roundF f l 0 (ns.map (·.1)) x).2), (8, .sl true FU), (30, .sl true (ns.map nodeU)), (31, i64 (ns.length : Nat)), (32, i64 (ns.length : Nat)), (33, .bool false)],
    [.row 4 1 false (bitsR (roundF f l 0 (ns.map (·.1)) x).1), .box (skelU w ns)]⟩) := by
  have hml : (ns.map (·.1)).length = ns.length := List.length_map ..
  refine Wp.count ns.length (fun n => cu1S p l w ns FU n (roundF f l 0 ((ns.map (·.1)).take n) x)) (fun _ => True) (fun n hn _ => ?_) (fun _ => ?_) 0 (by omega) trivial
  · have hn' : (n : Int) < ns.length := by omega
    have hg : ns[n]? = some ns[n] := List.getElem?_eq_getElem hn
    have hx1 := hlt _ (List.getElem_mem hn)
    have hrt := round_take f l (ns.map (·.1)) 0 n x (by omega)
    rw [List.getElem_map, Nat.zero_add] at hrt
    rw [hrt]
    have hyl := round_len f l ((ns.map (·.1)).take n) 0 x
    rw [hx] at hyl
    generalize roundF f l 0 ((ns.map (·.1)).take n) x = y at *
    generalize ns[n] = z at *
    obtain ⟨at_, o⟩ := z
    simp only at hx1 ⊢
    obtain ⟨hxa, hmv⟩ := hx1
    have hxl : l.getD at_ default = l[at_] := by simp [hxa]
    rw [hxl] at hmv ⊢
    have hc := hck _ (List.getElem_mem hxa)
    have hop : 4 ≤ l[at_].op ∧ l[at_].op ≤ 18 ∧ ¬ l[at_].op = 16 := by
      simp only [movesF, Bool.or_eq_false_iff, Bool.and_eq_false_iff, decide_eq_false_iff_not] at hmv
      omega
    have hus := uses_call l[at_] hop
    have hul : (usesF l[at_]).length ≤ 2 := by
      unfold usesF
      split
      · simp
      · split <;> simp
    have hlp := cu0_loop p l w ns FU f n (hFU n hn) at_ hxa (outsU o) (usesF l[at_]) hul hc.1 y hyl
    have hat' : (at_ : Int) < l.length := by omega
    have hlg : l[at_]? = some l[at_] := List.getElem?_eq_getElem hxa
    generalize l[at_] = xi at *
    generalize (usesF xi).foldl (useF f n at_) y = y2 at *
    simp only [cu1S]
    (have := fa hn'; repeat refine Wp.f ?_)
    refine Wp.i ?_ ?_ <;> intro h1
    · (have := fa (a5 @insL.eq_1 hn' hg @nodeU.eq_1 (a5 hat' hlg @insU_len @insU_take @over_full)); repeat refine Wp.f ?_)
      apply Wp.call
      · exact hus _
      repeat refine Wp.a ?_
      refine (show Wp T (.loop c_value_Cut_L0) (cu0S p l w ns FU n at_ (outsU o) (usesF xi) 0 y) _ _ _ from hlp.imp (fun _ h => h.elim) (fun _ h => h.elim) ?_)
      rintro b s ⟨rfl, rfl⟩
      rw [if_pos rfl]
      (have := fa @wrap_id; repeat refine Wp.f ?_)
      exact ⟨trim_backs (st := [.row 4 1 false (bitsR y2.1), .box (skelU w ns)]) (l := [_]) rfl (cu_blw _ w ns [] 2 rfl), trivial⟩
    · cases h1
  · rw [List.take_of_length_le (by omega)]
    simp only [cu1S]
    repeat refine Wp.a ?_
    refine Wp.i ?_ ?_ <;> intro h1
    · simp at h1
    · exact Wp.exit ⟨rfl, rfl⟩
theorem check_ops {l : List Ins} (hr : rightF l = true) : ∀ x ∈ l, (∀ u ∈ usesF x, 0 ≤ u ∧ u < 8) ∧ 1 ≤ x.op ∧ x.op ≤ 18 := by
  intro x hx
  obtain ⟨_, _, h3, _⟩ := right_facts hr
  have hc := h3 x hx
  refine ⟨check_uses hc, ?_⟩
  unfold checkF at hc
  split at hc
  · simp at hc
  · rename_i h1
    unfold bad1 at h1
    omega
theorem lend_row {st : List Ob} {id : Nat} {R : List (List U)} (tag es : Nat) (h : st[id]? = some (.row tag es false R)) : brwA frzD st (.own id R.length) = some (.sl false R) := by
  show brw frzD st (.own id R.length) = _
  rw [frzD, brw]
  simp only [h, if_true]
structure CutI (l : List Ins) (x : List Bool × Bool) : Prop where
  len : x.1.length = l.length
  go : x.2 = true → ∃ k, frees x.1 < k ∧ cutRun l k x.1 = cutsF l
  done : x.2 = false → x.1 = cutsF l
theorem frees_rep (n : Nat) : frees (List.replicate n false) = n := by
  unfold frees
  rw [List.filter_replicate_of_pos rfl, List.length_replicate]
theorem cut0 (l : List Ins) : CutI l (List.replicate l.length false, true) := ⟨by simp, fun _ => ⟨l.length + 1, by simp only [frees_rep]; omega, rfl⟩, by simp⟩
theorem CutI.round {l : List Ins} (hr : rightF l = true) {c : List Bool} (h : CutI l (c, true)) : CutI l (cutRound l c) ∧ 2 * frees (cutRound l c).1 + bitF (cutRound l c).2 < 2 * frees c + bitF true := by
  have hx := cutRound_inv hr (c := c) h.len
  obtain ⟨k, hk, he⟩ := h.go rfl
  simp only at hk he
  obtain ⟨k, rfl⟩ : ∃ m, k = m + 1 := ⟨k - 1, by omega⟩
  rw [cutRun] at he
  generalize cutRound l c = y at *
  obtain ⟨d, m⟩ := y
  cases m with
  | true =>
    have := hx.more rfl
    simp only at this
    refine ⟨⟨by have := hx.len; have := h.len; simp only at *; omega, fun _ => ⟨k, by simp only; omega, by simpa using he⟩, fun h => by cases h⟩, by simp only [bitF, if_true]; omega⟩
  | false =>
    have := hx.still rfl
    simp only at this
    subst this
    refine ⟨⟨h.len, (fun h => by cases h), fun _ => by simpa using he⟩, by simp [bitF]⟩
theorem round_eq (l : List Ins) (c : List Bool) : cutRound l c = roundF (factF l c) l 0 ((pNodes l c).map (·.1)) (c, false) := by
  unfold cutRound
  rw [List.map_map]
  rfl
def cu2S (p : Bool) (l : List Ins) (x : List Bool × Bool) (ex : Env) : S := ⟨(0, insL p l) :: (4, .own 0 l.length) :: (5, .bool x.2) :: ex, [.row 4 1 false (bitsR x.1)]⟩
set_option maxHeartbeats 16000000 in
theorem cut_call (p : Bool) (l : List Ins) (st : List Ob) : Cl T n_value_Cut [insL p l] st (if rightF l then .tup [.sl true (bitsR (cutsF l)), i64 0] else .tup [.sl true [], i64 1]) st := by
  refine Wp.pure (fn := c_value_Cut) rfl rfl rfl («as» := [insL p l]) rfl ?_
  have hri := fun st => asmRight_call p l st (insL p l) rfl
  cases hr : rightF l with
  | false =>
    rw [hr] at hri
    (all_goals have := fa @insL.eq_1; repeat' first | refine Wp.v ?_ | (apply Wp.call; exact hri _) | (refine Wp.c ?_ ?_ <;> intro))
    refine Wp.ret ?_
    simp [Res, resU, res1, c_value_Cut]
  | true =>
    rw [hr] at hri
    rw [if_pos rfl]
    have h200 := (right_facts hr).1
    have lim : (l.length : Int) ≤ limit := by
      show (l.length : Int) ≤ 140737488355328
      omega
    (all_goals have := fa (a2 @insL.eq_1 lim); repeat' first | refine Wp.v ?_ | (apply Wp.call; exact hri _) | (refine Wp.c ?_ ?_ <;> intro))
    have e0 : bitsR (List.replicate l.length false) = List.replicate l.length [.bool false] := by simp [bitsR]
    have hst : (⟨[(0, insL p l), (4, .own 0 l.length), (5, .bool true)], [.row 4 1 false (List.replicate l.length [.bool false])]⟩ : S) = cu2S p l (List.replicate l.length false, true) [] := by
      unfold cu2S
      rw [e0]
    rw [hst]
    refine Wp.loop (fun y : (List Bool × Bool) × Env => 2 * frees y.1.1 + bitF y.1.2) (fun y => cu2S p l y.1 y.2) (fun y => CutI l y.1) (fun y hc => ?_) ((List.replicate l.length false, true), []) (cut0 l)
    obtain ⟨⟨c, more⟩, ex⟩ := y
    simp only at hc ⊢
    cases more with
    | false =>
      have hd := hc.done rfl
      simp only at hd
      have hcl := bits_len c
      rw [hc.len] at hcl
      simp only [cu2S]
      repeat refine Wp.a ?_
      refine Wp.i ?_ ?_ <;> intro h1
      · cases h1
      · refine Wp.exit ?_
        rw [if_pos rfl]
        repeat refine Wp.a ?_
        refine Wp.ret ?_
        rw [← hd]
        have hfz := frzS_row (d := 10) (st := [.row 4 1 false (bitsR c)]) (id := 0) rfl hcl
        simp [Res, resU, res1, c_value_Cut, hfz]
    | true =>
      obtain ⟨hc2, hlt⟩ := hc.round hr
      obtain ⟨f1, f2, f3⟩ := skel_facts (cut := c) hr
      have hb := build_call p l hr false c
      have hfc := facts_call p l hr c
      have hN : (rnE l c).length = (pNodes l c).length := List.length_map ..
      have hcl := bits_len c
      have hclen : c.length = l.length := hc.len
      rw [hclen] at hcl
      have hlt2 : ∀ x ∈ pNodes l c, x.1 < l.length ∧ movesF (l.getD x.1 default) = false := fun x hx => by
        refine rnE_at hr c x.1 ?_
        rw [List.map_map]
        exact List.mem_map.2 ⟨x, hx, rfl⟩
      have hlp := cu1_loop p l (pEntry l) (pNodes l c) f1 (factsU l c) (factF l c) (fun n hn => by simp [factsU, hn]) hlt2 (check_ops hr) (c, false) hc.len
      rw [← round_eq] at hlp
      have sl := skel_len f3 (pNodes l c)
      have t26 : (skelU (pEntry l) (pNodes l c)).take 26 = skelU (pEntry l) (pNodes l c) := by rw [List.take_of_length_le]; omega
      have sd25 : (skelU (pEntry l) (pNodes l c)).drop 25 = [.sl true ((pNodes l c).map nodeU)] := drop25 f3 _
      generalize cutRound l c = y2 at *
      generalize factsU l c = FU at *
      generalize pNodes l c = ns at *
      generalize pEntry l = w at *
      simp only [cu2S]
      repeat refine Wp.a ?_
      refine Wp.i ?_ ?_ <;> intro h1
      · repeat refine Wp.a ?_
        apply Wp.call
        · have hl := lend_row (st := [.row 4 1 false (bitsR c)]) (id := 0) (R := bitsR c) 4 1 rfl
          rw [hcl] at hl
          have hl2 : brwA frzD [.row 4 1 false (bitsR c)] (.own 0 l.length) = brwA frzD [.row 4 1 false (bitsR c)] (boolU false c) := hl
          have hl3 : allM (brwA frzD [.row 4 1 false (bitsR c)]) [insL p l, .own 0 l.length] = allM (brwA frzD [.row 4 1 false (bitsR c)]) [insL p l, boolU false c] := by simp only [M2.allM, hl2]
          exact Cl.lend (fn := c_skel_Build) rfl rfl (bs := [insL p l, boolU false c]) rfl hl3 (hb _)
        (have := fa (a3 sl t26 @over_full); repeat refine Wp.f ?_)
        apply Wp.call
        · exact hfc _
        (have := fa (a2 sl sd25); repeat refine Wp.f ?_)
        refine (show Wp T (.loop c_value_Cut_L1) (cu1S p l w ns FU 0 (c, false)) _ _ _ from hlp.imp (fun _ h => h.elim) (fun _ h => h.elim) ?_)
        rintro b s ⟨rfl, rfl⟩
        rw [if_pos rfl]
        repeat refine Wp.a ?_
        refine ⟨(y2, [(8, .sl true FU), (30, .sl true (ns.map nodeU)), (31, i64 (ns.length : Nat)), (32, i64 (ns.length : Nat)), (33, .bool false)]), ?_, hlt, hc2⟩
        exact trim_backs (st := [.row 4 1 false (bitsR y2.1)]) (l := [_]) rfl rfl
      · cases h1
end Go.Proofs.YtcehbpimdngjfaaDoor.M2
namespace Go.Proofs.YtcehbpimdngjfaaDoor.M2
open Go
def gA : List Ins := [⟨1, 1, 0, 0, 5, 0⟩, ⟨15, 2, 0, 0, 1, 0⟩, ⟨4, 3, 1, 2, 0, 0⟩, ⟨18, 0, 3, 0, 0, 0⟩]
def gB : List Ins := [⟨2, 1, 8, 0, 0, 0⟩, ⟨18, 0, 1, 0, 0, 0⟩]
def textA : List UInt8 := [99, 111, 110, 115, 116, 32, 114, 49, 32, 53, 10, 99, 97, 108, 108, 32, 114, 50, 32, 114, 48, 32, 49, 10, 97, 100, 100, 32, 114, 51, 32, 114, 49, 32, 114, 50, 10, 114, 101, 116, 32, 114, 51, 10]
def textB : List UInt8 := [109, 111, 118, 32, 114, 49, 32, 115, 48, 10, 114, 101, 116, 32, 114, 49, 10]
set_option maxRecDepth 100000 in
theorem parseB_run : M2.call T 40 n_asm_Parse [.str textB] [] = some (.tup [insL true gB, i64 0, i64 0], []) := by kernel_rfl
set_option maxRecDepth 100000 in
theorem parseA_run : M2.call T 70 n_asm_Parse [.str textA] [] = some (.tup [insL true gA, i64 0, i64 0], []) := by kernel_rfl
end Go.Proofs.YtcehbpimdngjfaaDoor.M2
namespace Go.Proofs.YtcehbpimdngjfaaDoor.M2
open Go
attribute [local simp] ev1 M2.get put A.ev ld sub part elems bin arith un opt idx fillC cellsO splice over newOb sto fillR laidOwn appTo appRow touch touchN touchM touchE touchA plainU flatU plainAs allM rowAt stoRow accM_nil accM_cons accMM_nil accMM_cons frz_int frz_bool frz_str frz_slt frz_nils frz_nilI frz_nilF frz_own frzRow_row frzRow_frow Ob.blw blw_bool blw_int blw_str blw_nils blw_nilI blw_nilF blw_nilp blw_nilm blw_sl blw_own blw_bp blw_rp blw_mp blw_it params
attribute [local simp] frz_agg frz_tup frz_iface frzS_agg frzS_iface accMS_cons frzS_int frzS_bool frzS_str frzS_slt frzS_nils frzS_nilI beq_dec bne_dec
theorem Cl.atA {n : Nat} {f : Nat} {us : List U} {u : U} (h : M2.call T n f us [] = some (u, [])) (hp : (T f).any (·.pure) = true) (hb : ∀ st, allM (brwA frzD st) us = some us) (st : List Ob) : Cl T f us st u st := by
  refine ⟨n, fun m hm => ?_⟩
  have h := call_mono hm h
  unfold M2.call callF at h ⊢
  cases hf : T f with
  | none => rw [hf] at hp; simp at hp
  | some fn =>
    rw [hf] at h hp
    simp only [Option.any_some] at hp
    simp only [Option.bind_some] at h ⊢
    split at h
    · rename_i hl
      rw [if_pos hl, if_pos hp]
      simp only [hp, if_true, hb, Option.bind_some, Option.bind_eq_some_iff] at h ⊢
      obtain ⟨x, k1, k2⟩ := h
      refine ⟨x, k1, ?_⟩
      split at k2
      · rename_i he
        rw [if_pos he]
        simp only [Option.bind_eq_some_iff] at k2 ⊢
        obtain ⟨v, m1, y, m2, m3⟩ := k2
        refine ⟨v, m1, y, m2, ?_⟩
        cases m3
        rfl
      · cases k2
    · cases h
/-! The two functions that it knows. -/
theorem rightA : rightF gA = true := by decide +kernel
theorem rightB : rightF gB = true := by decide +kernel
theorem lenA : (rnE gA []).length = 3 := by decide +kernel
theorem toA0 : toF (wE gA) (rnE gA []) 0 = [(-1, 0)] := by decide +kernel
theorem toA1 : toF (wE gA) (rnE gA []) 1 = [(0, 0)] := by decide +kernel
theorem toA2 : toF (wE gA) (rnE gA []) 2 = [(1, 0)] := by decide +kernel
theorem byA0 : byF gA (wE gA) (rnE gA []) (-1, 0) 1 = (2, 5) := by decide +kernel
theorem byA1 : byF gA (wE gA) (rnE gA []) (0, 0) 1 = (4, 1) := by decide +kernel
theorem byA2 : byF gA (wE gA) (rnE gA []) (1, 0) 1 = (4, 1) := by decide +kernel
theorem byA3 : byF gA (wE gA) (rnE gA []) (0, 0) 2 = (3, 0) := by decide +kernel
theorem factA1 : factF gA [] 1 1 = (2, 5) := by
  refine fact_eq rightA (by decide +kernel) ⟨fun n p => n < 3 ∧ p = 1, fun n p h => ?_, by omega, rfl⟩
  obtain ⟨hn, rfl⟩ := h
  refine ⟨by rw [lenA]; exact hn, by omega, fun e he => ?_⟩
  have hn3 : n = 0 ∨ n = 1 ∨ n = 2 := by omega
  rcases hn3 with rfl | rfl | rfl
  · rw [toA0, List.mem_singleton] at he
    subst he
    exact .inl byA0
  · rw [toA1, List.mem_singleton] at he
    subst he
    rw [byA1]
    exact .inr ⟨rfl, by decide, rfl⟩
  · rw [toA2, List.mem_singleton] at he
    subst he
    rw [byA2]
    exact .inr ⟨rfl, by decide, rfl⟩
theorem factA2 : factF gA [] 1 2 = (4, 2) := by
  rcases fact_val gA [] 1 2 with ⟨h, _⟩ | ⟨h1, h2⟩
  · exact h
  · obtain ⟨_, _, k⟩ := gfp_step h2
    have := k (0, 0) (by rw [toA1]; simp)
    rw [byA3] at this
    have hc := try_cst _ h1
    rcases this with h | ⟨h, _⟩
    · rw [← h] at hc
      unfold cstF at hc
      simp at hc
    · simp at h
theorem lenB (c : List Bool) (hc : c = [false, false] ∨ c = [false, true]) : (rnE gB c).map (·.1) = [1] ∧ (rnE gB c).length = 1 ∧ toF (wE gB) (rnE gB c) 0 = [(-1, 0)] ∧ byF gB (wE gB) (rnE gB c) (-1, 0) 1 = (0, 0) := by
  rcases hc with rfl | rfl <;> decide +kernel
theorem factB (c : List Bool) (hc : c = [false, false] ∨ c = [false, true]) : factF gB c 0 1 = (0, 0) := by
  obtain ⟨h1, h2, h3, h4⟩ := lenB c hc
  refine fact_eq rightB (List.mem_cons_self ..) ⟨fun n p => n = 0 ∧ p = 1, fun n p h => ?_, rfl, rfl⟩
  obtain ⟨rfl, rfl⟩ := h
  refine ⟨by omega, by omega, fun e he => ?_⟩
  rw [h3, List.mem_singleton] at he
  subst he
  exact .inl h4
theorem roundB (c : List Bool) (hc : c = [false, false] ∨ c = [false, true]) : cutRound gB c = if c.getD 1 false = false then (c.set 1 true, true) else (c, false) := by
  unfold cutRound
  rw [(lenB c hc).1]
  have hu : usesF (gB.getD 1 default) = [1] := by decide +kernel
  simp only [roundF, hu, List.foldl_cons, List.foldl_nil]
  unfold useF
  have hf : factF gB c 0 (1 : Int).toNat = (0, 0) := factB c hc
  simp only [hf, and_true]
theorem cutsB : cutsF gB = [false, true] := by
  have e : cutsF gB = cutRun gB 3 [false, false] := rfl
  rw [e, cutRun, roundB _ (.inl rfl)]
  simp only [List.getD_cons_succ, List.getD_cons_zero, if_true, List.set_cons_succ, List.set_cons_zero]
  rw [cutRun, roundB _ (.inr rfl)]
  simp
set_option maxHeartbeats 8000000 in
theorem valueBy_call (p : Bool) (l : List Ins) (hr : rightF l = true) (cut : List Bool) {n m k : Nat} (he : ((m : Int), (k : Int)) ∈ toF (wE l) (rnE l cut) n) (q : Nat) (hq : q < 24) (st : List Ob) : Cl T n_value_By [insL p l, .agg (skelU (pEntry l) (pNodes l cut)), .agg (edgeU ((m : Int), (k : Int))), i64 q] st (.agg (fsU (byF l (wE l) (rnE l cut) ((m : Int), (k : Int)) q))) st := by
  have hbr : brw frzD st (.agg (skelU (pEntry l) (pNodes l cut))) = some (.agg (skelU (pEntry l) (pNodes l cut))) := brw_skel st _ _
  refine Wp.pure (fn := c_value_By) rfl rfl rfl («as» := [insL p l, .agg (skelU (pEntry l) (pNodes l cut)), .agg (edgeU ((m : Int), (k : Int))), i64 q]) (by simp [hbr, insL]; rfl) ?_
  obtain ⟨f1, f2, f3⟩ := skel_facts (cut := cut) hr
  obtain ⟨g1, g2⟩ := good_all hr cut
  have hb := built_call p l hr cut
  have hby := by_call p hr cut he q hq
  have hlo := locRight_call (q : Int)
  have hlt : locF 24 (q : Int) = true := by simp [locF]; omega
  rw [hlt] at hlo
  rcases edge_cases he with h | ⟨m', k', at_, o, x, h, hm, hk⟩
  · simp only [Prod.mk.injEq] at h
    omega
  · simp only [Prod.mk.injEq] at h
    have hmm : m = m' := by omega
    have hkk : k = k' := by omega
    subst hmm hkk
    have hx := (g1 _ (List.mem_of_getElem? hm)).2 x (List.mem_of_getElem? hk)
    have hout := out_node (pEntry l) f3 (pNodes l cut) m k at_ o x hm hk hx.len
    have sl := skel_len f3 (pNodes l cut)
    have xl := wayU_len hx.len
    have t26 : (skelU (pEntry l) (pNodes l cut)).take 26 = skelU (pEntry l) (pNodes l cut) := by rw [List.take_of_length_le]; omega
    generalize byF l (wE l) (rnE l cut) ((m : Int), (k : Int)) q = z at *
    generalize pNodes l cut = ns at *
    generalize pEntry l = w at *
    (have := fa (a3 sl t26 @edgeU.eq_1); repeat refine Wp.f ?_)
    apply Wp.call
    · exact hout _
    (have := fa (a2 xl @over_full); repeat refine Wp.f ?_)
    apply Wp.callG
    · exact rfl
    · exact hlo _
    (have := fa (a2 sl t26); repeat refine Wp.f ?_)
    apply Wp.callG
    · exact rfl
    · exact hb _
    repeat refine Wp.a ?_
    refine Wp.i ?_ ?_ <;> intro h1
    · cases h1
    (have := fa (a3 sl t26 @edgeU.eq_1); repeat refine Wp.f ?_)
    apply Wp.call
    · exact hby _
    (have := fa @fsU.eq_1; repeat refine Wp.f ?_)
    refine Wp.ret ?_
    simp [Res, resU, res1, c_value_By, fsU]
set_option maxHeartbeats 8000000 in
theorem knows_call (st : List Ob) : Cl T n_joinerylaw11_knows [] st (.bool true) st := by
  refine Wp.pure (fn := c_joinerylaw11_knows) rfl rfl rfl («as» := []) rfl ?_
  have hpA : ∀ st, Cl T n_asm_Parse [.str textA] st (.tup [insL true gA, i64 0, i64 0]) st := Cl.atA parseA_run rfl (fun _ => rfl)
  have hpB : ∀ st, Cl T n_asm_Parse [.str textB] st (.tup [insL true gB, i64 0, i64 0]) st := Cl.atA parseB_run rfl (fun _ => rfl)
  have hb : ∀ st, Cl T n_skel_Build [insL true gA, .nils] st (.tup [.agg (skelU (pEntry gA) (pNodes gA [])), i64 0]) st := fun st => Cl.lend (fn := c_skel_Build) rfl rfl (bs := [insL true gA, boolU true []]) rfl rfl (build_call true gA rightA true [] st)
  have hf := facts_call true gA rightA []
  have hc := cut_call true gB
  rw [if_pos rightB, cutsB] at hc
  have hy := valueBy_call true gA rightA [] (n := 1) (m := 0) (k := 0) (by rw [toA1]; simp) 2 (by omega)
  have hbb : byF gA (wE gA) (rnE gA []) (((0 : Nat) : Int), ((0 : Nat) : Int)) 2 = (3, 0) := byA3
  rw [hbb] at hy
  obtain ⟨f1, f2, f3⟩ := skel_facts (cut := []) rightA
  have hN : (pNodes gA []).length = 3 := by
    have := lenA
    rwa [List.length_map] at this
  have hFl : (factsU gA []).length = 3 := by simp [factsU, hN]
  have hF1 : (factsU gA [])[1]? = some [.sl true (rowU (factF gA [] 1))] := by simp [factsU, hN]
  have hr := rowU_len (factF gA [] 1)
  have hr1 : (rowU (factF gA [] 1))[1]? = some [i64 2, i64 5] := by
    have h : (rowU (factF gA [] 1))[1]? = some (fsU (factF gA [] 1 1)) := by simp [rowU]
    rw [h, factA1]
    rfl
  have hr2 : (rowU (factF gA [] 1))[2]? = some [i64 4, i64 2] := by
    have h : (rowU (factF gA [] 1))[2]? = some (fsU (factF gA [] 1 2)) := by simp [rowU]
    rw [h, factA2]
    rfl
  have sl := skel_len f3 (pNodes gA [])
  have t26 : (skelU (pEntry gA) (pNodes gA [])).take 26 = skelU (pEntry gA) (pNodes gA []) := by rw [List.take_of_length_le]; omega
  generalize factsU gA [] = FU at *
  generalize rowU (factF gA [] 1) = RU at *
  generalize pNodes gA [] = ns at *
  generalize pEntry gA = w at *
  repeat refine Wp.a ?_
  apply Wp.call
  · exact hpA _
  repeat refine Wp.a ?_
  apply Wp.call
  · exact hb _
  (have := fa (a3 sl t26 @over_full); repeat refine Wp.f ?_)
  apply Wp.call
  · exact hf _
  repeat refine Wp.a ?_
  apply Wp.call
  · exact hpB _
  repeat refine Wp.a ?_
  apply Wp.call
  · exact hc _
  obtain ⟨q0, hF1'⟩ := List.getElem?_eq_some_iff.1 hF1
  obtain ⟨q1, hr1'⟩ := List.getElem?_eq_some_iff.1 hr1
  obtain ⟨q2, hr2'⟩ := List.getElem?_eq_some_iff.1 hr2
  (have := fa (a5 hFl hF1 hr hr1 (a5 hr2 hF1' hr1' hr2' (a3 @bitsR.eq_1 sl t26))); repeat refine Wp.f ?_)
  apply Wp.callG
  · exact rfl
  · exact hy _
  (have := fa @fsU.eq_1; repeat refine Wp.f ?_)
  refine Wp.ret ?_
  simp [Res, resU, res1, c_joinerylaw11_knows]
end Go.Proofs.YtcehbpimdngjfaaDoor.M2
namespace Go.Proofs.YtcehbpimdngjfaaDoor.M2
open Go
def rng (n : Int) : Prop := -9223372036854775808 ≤ n ∧ n < 9223372036854775808
section
variable {P : Program}
theorem typed_i64 {t : TypeId} (hu : P.underlying t = some (.int .i64)) {d : Nat} {us : List U} (h : Typed P (d + 1) t us) : ∃ n, us = [i64 n] ∧ rng n := by
  simp only [Typed, hu] at h
  obtain ⟨n, e, hw⟩ := h
  refine ⟨n, e, ?_⟩
  simp [Lit.wf, IntKind.min, IntKind.max, IntKind.bits, IntKind.signed] at hw
  unfold rng
  omega
theorem typed_slice {t e : TypeId} (hu : P.underlying t = some (.slice e)) {d : Nat} {us : List U} (h : Typed P (d + 1) t us) : ∃ xs, us = [.sl true xs] ∧ xs.length ≤ maxLen ∧ ∀ x ∈ xs, Typed P d e x ∧ x.length = P.cellsOf e := by
  simp only [Typed, hu] at h
  exact h
theorem typed_struct {t : TypeId} {fs : Array Field} (hu : P.underlying t = some (.struct fs)) {d : Nat} {us : List U} (h : Typed P (d + 1) t us) : us.length = P.cellsOf t ∧ ∀ f ∈ fs.toList, Typed P d f.type ((us.drop f.offset).take (P.cellsOf f.type)) := by
  simp only [Typed, hu] at h
  exact h
def InsR (x : Ins) : Prop := rng x.op ∧ rng x.d ∧ rng x.a ∧ rng x.b ∧ rng x.n ∧ rng x.to
theorem typed_ins6 {t t1 t2 : TypeId} {a1 a2 a3 a4 a5 a6 : Field} (hu : P.underlying t = some (.struct #[a1, a2, a3, a4, a5, a6])) (o : [a1.offset, a2.offset, a3.offset, a4.offset, a5.offset, a6.offset] = [0, 1, 2, 3, 4, 5]) (ty : [a1.type, a2.type, a3.type, a4.type, a5.type, a6.type] = [t1, t1, t1, t1, t2, t1])
    (h1 : P.underlying t1 = some (.int .i64)) (h2 : P.underlying t2 = some (.int .i64)) (c : P.cellsOf t = 6) (c1 : P.cellsOf t1 = 1) (c2 : P.cellsOf t2 = 1) {d : Nat} {us : List U} (h : Typed P (d + 2) t us) : ∃ x : Ins, us = insU x ∧ InsR x := by
  obtain ⟨hl, h⟩ := typed_struct hu h
  rw [c] at hl
  simp only [List.cons.injEq, and_true] at o ty
  obtain ⟨o1, o2, o3, o4, o5, o6⟩ := o
  obtain ⟨y1, y2, y3, y4, y5, y6⟩ := ty
  match us, hl with
  | [a, b, e, f, g, k], _ =>
    have k1 := h a1 (by simp)
    have k2 := h a2 (by simp)
    have k3 := h a3 (by simp)
    have k4 := h a4 (by simp)
    have k5 := h a5 (by simp)
    have k6 := h a6 (by simp)
    simp only [o1, o2, o3, o4, o5, o6, y1, y2, y3, y4, y5, y6, c1, c2, List.drop, List.take] at k1 k2 k3 k4 k5 k6
    obtain ⟨n1, e1, r1⟩ := typed_i64 h1 k1
    obtain ⟨n2, e2, r2⟩ := typed_i64 h1 k2
    obtain ⟨n3, e3, r3⟩ := typed_i64 h1 k3
    obtain ⟨n4, e4, r4⟩ := typed_i64 h1 k4
    obtain ⟨n5, e5, r5⟩ := typed_i64 h2 k5
    obtain ⟨n6, e6, r6⟩ := typed_i64 h1 k6
    injection e1 with e1
    injection e2 with e2
    injection e3 with e3
    injection e4 with e4
    injection e5 with e5
    injection e6 with e6
    exact ⟨⟨n1, n2, n3, n4, n5, n6⟩, by rw [e1, e2, e3, e4, e5, e6]; rfl, r1, r2, r3, r4, r5, r6⟩
theorem map_of {α : Type} {P : List U → Prop} {Q : α → Prop} (f : α → List U) : ∀ {xs : List (List U)}, (∀ x ∈ xs, ∃ r, x = f r ∧ Q r) → ∃ l : List α, xs = l.map f ∧ ∀ r ∈ l, Q r
  | [], _ => ⟨[], rfl, by simp⟩
  | x :: xs, h => by
    obtain ⟨r, e, q⟩ := h x (by simp)
    obtain ⟨l, hl, hq⟩ := map_of (P := P) f (xs := xs) (fun y hy => h y (by simp [hy]))
    exact ⟨r :: l, by rw [List.map_cons, e, hl], fun y hy => by
      rcases List.mem_cons.1 hy with rfl | hy
      · exact q
      · exact hq y hy⟩
theorem typed_sl {α : Type} {Q : α → Prop} {f : α → List U} {t e : TypeId} (hu : P.underlying t = some (.slice e)) {d : Nat} {u : U} (hf : ∀ x, Typed P d e x → ∃ r, x = f r ∧ Q r) (h : Typed P (d + 1) t [u]) : ∃ l : List α, u = .sl true (l.map f) ∧ l.length < 9223372036854775808 ∧ ∀ x ∈ l, Q x := by
  obtain ⟨xs, e, hm, h⟩ := typed_slice hu h
  obtain ⟨l, hl, hq⟩ := map_of (P := fun _ => True) f (xs := xs) (fun x hx => hf x (h x hx).1)
  injection e with e
  refine ⟨l, by rw [e, hl], ?_, hq⟩
  rw [hl, List.length_map] at hm
  simp only [maxLen] at hm
  omega
end
attribute [local irreducible] Typed
theorem cells66 : Tryd.prog.cellsOf 66 = 6 := by kernel_rfl
theorem cells3 : Tryd.prog.cellsOf 3 = 1 := by kernel_rfl
theorem cells2 : Tryd.prog.cellsOf 2 = 1 := by kernel_rfl
theorem typed_insn {n : Nat} (hn : ∃ d, n = d + 3) {u : U} (h : Typed Tryd.prog n 22 [u]) : ∃ l : List Ins, u = insL true l ∧ l.length < 9223372036854775808 ∧ ∀ x ∈ l, InsR x := by
  obtain ⟨d, rfl⟩ := hn
  exact typed_sl (f := insU) Tryd.underlying22 (fun _ hx => typed_ins6 Tryd.underlying66 rfl rfl Tryd.underlying3 Tryd.underlying2 cells66 cells3 cells2 hx) h
theorem typed_intn {n : Nat} (hn : ∃ d, n = d + 1) {u : U} (h : Typed Tryd.prog n 3 [u]) : ∃ n, u = i64 n ∧ rng n := by
  obtain ⟨d, rfl⟩ := hn
  obtain ⟨n, e, hn⟩ := typed_i64 Tryd.underlying3 h
  injection e with e
  exact ⟨n, e, hn⟩
theorem law_of {f : Nat} {us : List U} (h : Cl T f us [] (.bool true) []) : ∃ n, M2.call T n f us [] = some (.bool true, []) := by
  obtain ⟨N, h⟩ := h
  exact ⟨N, h N (Nat.le_refl _)⟩
end Go.Proofs.YtcehbpimdngjfaaDoor.M2
namespace Go.Proofs.YtcehbpimdngjfaaDoor.M2
open Go
theorem typed_bool {P : Program} {t : TypeId} (hu : P.underlying t = some .bool) {d : Nat} {us : List U} (h : Typed P (d + 1) t us) : ∃ b, us = [.bool b] := by
  unfold Typed at h
  simp only [hu] at h
  exact h
attribute [local irreducible] Typed TypedA
theorem typed_booln {n : Nat} (hn : ∃ d, n = d + 2) {u : U} (h : Typed Tryd.prog n 23 [u]) : ∃ l : List Bool, u = boolU true l := by
  obtain ⟨d, rfl⟩ := hn
  obtain ⟨l, e, _⟩ := typed_sl (Q := fun _ => True) (f := fun b => [.bool b]) Tryd.underlying23 (fun x hx => by
    obtain ⟨b, e⟩ := typed_bool Tryd.underlying4 hx
    exact ⟨b, e, trivial⟩) h
  exact ⟨l, e⟩
theorem args2b {us : List U} (hl : us.length = 2) (hty : ∀ (j : Nat) t u, [22, 23][j]? = some t → us[j]? = some u → TypedA Tryd.prog 8 t u) : ∃ (l : List Ins) (cut : List Bool), us = [insL true l, boolU true cut] := by
  match us, hl with
  | [u, v], _ =>
    obtain ⟨l, rfl, hlen, hx⟩ := typed_insn ⟨5, rfl⟩ ((hty 0 22 u rfl rfl).one (by kernel_rfl))
    obtain ⟨cut, rfl⟩ := typed_booln ⟨6, rfl⟩ ((hty 1 23 v rfl rfl).one (by kernel_rfl))
    exact ⟨l, cut, rfl⟩
theorem args1 {us : List U} (hl : us.length = 1) (hty : ∀ (j : Nat) t u, [22][j]? = some t → us[j]? = some u → TypedA Tryd.prog 8 t u) : ∃ l : List Ins, us = [insL true l] := by
  match us, hl with
  | [u], _ =>
    obtain ⟨l, rfl, hlen, hx⟩ := typed_insn ⟨5, rfl⟩ ((hty 0 22 u rfl rfl).one (by kernel_rfl))
    exact ⟨l, rfl⟩
end Go.Proofs.YtcehbpimdngjfaaDoor.M2
