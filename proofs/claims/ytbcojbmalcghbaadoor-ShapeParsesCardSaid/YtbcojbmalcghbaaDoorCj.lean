/- What the functions answer in M2: a form's text (the program's, whole). -/
import Derived.Test.YtbcojbmalcghbaaDoorCh
import Derived.Test.YtbcojbmalcghbaaDoorCi
set_option linter.unusedSimpArgs false
set_option linter.unusedVariables false
set_option linter.unusedSectionVars false
namespace Go.Proofs.YtbcojbmalcghbaaDoor.M2
open Go
attribute [local simp] ev1 M2.get put A.ev ld sub part elems bin arith un opt idx fillC cellsO splice over newOb sto fillR laidOwn appTo appRow touch touchN touchM touchE touchA plainU flatU plainAs allM rowAt stoRow accM_nil accM_cons accMM_nil accMM_cons frz_int frz_bool frz_str frz_slt frz_nils frz_nilI frz_nilF frz_own frzRow_row frzRow_frow Ob.blw blw_bool blw_int blw_str blw_nils blw_nilI blw_nilF blw_nilp blw_nilm blw_sl blw_own blw_bp blw_rp blw_mp blw_it params
attribute [local simp] frz_agg frz_tup frz_iface frzS_agg frzS_iface accMS_cons frzS_int frzS_bool frzS_str frzS_slt frzS_nils frzS_nilI beq_dec bne_dec
def jn (ws : List (List UInt8)) : List UInt8 := (ws.flatMap (fun w => 32 :: w)).tail
theorem jn_snoc {l : List (List UInt8)} (h : l ≠ []) (w : List UInt8) : jn (l ++ [w]) = jn l ++ 32 :: w := by
  cases l with
  | nil => exact absurd rfl h
  | cons a l => simp [jn]
theorem jn_one (w : List UInt8) : jn [w] = w := by simp [jn]
theorem jn_cons (w : List UInt8) (l : List (List UInt8)) : jn (w :: l) = w ++ l.flatMap (fun w => 32 :: w) := by simp [jn]
theorem jn_len (ws : List (List UInt8)) (h : ∀ w ∈ ws, w.length ≤ 100) : (jn ws).length ≤ 101 * ws.length := by
  have : (ws.flatMap (fun w => 32 :: w)).length ≤ 101 * ws.length := by
    induction ws with
    | nil => simp
    | cons w ws ih =>
      have h1 := ih (fun x hx => h x (by simp [hx]))
      have h2 := h w (by simp)
      simp only [List.flatMap_cons, List.length_append, List.length_cons]
      omega
  have h2 : (jn ws).length ≤ (ws.flatMap (fun w => 32 :: w)).length := by
    unfold jn
    rw [List.length_tail]
    omega
  omega
def lineF (ws : List (List UInt8)) : List UInt8 := jn ws ++ [10]
def strC (w : List UInt8) : List U := [.str w]
theorem strC_snoc (W : List (List UInt8)) (s : List UInt8) : W.map strC ++ [[.str s]] = (W ++ [s]).map strC := by simp [strC]
theorem strC_snoc2 (W : List (List UInt8)) (s t : List UInt8) : W.map strC ++ [[.str s], [.str t]] = (W ++ [s, t]).map strC := by simp [strC]
abbrev wordsU (q : Bool) (ws : List (List UInt8)) : U := .sl q (ws.map strC)
def li0S (q : Bool) (ws : List (List UInt8)) (i : Nat) : S := ⟨[(3, .str (jn (ws.take i))), (6, wordsU q ws), (7, i64 ws.length), (8, i64 i)], []⟩
set_option maxHeartbeats 4000000 in
theorem li0_loop (q : Bool) (ws : List (List UInt8)) (hw : ∀ w ∈ ws, w.length ≤ 100) (hn : ws.length ≤ 40000) (R : S → Prop) : Wp T (.loop c_shape_line_L0) (li0S q ws 0) (fun _ => False) R
    (fun k s' => k = 0 ∧ s' = ⟨[(3, .str (jn ws)), (6, wordsU q ws), (7, i64 ws.length), (8, i64 (ws.length : Nat)), (9, .bool false)], []⟩) := by
  refine Wp.count ws.length (fun i => li0S q ws i) (fun _ => True) (fun i hi _ => ?_) (fun _ => ?_) 0 (by omega) trivial
  · have hi' : (i : Int) < ws.length := by omega
    have eg : ws[i]? = some ws[i] := List.getElem?_eq_getElem hi
    have hl := jn_len (ws.take i) (fun w h => hw w (List.mem_of_mem_take h))
    rw [List.length_take] at hl
    replace hl : (jn (ws.take i)).length ≤ 101 * 40000 := Nat.le_trans hl (Nat.mul_le_mul_left _ (by omega))
    have hwl := hw _ (List.getElem_mem hi)
    have e1 : i ≠ 0 → jn (ws.take (i + 1)) = jn (ws.take i) ++ 32 :: ws[i] := fun h => by
      rw [List.take_succ_eq_append_getElem hi]
      exact jn_snoc (fun e => by have := congrArg List.length e; rw [List.length_take, List.length_nil] at this; omega) _
    have e0 : i = 0 → jn (ws.take (i + 1)) = jn (ws.take i) ++ ws[i] := fun h => by
      subst h
      rw [List.take_succ_eq_append_getElem hi]
      simp [jn]
    simp only [li0S]
    generalize jn (ws.take (i + 1)) = j1 at *
    generalize jn (ws.take i) = j0 at *
    generalize ws[i] = w at *
    by_cases h0 : i = 0
    · have h0' : ¬ 0 < i := by omega
      have hl2 : j0.length + w.length ≤ 9223372036854775807 := by omega
      rw [e0 h0]
      (all_goals have := fa (a5 hi' eg h0' @strC.eq_1 hl2); repeat' first | refine Wp.v ?_ | (refine Wp.c ?_ ?_ <;> intro))
      (have := fa @wrap_id; repeat refine Wp.f ?_)
      exact ⟨trimO_len rfl, trivial⟩
    · have h0' : 0 < i := by omega
      have hl1 : j0.length + 1 ≤ 9223372036854775807 := by omega
      have hl3 : j0.length ≤ 9223372036854775806 := by omega
      have hl2 : j0.length + 1 + w.length ≤ 9223372036854775807 := by omega
      have hl4 : j0.length + (w.length + 1) ≤ 9223372036854775807 := by omega
      rw [e1 h0]
      (all_goals have := fa (a5 hi' eg h0' @strC.eq_1 (a4 hl1 hl2 hl3 hl4)); repeat' first | refine Wp.v ?_ | (refine Wp.c ?_ ?_ <;> intro))
      (have := fa @wrap_id; repeat refine Wp.f ?_)
      exact ⟨by simp [trimO, trim], trivial⟩
  · rw [show li0S q ws ws.length = ⟨[(3, .str (jn ws)), (6, wordsU q ws), (7, i64 ws.length), (8, i64 (ws.length : Nat))], []⟩ by simp [li0S]]
    repeat refine Wp.a ?_
    refine Wp.i ?_ ?_ <;> intro h1
    · simp at h1
    · exact Wp.exit ⟨rfl, rfl⟩
set_option maxHeartbeats 4000000 in
theorem line_call (q : Bool) (ws : List (List UInt8)) (hw : ∀ w ∈ ws, w.length ≤ 100) (hn : ws.length ≤ 40000) (st : List Ob) : Cl T n_shape_line [wordsU q ws] st (.str (lineF ws)) st := by
  refine Wp.pure (fn := c_shape_line) rfl rfl rfl («as» := [wordsU q ws]) rfl ?_
  have hl := jn_len ws hw
  have hl0 := li0_loop q ws hw hn (Res c_shape_line (.str (lineF ws)))
  rw [show li0S q ws 0 = ⟨[(3, .str []), (6, wordsU q ws), (7, i64 ws.length), (8, i64 0)], []⟩ by simp [li0S, jn]] at hl0
  unfold lineF at *
  generalize jn ws = j at *
  have hl1 : j.length + 1 ≤ 9223372036854775807 := by omega
  have hl2 : j.length ≤ 9223372036854775806 := by omega
  (repeat' first | refine Wp.u ?_ | (refine Wp.c ?_ ?_ <;> intro))
  refine hl0.imp (fun _ h => h.elim) (fun _ h => h) ?_
  rintro k s ⟨rfl, rfl⟩
  rw [if_pos rfl]
  (all_goals have := fa (a2 hl1 hl2); repeat' first | refine Wp.v ?_ | (refine Wp.c ?_ ?_ <;> intro))
  refine Wp.ret ?_; simp [Res, resU, res1, c_shape_line]
theorem Cl.lend {f : Nat} {fn : F} (hT : T f = some fn) (hp : fn.pure = true) {as' bs : List U} {st st' : List Ob} {u : U} (hl : as'.length = bs.length) (hb : allM (brwA frzD st) as' = allM (brwA frzD st) bs) (h : Cl T f bs st u st') : Cl T f as' st u st' :=
  Evt.mono h fun n h => by
    simp only [M2.call, callF, hT, Option.bind_some, hp, if_true] at h ⊢
    rw [hl, hb]
    exact h
theorem line_own (ws : List (List UInt8)) (hw : ∀ w ∈ ws, w.length ≤ 100) (hn : ws.length ≤ 40000) {id t e n : Nat} (st : List Ob) (h1 : st[id]? = some (.row t e false (ws.map strC))) (h2 : ws.length = n) : Cl T n_shape_line [.own id n] st (.str (lineF ws)) st := by
  refine Cl.lend (fn := c_shape_line) rfl rfl (bs := [wordsU false ws]) rfl ?_ (line_call false ws hw hn st)
  have : brwA frzD st (.own id n) = some (wordsU false ws) := by
    show brw frzD st (.own id n) = _
    unfold frzD brw
    simp only [h1, List.length_map, h2, if_true]
  simp only [allM, this]
  rfl
end Go.Proofs.YtbcojbmalcghbaaDoor.M2
namespace Go.Proofs.YtbcojbmalcghbaaDoor.M2
open Go
def outW (os : List Int) : List (List UInt8) := os.flatMap (fun o => [[62], toF o])
def nodeHead (y : FNode) : List (List UInt8) := wordF y.op :: (if y.op = 15 then [textF y.n] else [])
def nodeWords (y : FNode) : List (List UInt8) := nodeHead y ++ y.args.map srcF ++ outW y.outs
def valHead (v : FVal) : List (List UInt8) := [[118, 97, 108, 117, 101], toF v.pos]
def valWords (v : FVal) : List (List UInt8) := valHead v ++ v.src.map srcF
def entWords (x : FForm) : List (List UInt8) := [[101, 110, 116, 114, 121], toF x.entry]
def linesF (x : FForm) : List (List UInt8) := jn (entWords x) :: (x.nodes.map (fun y => jn (nodeWords y)) ++ x.vals.map (fun v => jn (valWords v)))
def endL (l : List UInt8) : List UInt8 := l ++ [10]
def printF (x : FForm) : List UInt8 := (linesF x).flatMap endL
theorem outW_take {os : List Int} {k : Nat} (hk : k < os.length) : outW (os.take (k + 1)) = outW (os.take k) ++ [[62], toF os[k]] := by
  unfold outW
  rw [List.take_succ_eq_append_getElem hk, List.flatMap_append]
  rfl
theorem map_take {α β : Type} (f : α → β) {l : List α} {k : Nat} (hk : k < l.length) : (l.take (k + 1)).map f = (l.take k).map f ++ [f l[k]] := by
  rw [List.take_succ_eq_append_getElem hk, List.map_append]
  rfl
theorem outW_len (os : List Int) : (outW os).length = 2 * os.length := by
  induction os with
  | nil => rfl
  | cons o os ih => unfold outW at ih ⊢; simp only [List.flatMap_cons, List.length_append, List.length_cons, List.length_nil, ih]; omega
structure NodeT (y : FNode) : Prop where
  op : opOk y.op = true
  n : rng y.n
  args : ∀ s ∈ y.args, SrcR s
  outs : ∀ o ∈ y.outs, rng o
  lo : ∀ o ∈ y.outs, -1 ≤ o
  kind : ∀ s ∈ y.args, 0 ≤ s.1 ∧ s.1 ≤ 4
  len : y.args.length ≤ 10000
  olen : y.outs.length ≤ 10000
structure ValT (v : FVal) : Prop where
  pos : rng v.pos
  src : ∀ s ∈ v.src, SrcR s
  lo : -1 ≤ v.pos
  kind : ∀ s ∈ v.src, 0 ≤ s.1 ∧ s.1 ≤ 4
  len : v.src.length ≤ 10000
theorem head_w (y : FNode) (h : rng y.n) : ∀ w ∈ nodeHead y, w.length ≤ 100 := by
  intro w hw
  unfold nodeHead at hw
  rcases List.mem_cons.1 hw with rfl | hw
  · have := word_len y.op
    omega
  · split at hw
    · simp only [List.mem_singleton] at hw
      subst hw
      have := text_len h
      omega
    · cases hw
theorem srcs_w {l : List (Int × Int)} (h : ∀ s ∈ l, SrcR s) : ∀ w ∈ l.map srcF, w.length ≤ 100 := by
  intro w hw
  obtain ⟨s, hs, rfl⟩ := List.mem_map.1 hw
  have := src_len (h s hs)
  omega
theorem outs_w {l : List Int} (h : ∀ o ∈ l, rng o) : ∀ w ∈ outW l, w.length ≤ 100 := by
  intro w hw
  obtain ⟨o, ho, hw⟩ := List.mem_flatMap.1 hw
  simp only [List.mem_cons, List.not_mem_nil, or_false] at hw
  rcases hw with rfl | rfl
  · simp
  · have := to_len (h o ho)
    omega
theorem node_w {y : FNode} (h : NodeT y) : ∀ w ∈ nodeWords y, w.length ≤ 100 := by
  intro w hw
  unfold nodeWords at hw
  rcases List.mem_append.1 hw with hw | hw
  · rcases List.mem_append.1 hw with hw | hw
    · exact head_w y h.n w hw
    · exact srcs_w h.args w hw
  · exact outs_w h.outs w hw
theorem val_w {v : FVal} (h : ValT v) : ∀ w ∈ valWords v, w.length ≤ 100 := by
  intro w hw
  unfold valWords valHead at hw
  rcases List.mem_append.1 hw with hw | hw
  · simp only [List.mem_cons, List.not_mem_nil, or_false] at hw
    rcases hw with rfl | rfl
    · simp
    · have := to_len h.pos
      omega
  · exact srcs_w h.src w hw
theorem head_len (y : FNode) : (nodeHead y).length ≤ 2 := by
  unfold nodeHead
  split <;> simp
theorem node_n {y : FNode} (h : NodeT y) : (nodeWords y).length ≤ 30002 := by
  have := head_len y
  have := h.len
  have := h.olen
  have := outW_len y.outs
  simp only [nodeWords, List.length_append, List.length_map]
  omega
theorem val_n {v : FVal} (h : ValT v) : (valWords v).length ≤ 10002 := by
  have := h.len
  simp only [valWords, valHead, List.length_append, List.length_map, List.length_cons, List.length_nil]
  omega
theorem ent_w {x : FForm} (h : rng x.entry) : ∀ w ∈ entWords x, w.length ≤ 100 := by
  intro w hw
  simp only [entWords, List.mem_cons, List.not_mem_nil, or_false] at hw
  rcases hw with rfl | rfl
  · simp
  · have := to_len h
    omega
theorem flat_len {α β : Type} {f : α → List β} {b : Nat} {l : List α} (h : ∀ y ∈ l, (f y).length ≤ b) : (l.flatMap f).length ≤ l.length * b := by
  induction l with
  | nil => simp
  | cons a l ih =>
    have h1 := ih (fun y hy => h y (by simp [hy]))
    have h2 := h a (by simp)
    rw [List.flatMap_cons, List.length_append, List.length_cons, Nat.add_mul]
    omega
structure FormT (x : FForm) : Prop where
  ent : rng x.entry
  elo : -1 ≤ x.entry
  nodes : ∀ y ∈ x.nodes, NodeT y
  vals : ∀ v ∈ x.vals, ValT v
  nlen : x.nodes.length ≤ 10000
  vlen : x.vals.length ≤ 10000
theorem right_form {x : FForm} (hx : Small x) (hr : FormR x) (h : rightF x = true) : FormT x := by
  simp only [rightF, Bool.and_eq_true, decide_eq_true_eq, List.all_eq_true] at h
  obtain ⟨⟨⟨h1, h2⟩, h3⟩, h4⟩ := h
  refine ⟨hr.entry, h1, fun y hy => ?_, fun v hv => ?_, hx.nodes, hx.vals⟩
  · obtain ⟨i, hi, e⟩ := List.mem_iff_getElem.1 hy
    have := h3 (y, i) (List.mem_zipIdx_iff_getElem?.2 (by simp [← e, hi]))
    simp only [nodeF, Bool.and_eq_true, decide_eq_true_eq, List.all_eq_true] at this
    obtain ⟨⟨⟨⟨⟨⟨⟨k1, k2⟩, k3⟩, k4⟩, k5⟩, k6⟩, k7⟩, k8⟩ := this
    have hn := hr.nodes y hy
    refine ⟨k1, hn.n, hn.args, hn.outs, fun o ho => ?_, fun s hs => ?_, hx.args y hy, hx.outs y hy⟩
    · have := k8 o ho
      simp only [outOk, Bool.and_eq_true, decide_eq_true_eq] at this
      exact this.1
    · have := k7 s hs
      simp only [argOk, valF, Bool.or_eq_true, Bool.and_eq_true, decide_eq_true_eq] at this
      omega
  · have := h4 v hv
    simp only [valOk, Bool.and_eq_true, decide_eq_true_eq, List.all_eq_true] at this
    obtain ⟨⟨⟨k1, k2⟩, k3⟩, k4⟩ := this
    have hn := hr.vals v hv
    refine ⟨hn.pos, hn.src, by omega, fun s hs => ?_, hx.src v hv⟩
    obtain ⟨i, hi, e⟩ := List.mem_iff_getElem.1 hs
    have hm : (s, (waysF x v.pos)[i]'(by omega)) ∈ v.src.zip (waysF x v.pos) := by
      rw [List.mem_iff_getElem]
      exact ⟨i, by rw [List.length_zip]; omega, by rw [List.getElem_zip, e]⟩
    have := k4 _ hm
    unfold comesF at this
    simp only at this
    split at this
    · omega
    · split at this
      · omega
      · split at this
        · omega
        · split at this
          · omega
          · simp only [valF, Bool.and_eq_true, decide_eq_true_eq] at this
            omega
def WordOK (w : List UInt8) : Prop := w ≠ [] ∧ ∀ c ∈ w, c ≠ 32 ∧ c ≠ 10
def Dgt (c : UInt8) : Prop := 48 ≤ c.toNat ∧ c.toNat ≤ 57
theorem byt_toNat {r : Nat} (h : r < 10) : (byt r).toNat = 48 + r := by
  unfold byt
  rw [UInt8.toNat_ofNat']
  omega
theorem dig_dgt : ∀ (m : Nat), ∀ c ∈ dig m, Dgt c := by
  intro m
  induction m using Nat.strongRecOn with
  | _ m ih =>
  intro c hc
  have hb : Dgt (byt (m % 10)) := by
    unfold Dgt
    rw [byt_toNat (by omega)]
    omega
  by_cases h : m < 10
  · rw [dig_small h, List.mem_singleton] at hc
    rw [hc]
    exact hb
  · rw [dig_big h] at hc
    rcases List.mem_append.1 hc with hc | hc
    · exact ih _ (by omega) c hc
    · rw [List.mem_singleton.1 hc]
      exact hb
theorem dig_ne (m : Nat) : dig m ≠ [] := by
  by_cases h : m < 10
  · rw [dig_small h]; simp
  · rw [dig_big h]; simp
def digN (l : List UInt8) : Nat := l.foldl (fun a c => a * 10 + (c.toNat - 48)) 0
theorem val_dig (m : Nat) : digN (dig m) = m := by
  induction m using Nat.strongRecOn with
  | _ m ih =>
  by_cases h : m < 10
  · rw [dig_small h]
    simp only [digN, List.foldl_cons, List.foldl_nil, byt_toNat (show m % 10 < 10 by omega)]
    omega
  · rw [dig_big h]
    unfold digN
    rw [List.foldl_append]
    have := ih (m / 10) (by omega)
    unfold digN at this
    rw [this]
    simp only [List.foldl_cons, List.foldl_nil, byt_toNat (show m % 10 < 10 by omega)]
    omega
theorem dig_inj {m n : Nat} (h : dig m = dig n) : m = n := by rw [← val_dig m, h, val_dig]
theorem dgt_plain {c : UInt8} (h : Dgt c) : c ≠ 32 ∧ c ≠ 10 ∧ c ≠ 45 := by
  unfold Dgt at h
  refine ⟨?_, ?_, ?_⟩ <;> rintro rfl <;> revert h <;> decide
theorem dig_45 (m : Nat) (r : List UInt8) : dig m ≠ 45 :: r := fun h => (dgt_plain (dig_dgt m 45 (by rw [h]; simp))).2.2 rfl
theorem dig_plain (m : Nat) : WordOK (dig m) := ⟨dig_ne m, fun c hc => ⟨(dgt_plain (dig_dgt m c hc)).1, (dgt_plain (dig_dgt m c hc)).2.1⟩⟩
theorem plain_cons {c : UInt8} (hc : c ≠ 32 ∧ c ≠ 10) {w : List UInt8} (h : ∀ c ∈ w, c ≠ 32 ∧ c ≠ 10) : WordOK (c :: w) := ⟨by simp, fun d hd => by
  rcases List.mem_cons.1 hd with rfl | hd
  · exact hc
  · exact h d hd⟩
theorem text_plain (n : Int) : WordOK (textF n) := by
  unfold textF
  split
  · exact plain_cons (by decide) (dig_plain _).2
  · exact dig_plain _
theorem text_inj {n m : Int} (h : textF n = textF m) : n = m := by
  unfold textF at h
  split at h
  · split at h
    · injection h with _ h
      have := dig_inj h
      omega
    · exact absurd h.symm (dig_45 _ _)
  · split at h
    · exact absurd h (dig_45 _ _)
    · have := dig_inj h
      omega
theorem to_plain (n : Int) : WordOK (toF n) := by
  unfold toF
  split
  · exact plain_cons (by decide) (by simp)
  · exact text_plain n
theorem to_inj {n m : Int} (hn : -1 ≤ n) (hm : -1 ≤ m) (h : toF n = toF m) : n = m := by
  unfold toF at h
  split at h
  · split at h
    · omega
    · unfold textF at h
      rw [if_neg (by assumption)] at h
      exact absurd h.symm (dig_45 _ _)
  · split at h
    · unfold textF at h
      rw [if_neg (by assumption)] at h
      exact absurd h (dig_45 _ _)
    · exact text_inj h
theorem src_plain (s : Int × Int) : WordOK (srcF s) := by
  unfold srcF
  repeat' split
  · exact ⟨by decide, by decide⟩
  · exact plain_cons (by decide) (text_plain _).2
  · exact plain_cons (by decide) (text_plain _).2
  · exact ⟨by decide, by decide⟩
  · exact plain_cons (by decide) (text_plain _).2
def SrcK (s : Int × Int) : Prop := 0 ≤ s.1 ∧ s.1 ≤ 4 ∧ (s.1 = 0 ∨ s.1 = 3 → s.2 = 0)
theorem src_inj {s t : Int × Int} (hs : SrcK s) (ht : SrcK t) (h : srcF s = srcF t) : s = t := by
  obtain ⟨a, b⟩ := s
  obtain ⟨c, d⟩ := t
  obtain ⟨s1, s2, s3⟩ := hs
  obtain ⟨t1, t2, t3⟩ := ht
  simp only at s1 s2 s3 t1 t2 t3
  have ha : a = 0 ∨ a = 1 ∨ a = 2 ∨ a = 3 ∨ a = 4 := by omega
  have hc : c = 0 ∨ c = 1 ∨ c = 2 ∨ c = 3 ∨ c = 4 := by omega
  rcases ha with rfl | rfl | rfl | rfl | rfl <;> rcases hc with rfl | rfl | rfl | rfl | rfl <;> simp [srcF] at h
  · rw [s3 (.inl rfl), t3 (.inl rfl)]
  · rw [text_inj h]
  · rw [text_inj h]
  · rw [s3 (.inr rfl), t3 (.inr rfl)]
  · rw [text_inj h]
/-! Parting lines into words, a text into lines. -/
theorem split_at {q : UInt8} : ∀ {v w r s : List UInt8}, (∀ c ∈ v, c ≠ q) → (∀ c ∈ w, c ≠ q) → (r = [] ∨ r.head? = some q) → (s = [] ∨ s.head? = some q) → v ++ r = w ++ s → v = w ∧ r = s
  | [], [], _, _, _, _, _, _, h => ⟨rfl, h⟩
  | [], b :: w, r, s, _, hw, hr, _, h => by
    rcases hr with rfl | hr
    · cases h
    · rw [List.nil_append] at h
      rw [h] at hr
      injection hr with hr
      exact absurd hr (hw b (by simp))
  | a :: v, [], r, s, hv, _, _, hs, h => by
    rcases hs with rfl | hs
    · cases h
    · rw [List.nil_append] at h
      rw [← h] at hs
      injection hs with hs
      exact absurd hs (hv a (by simp))
  | a :: v, b :: w, r, s, hv, hw, hr, hs, h => by
    rw [List.cons_append, List.cons_append] at h
    injection h with h1 h2
    obtain ⟨e1, e2⟩ := split_at (fun c hc => hv c (by simp [hc])) (fun c hc => hw c (by simp [hc])) hr hs h2
    exact ⟨by rw [h1, e1], e2⟩
theorem flat_head (vs : List (List UInt8)) : vs.flatMap (fun w => 32 :: w) = [] ∨ (vs.flatMap (fun w => 32 :: w)).head? = some 32 := by
  cases vs with
  | nil => exact .inl rfl
  | cons v vs => exact .inr rfl
theorem flat_inj : ∀ {vs ws : List (List UInt8)}, (∀ w ∈ vs, WordOK w) → (∀ w ∈ ws, WordOK w) → vs.flatMap (fun w => 32 :: w) = ws.flatMap (fun w => 32 :: w) → vs = ws
  | [], [], _, _, _ => rfl
  | [], _ :: _, _, _, h => by simp at h
  | _ :: _, [], _, _, h => by simp at h
  | v :: vs, w :: ws, hv, hw, h => by
    rw [List.flatMap_cons, List.flatMap_cons, List.cons_append, List.cons_append] at h
    injection h with _ h
    obtain ⟨e1, e2⟩ := split_at (fun c hc => ((hv v (by simp)).2 c hc).1) (fun c hc => ((hw w (by simp)).2 c hc).1) (flat_head vs) (flat_head ws) h
    rw [e1, flat_inj (fun x hx => hv x (by simp [hx])) (fun x hx => hw x (by simp [hx])) e2]
theorem jn_inj {vs ws : List (List UInt8)} (hv : ∀ w ∈ vs, WordOK w) (hw : ∀ w ∈ ws, WordOK w) (nv : vs ≠ []) (nw : ws ≠ []) (h : jn vs = jn ws) : vs = ws := by
  obtain ⟨v, vs, rfl⟩ := List.exists_cons_of_ne_nil nv
  obtain ⟨w, ws, rfl⟩ := List.exists_cons_of_ne_nil nw
  refine flat_inj hv hw ?_
  rw [jn_cons, jn_cons] at h
  rw [List.flatMap_cons, List.flatMap_cons, List.cons_append, List.cons_append, h]
theorem jn_line {vs : List (List UInt8)} (hv : ∀ w ∈ vs, WordOK w) (nv : vs ≠ []) : jn vs ≠ [] ∧ ∀ c ∈ jn vs, c ≠ 10 := by
  obtain ⟨v, vs, rfl⟩ := List.exists_cons_of_ne_nil nv
  rw [jn_cons]
  refine ⟨fun h => (hv v (by simp)).1 (List.append_eq_nil_iff.1 h).1, fun c hc => ?_⟩
  rcases List.mem_append.1 hc with hc | hc
  · exact ((hv v (by simp)).2 c hc).2
  · obtain ⟨w, hw, hc⟩ := List.mem_flatMap.1 hc
    rcases List.mem_cons.1 hc with rfl | hc
    · decide
    · exact ((hv w (by simp [hw])).2 c hc).2
theorem end_inj : ∀ {vs ws : List (List UInt8)}, (∀ w ∈ vs, ∀ c ∈ w, c ≠ 10) → (∀ w ∈ ws, ∀ c ∈ w, c ≠ 10) → vs.flatMap endL = ws.flatMap endL → vs = ws
  | [], [], _, _, _ => rfl
  | [], _ :: _, _, _, h => by simp [endL] at h
  | _ :: _, [], _, _, h => by simp [endL] at h
  | v :: vs, w :: ws, hv, hw, h => by
    rw [List.flatMap_cons, List.flatMap_cons] at h
    unfold endL at h
    rw [List.append_assoc, List.append_assoc] at h
    obtain ⟨e1, e2⟩ := split_at (q := 10) (hv v (by simp)) (hw w (by simp)) (.inr rfl) (.inr rfl) h
    injection e2 with _ e2
    rw [e1, end_inj (fun x hx => hv x (by simp [hx])) (fun x hx => hw x (by simp [hx])) e2]
theorem map_inj {α β : Type} {f : α → β} : ∀ {l m : List α}, (∀ a ∈ l, ∀ b ∈ m, f a = f b → a = b) → l.map f = m.map f → l = m
  | [], [], _, _ => rfl
  | [], _ :: _, _, h => by simp at h
  | _ :: _, [], _, h => by simp at h
  | a :: l, b :: m, hf, h => by
    rw [List.map_cons, List.map_cons] at h
    injection h with h1 h2
    rw [hf a (by simp) b (by simp) h1, map_inj (fun x hx y hy => hf x (by simp [hx]) y (by simp [hy])) h2]
theorem app_split {α : Type} : ∀ {a a' b b' : List α}, (∀ x ∈ a, ∀ y ∈ b', x ≠ y) → (∀ x ∈ a', ∀ y ∈ b, x ≠ y) → a ++ b = a' ++ b' → a = a' ∧ b = b'
  | [], [], _, _, _, _, h => ⟨rfl, h⟩
  | [], x :: a', b, b', _, h2, h => by
    rw [List.nil_append] at h
    exact absurd rfl (h2 x (by simp) x (by rw [h]; simp))
  | x :: a, [], b, b', h1, _, h => by
    rw [List.nil_append] at h
    exact absurd rfl (h1 x (by simp) x (by rw [← h]; simp))
  | x :: a, y :: a', b, b', h1, h2, h => by
    rw [List.cons_append, List.cons_append] at h
    injection h with e1 e2
    obtain ⟨k1, k2⟩ := app_split (fun u hu => h1 u (by simp [hu])) (fun u hu => h2 u (by simp [hu])) e2
    exact ⟨by rw [e1, k1], k2⟩
theorem word_plain {op : Int} (h : opOk op = true) : WordOK (wordF op) := by
  refine ⟨word_some h, ?_⟩
  rcases op_cases h with rfl | rfl | rfl | rfl | rfl | rfl | rfl | rfl | rfl | rfl | rfl | rfl | rfl | rfl | rfl
  all_goals decide
theorem word_value {op : Int} (h : opOk op = true) : wordF op ≠ [118, 97, 108, 117, 101] := by
  rcases op_cases h with rfl | rfl | rfl | rfl | rfl | rfl | rfl | rfl | rfl | rfl | rfl | rfl | rfl | rfl | rfl
  all_goals decide
def opOf (w : List UInt8) : Int := ((opWords.idxOf w : Nat) : Int)
theorem word_inj {a b : Int} (ha : opOk a = true) (hb : opOk b = true) (h : wordF a = wordF b) : a = b := by
  have key : ∀ c, opOk c = true → opOf (wordF c) = c := fun c hc => by
    rcases op_cases hc with rfl | rfl | rfl | rfl | rfl | rfl | rfl | rfl | rfl | rfl | rfl | rfl | rfl | rfl | rfl
    all_goals decide
  rw [← key a ha, h, key b hb]
structure NodeK (y : FNode) : Prop where
  op : opOk y.op = true
  n : y.n = 0 ∨ y.op = 15
  args : ∀ s ∈ y.args, SrcK s
  outs : ∀ o ∈ y.outs, -1 ≤ o
  alen : y.args.length = argsF y.op
  olen : y.outs.length = outsF y.op
structure ValK (v : FVal) : Prop where
  src : ∀ s ∈ v.src, SrcK s
  pos : -1 ≤ v.pos
structure FormK (x : FForm) : Prop where
  ent : -1 ≤ x.entry
  nodes : ∀ y ∈ x.nodes, NodeK y
  vals : ∀ v ∈ x.vals, ValK v
theorem right_k {x : FForm} (h : rightF x = true) : FormK x := by
  simp only [rightF, Bool.and_eq_true, decide_eq_true_eq, List.all_eq_true] at h
  obtain ⟨⟨⟨h1, h2⟩, h3⟩, h4⟩ := h
  refine ⟨h1, fun y hy => ?_, fun v hv => ?_⟩
  · obtain ⟨i, hi, e⟩ := List.mem_iff_getElem.1 hy
    have := h3 (y, i) (List.mem_zipIdx_iff_getElem?.2 (by simp [← e, hi]))
    simp only [nodeF, Bool.and_eq_true, Bool.or_eq_true, decide_eq_true_eq, List.all_eq_true] at this
    obtain ⟨⟨⟨⟨⟨⟨⟨k1, k2⟩, k3⟩, k4⟩, k5⟩, k6⟩, k7⟩, k8⟩ := this
    refine ⟨k1, k6, fun s hs => ?_, fun o ho => ?_, k2, k3⟩
    · have := k7 s hs
      simp only [argOk, valF, Bool.or_eq_true, Bool.and_eq_true, decide_eq_true_eq] at this
      unfold SrcK
      omega
    · have := k8 o ho
      simp only [outOk, Bool.and_eq_true, decide_eq_true_eq] at this
      exact this.1
  · have := h4 v hv
    simp only [valOk, Bool.and_eq_true, decide_eq_true_eq, List.all_eq_true] at this
    obtain ⟨⟨⟨k1, k2⟩, k3⟩, k4⟩ := this
    refine ⟨fun s hs => ?_, by omega⟩
    obtain ⟨i, hi, e⟩ := List.mem_iff_getElem.1 hs
    have hm : (s, (waysF x v.pos)[i]'(by omega)) ∈ v.src.zip (waysF x v.pos) := by
      rw [List.mem_iff_getElem]
      exact ⟨i, by rw [List.length_zip]; omega, by rw [List.getElem_zip, e]⟩
    have := k4 _ hm
    unfold comesF at this
    unfold SrcK
    simp only at this
    split at this
    · omega
    · split at this
      · simp only [decide_eq_true_eq] at this
        omega
      · split at this
        · omega
        · split at this
          · simp only [Bool.and_eq_true, decide_eq_true_eq] at this
            omega
          · simp only [valF, Bool.and_eq_true, decide_eq_true_eq] at this
            omega
theorem head_plain {y : FNode} (h : NodeK y) : ∀ w ∈ nodeHead y, WordOK w := fun w hw => by
  unfold nodeHead at hw
  rcases List.mem_cons.1 hw with rfl | hw
  · exact word_plain h.op
  · split at hw
    · rw [List.mem_singleton.1 hw]
      exact text_plain _
    · cases hw
theorem srcs_plain (l : List (Int × Int)) : ∀ w ∈ l.map srcF, WordOK w := fun w hw => by
  obtain ⟨s, _, rfl⟩ := List.mem_map.1 hw
  exact src_plain s
theorem outs_plain (l : List Int) : ∀ w ∈ outW l, WordOK w := fun w hw => by
  obtain ⟨o, _, hw⟩ := List.mem_flatMap.1 hw
  simp only [List.mem_cons, List.not_mem_nil, or_false] at hw
  rcases hw with rfl | rfl
  · exact ⟨by decide, by decide⟩
  · exact to_plain o
theorem nodeW_plain {y : FNode} (h : NodeK y) : ∀ w ∈ nodeWords y, WordOK w := fun w hw => by
  unfold nodeWords at hw
  rcases List.mem_append.1 hw with hw | hw
  · rcases List.mem_append.1 hw with hw | hw
    · exact head_plain h w hw
    · exact srcs_plain _ w hw
  · exact outs_plain _ w hw
theorem valW_plain (v : FVal) : ∀ w ∈ valWords v, WordOK w := fun w hw => by
  unfold valWords valHead at hw
  rcases List.mem_append.1 hw with hw | hw
  · simp only [List.mem_cons, List.not_mem_nil, or_false] at hw
    rcases hw with rfl | rfl
    · exact ⟨by decide, by decide⟩
    · exact to_plain _
  · exact srcs_plain _ w hw
theorem entW_plain (x : FForm) : ∀ w ∈ entWords x, WordOK w := fun w hw => by
  simp only [entWords, List.mem_cons, List.not_mem_nil, or_false] at hw
  rcases hw with rfl | rfl
  · exact ⟨by decide, by decide⟩
  · exact to_plain _
theorem nodeW_ne (y : FNode) : nodeWords y ≠ [] := by simp [nodeWords, nodeHead]
theorem valW_ne (v : FVal) : valWords v ≠ [] := by simp [valWords, valHead]
theorem entW_ne (x : FForm) : entWords x ≠ [] := by simp [entWords]
theorem outW_inj : ∀ {l m : List Int}, (∀ o ∈ l, -1 ≤ o) → (∀ o ∈ m, -1 ≤ o) → outW l = outW m → l = m
  | [], [], _, _, _ => rfl
  | [], _ :: _, _, _, h => by simp [outW] at h
  | _ :: _, [], _, _, h => by simp [outW] at h
  | a :: l, b :: m, hl, hm, h => by
    unfold outW at h
    rw [List.flatMap_cons, List.flatMap_cons, List.cons_append, List.cons_append, List.cons_append, List.cons_append] at h
    injection h with _ h
    injection h with h1 h2
    rw [to_inj (hl a (by simp)) (hm b (by simp)) h1, outW_inj (fun o ho => hl o (by simp [ho])) (fun o ho => hm o (by simp [ho])) h2]
theorem nodeW_inj {y z : FNode} (hy : NodeK y) (hz : NodeK z) (h : nodeWords y = nodeWords z) : y = z := by
  obtain ⟨o1, n1, a1, u1⟩ := y
  obtain ⟨o2, n2, a2, u2⟩ := z
  have hop : o1 = o2 := by
    refine word_inj hy.op hz.op ?_
    simp only [nodeWords, nodeHead, List.cons_append] at h
    injection h with h _
  subst hop
  have hal : (a1.map srcF).length = (a2.map srcF).length := by
    rw [List.length_map, List.length_map]
    exact hy.alen.trans hz.alen.symm
  unfold nodeWords at h
  have hhl : (nodeHead ⟨o1, n1, a1, u1⟩).length = (nodeHead ⟨o1, n2, a2, u2⟩).length := by
    unfold nodeHead
    simp only [List.length_cons]
    split <;> rfl
  rw [List.append_assoc, List.append_assoc] at h
  obtain ⟨e1, e2⟩ := List.append_inj h hhl
  obtain ⟨e2, e3⟩ := List.append_inj e2 hal
  have ha : a1 = a2 := map_inj (fun s hs t ht h => src_inj (hy.args s hs) (hz.args t ht) h) e2
  have hu : u1 = u2 := outW_inj hy.outs hz.outs e3
  have hn : n1 = n2 := by
    by_cases h15 : o1 = 15
    · unfold nodeHead at e1
      simp only [h15, if_true] at e1
      injection e1 with _ e1
      injection e1 with e1 _
      exact text_inj e1
    · have k1 := hy.n
      have k2 := hz.n
      simp only [h15, or_false] at k1 k2
      rw [k1, k2]
  rw [ha, hu, hn]
theorem valW_inj {v w : FVal} (hv : ValK v) (hw : ValK w) (h : valWords v = valWords w) : v = w := by
  obtain ⟨p1, s1⟩ := v
  obtain ⟨p2, s2⟩ := w
  simp only [valWords, valHead, List.cons_append, List.nil_append] at h
  injection h with _ h
  injection h with h1 h2
  have k1 : p1 = p2 := to_inj hv.pos hw.pos h1
  have k2 : s1 = s2 := map_inj (fun s hs t ht h => src_inj (hv.src s hs) (hw.src t ht) h) h2
  rw [k1, k2]
theorem node_val {y : FNode} (hy : NodeK y) (v : FVal) : jn (nodeWords y) ≠ jn (valWords v) := fun h => by
  have := jn_inj (nodeW_plain hy) (valW_plain v) (nodeW_ne y) (valW_ne v) h
  simp only [nodeWords, nodeHead, valWords, valHead, List.cons_append] at this
  injection this with h _
  exact word_value hy.op h
theorem lines_inj {x y : FForm} (hx : FormK x) (hy : FormK y) (h : linesF x = linesF y) : x = y := by
  obtain ⟨e1, n1, v1⟩ := x
  obtain ⟨e2, n2, v2⟩ := y
  unfold linesF at h
  injection h with h1 h2
  have he : e1 = e2 := by
    have := jn_inj (entW_plain _) (entW_plain _) (entW_ne _) (entW_ne _) h1
    simp only [entWords] at this
    injection this with _ this
    injection this with this _
    exact to_inj hx.ent hy.ent this
  obtain ⟨k1, k2⟩ := app_split (fun a ha b hb => by
    obtain ⟨y, hy', rfl⟩ := List.mem_map.1 ha
    obtain ⟨v, _, rfl⟩ := List.mem_map.1 hb
    exact node_val (hx.nodes y hy') v) (fun a ha b hb => by
    obtain ⟨y, hy', rfl⟩ := List.mem_map.1 ha
    obtain ⟨v, _, rfl⟩ := List.mem_map.1 hb
    exact node_val (hy.nodes y hy') v) h2
  have hn : n1 = n2 := map_inj (fun a ha b hb h => nodeW_inj (hx.nodes a ha) (hy.nodes b hb) (jn_inj (nodeW_plain (hx.nodes a ha)) (nodeW_plain (hy.nodes b hb)) (nodeW_ne a) (nodeW_ne b) h)) k1
  have hv : v1 = v2 := map_inj (fun a ha b hb h => valW_inj (hx.vals a ha) (hy.vals b hb) (jn_inj (valW_plain a) (valW_plain b) (valW_ne a) (valW_ne b) h)) k2
  rw [he, hn, hv]
theorem lines_ok {x : FForm} (hx : FormK x) : ∀ l ∈ linesF x, l ≠ [] ∧ ∀ c ∈ l, c ≠ 10 := fun l hl => by
  unfold linesF at hl
  rcases List.mem_cons.1 hl with rfl | hl
  · exact jn_line (entW_plain x) (entW_ne x)
  · rcases List.mem_append.1 hl with hl | hl
    · obtain ⟨y, hy, rfl⟩ := List.mem_map.1 hl
      exact jn_line (nodeW_plain (hx.nodes y hy)) (nodeW_ne y)
    · obtain ⟨v, hv, rfl⟩ := List.mem_map.1 hl
      exact jn_line (valW_plain v) (valW_ne v)
theorem print_inj {x y : FForm} (hx : FormK x) (hy : FormK y) (h : printF x = printF y) : x = y :=
  lines_inj hx hy (end_inj (fun l hl => (lines_ok hx l hl).2) (fun l hl => (lines_ok hy l hl).2) h)
end Go.Proofs.YtbcojbmalcghbaaDoor.M2
namespace Go.Proofs.YtbcojbmalcghbaaDoor.M2
open Go
attribute [local simp] ev1 M2.get put A.ev ld sub part elems bin arith un opt idx fillC cellsO splice over newOb sto fillR laidOwn appTo appRow touch touchN touchM touchE touchA plainU flatU plainAs allM rowAt stoRow accM_nil accM_cons accMM_nil accMM_cons frz_int frz_bool frz_str frz_slt frz_nils frz_nilI frz_nilF frz_own frzRow_row frzRow_frow Ob.blw blw_bool blw_int blw_str blw_nils blw_nilI blw_nilF blw_nilp blw_nilm blw_sl blw_own blw_bp blw_rp blw_mp blw_it params
attribute [local simp] frz_agg frz_tup frz_iface frzS_agg frzS_iface accMS_cons frzS_int frzS_bool frzS_str frzS_slt frzS_nils frzS_nilI beq_dec bne_dec
def Zok (X : List Ob) : Prop := X = [] ∨ ∃ t, X = [.row 9 1 false [[.str t]]]
abbrev entR (a b : List UInt8) : Ob := .row 9 1 false [[.str a], [.str b]]
def pa0S (x : FForm) (y : FNode) (acc a b : List UInt8) (n : Nat) (W : List (List UInt8)) (X : List Ob) (k : Nat) : S :=
  ⟨[(1, .bp 0 0), (4, .str acc), (6, .bp 2 0), (7, .own 3 W.length), (26, .sl true (x.nodes.map nodeC)), (27, i64 x.nodes.length), (28, i64 n), (48, srcsU y.args), (49, i64 y.args.length), (50, i64 k)], .box (formC x) :: entR a b :: .box (nodeC y) :: .row 9 1 false (W.map strC) :: X⟩
set_option maxHeartbeats 8000000 in
theorem pa0_loop (x : FForm) (y : FNode) (acc a b : List UInt8) (n : Nat) (W : List (List UInt8)) (X : List Ob) (hX : Zok X) (hW : W.length ≤ 100) (hl : y.args.length ≤ 10000) (hs : ∀ s ∈ y.args, SrcR s) (R : S → Prop) :
    Wp T (.loop c_shape_Print_L0) (pa0S x y acc a b n W X 0) (fun _ => False) R
      (fun c s' => c = 2 ∧ s' = ⟨[(1, .bp 0 0), (4, .str acc), (6, .bp 2 0), (7, .own 3 (W ++ y.args.map srcF).length), (26, .sl true (x.nodes.map nodeC)), (27, i64 x.nodes.length), (28, i64 n), (48, srcsU y.args), (49, i64 y.args.length), (50, i64 (y.args.length : Nat)), (51, .bool false)],
        .box (formC x) :: entR a b :: .box (nodeC y) :: .row 9 1 false ((W ++ y.args.map srcF).map strC) :: X⟩) := by
  rw [show pa0S x y acc a b n W X 0 = pa0S x y acc a b n (W ++ (y.args.take 0).map srcF) X 0 by simp]
  refine Wp.count y.args.length (fun k => pa0S x y acc a b n (W ++ (y.args.take k).map srcF) X k) (fun _ => True) (fun k hk _ => ?_) (fun _ => ?_) 0 (by omega) trivial
  · have hk' : (k : Int) < y.args.length := by omega
    have eg : y.args[k]? = some y.args[k] := List.getElem?_eq_getElem hk
    have hsc := fun st => source_call y.args[k] (hs _ (List.getElem_mem hk)) st
    rw [map_take srcF hk, ← List.append_assoc]
    have hlen : (W ++ (y.args.take k).map srcF).length ≤ 10100 := by
      rw [List.length_append, List.length_map, List.length_take]
      omega
    generalize W ++ (y.args.take k).map srcF = V at *
    have e1 := strC_snoc V (srcF y.args[k])
    have e3 : (V ++ [srcF y.args[k]]).length = V.length + 1 := by simp
    have e2 : (V.map strC).length = V.length := List.length_map _
    have lim : (V.length + 1) * 16 ≤ 140737488355328 := by omega
    simp only [pa0S, e3]
    generalize srcF y.args[k] = w at *
    generalize y.args[k] = s at *
    generalize (V ++ [w]).map strC = R1 at *
    generalize V.map strC = R0 at *
    simp only [srcC] at hsc
    rcases hX with rfl | ⟨t, rfl⟩
    · (all_goals have := fa (a5 @srcsU.eq_1 @srcC.eq_1 hk' eg (a3 e1 e2 lim)); repeat' first | refine Wp.v ?_ | (apply Wp.call; exact hsc _) | (refine Wp.c ?_ ?_ <;> intro))
      (have := fa @wrap_id; repeat refine Wp.f ?_)
      exact ⟨by simp [trimO, trim, formC, nodeC, outsU, srcsU], trivial⟩
    · (all_goals have := fa (a5 @srcsU.eq_1 @srcC.eq_1 hk' eg (a3 e1 e2 lim)); repeat' first | refine Wp.v ?_ | (apply Wp.call; exact hsc _) | (refine Wp.c ?_ ?_ <;> intro))
      (have := fa @wrap_id; repeat refine Wp.f ?_)
      exact ⟨by simp [trimO, trim, formC, nodeC, outsU, srcsU], trivial⟩
  · rw [List.take_of_length_le (Nat.le_refl _)]
    simp only [pa0S]
    repeat refine Wp.a ?_
    refine Wp.i ?_ ?_ <;> intro h1
    · simp at h1
    · exact Wp.exit ⟨rfl, by simp⟩
def pa1S (x : FForm) (y : FNode) (acc a b : List UInt8) (n : Nat) (W : List (List UInt8)) (X : List Ob) (k : Nat) : S :=
  ⟨[(1, .bp 0 0), (4, .str acc), (7, .own 3 W.length), (26, .sl true (x.nodes.map nodeC)), (27, i64 x.nodes.length), (28, i64 n), (61, outsU y.outs), (62, i64 y.outs.length), (63, i64 k)], .box (formC x) :: entR a b :: .box (nodeC y) :: .row 9 1 false (W.map strC) :: X⟩
set_option maxHeartbeats 8000000 in
theorem pa1_loop (x : FForm) (y : FNode) (acc a b : List UInt8) (n : Nat) (W : List (List UInt8)) (X : List Ob) (hX : Zok X) (hW : W.length ≤ 10100) (hl : y.outs.length ≤ 10000) (hs : ∀ s ∈ y.outs, rng s) (R : S → Prop) :
    Wp T (.loop c_shape_Print_L1) (pa1S x y acc a b n W X 0) (fun _ => False) R
      (fun c s' => c = 4 ∧ s' = ⟨[(1, .bp 0 0), (4, .str acc), (7, .own 3 (W ++ outW y.outs).length), (26, .sl true (x.nodes.map nodeC)), (27, i64 x.nodes.length), (28, i64 n), (61, outsU y.outs), (62, i64 y.outs.length), (63, i64 (y.outs.length : Nat)), (64, .bool false)],
        .box (formC x) :: entR a b :: .box (nodeC y) :: .row 9 1 false ((W ++ outW y.outs).map strC) :: X⟩) := by
  rw [show pa1S x y acc a b n W X 0 = pa1S x y acc a b n (W ++ outW (y.outs.take 0)) X 0 by simp [outW]]
  refine Wp.count y.outs.length (fun k => pa1S x y acc a b n (W ++ outW (y.outs.take k)) X k) (fun _ => True) (fun k hk _ => ?_) (fun _ => ?_) 0 (by omega) trivial
  · have hk' : (k : Int) < y.outs.length := by omega
    have eg : y.outs[k]? = some y.outs[k] := List.getElem?_eq_getElem hk
    have hsc := fun st => to_call y.outs[k] (hs _ (List.getElem_mem hk)) st
    rw [outW_take hk, ← List.append_assoc]
    have hlen : (W ++ outW (y.outs.take k)).length ≤ 30100 := by
      rw [List.length_append, outW_len, List.length_take]
      omega
    generalize W ++ outW (y.outs.take k) = V at *
    have e1 := strC_snoc2 V [62] (toF y.outs[k])
    have e3 : (V ++ [[62], toF y.outs[k]]).length = V.length + 2 := by simp
    have e2 : (V.map strC).length = V.length := List.length_map _
    have lim : (V.length + 2) * 16 ≤ 140737488355328 := by omega
    simp only [pa1S, e3]
    generalize toF y.outs[k] = w at *
    generalize y.outs[k] = s at *
    generalize (V ++ [[62], w]).map strC = R1 at *
    generalize V.map strC = R0 at *
    rcases hX with rfl | ⟨t, rfl⟩
    · (all_goals have := fa (a5 @outsU.eq_1 @outC.eq_1 hk' eg (a3 e1 e2 lim)); repeat' first | refine Wp.v ?_ | (apply Wp.call; exact hsc _) | (refine Wp.c ?_ ?_ <;> intro))
      (have := fa @wrap_id; repeat refine Wp.f ?_)
      exact ⟨by simp [trimO, trim, formC, nodeC, outsU, srcsU], trivial⟩
    · (all_goals have := fa (a5 @outsU.eq_1 @outC.eq_1 hk' eg (a3 e1 e2 lim)); repeat' first | refine Wp.v ?_ | (apply Wp.call; exact hsc _) | (refine Wp.c ?_ ?_ <;> intro))
      (have := fa @wrap_id; repeat refine Wp.f ?_)
      exact ⟨by simp [trimO, trim, formC, nodeC, outsU, srcsU], trivial⟩
  · rw [List.take_of_length_le (Nat.le_refl _)]
    simp only [pa1S]
    repeat refine Wp.a ?_
    refine Wp.i ?_ ?_ <;> intro h1
    · simp at h1
    · exact Wp.exit ⟨rfl, by simp⟩
theorem line_len {ws : List (List UInt8)} (h : ∀ w ∈ ws, w.length ≤ 100) (hn : ws.length ≤ 39000) : (lineF ws).length ≤ 5000000 := by
  have := jn_len ws h
  unfold lineF
  rw [List.length_append, List.length_cons, List.length_nil]
  omega
theorem gl_word {op : Int} (h : opOk op = true) : 0 ≤ op ∧ op < 19 ∧ op.toNat * 4 < gl_0.length ∧ ∃ r, gl_0.drop (op.toNat * 4) = .str (wordF op) :: r := by
  rcases op_cases h with rfl | rfl | rfl | rfl | rfl | rfl | rfl | rfl | rfl | rfl | rfl | rfl | rfl | rfl | rfl
  all_goals exact ⟨by decide, by decide, by decide, _, rfl⟩
def pp2S (x : FForm) (acc a b : List UInt8) (n : Nat) : S :=
  ⟨[(1, .bp 0 0), (4, .str acc), (26, .sl true (x.nodes.map nodeC)), (27, i64 x.nodes.length), (28, i64 n)], [.box (formC x), entR a b]⟩
set_option maxHeartbeats 16000000 in
theorem pp2_step (x : FForm) (acc a b : List UInt8) (n : Nat) (hn : n < x.nodes.length) (hn6 : x.nodes.length ≤ 10000) (y : FNode) (eg : x.nodes[n]? = some y) (hy : NodeT y) (hacc : acc.length ≤ 200000000000) (R : S → Prop) (B : Nat → S → Prop) :
    Wp T c_shape_Print_L2 (pp2S x acc a b n) (fun s' => trimO (pp2S x acc a b n).st.length s' = pp2S x (acc ++ lineF (nodeWords y)) a b (n + 1) ∧ True) R B := by
  have hn' : (n : Int) < x.nodes.length := by omega
  obtain ⟨ho0, ho19, hgl, r, hdr⟩ := gl_word hy.op
  have hhl := head_len y
  have hl0 := fun X hX B => pa0_loop x y acc a b n (nodeHead y) X hX (by omega) hy.len hy.args B
  have hl1 := fun X hX B => pa1_loop x y acc a b n (nodeHead y ++ y.args.map srcF) X hX (by
    rw [List.length_append, List.length_map]
    have := hy.len
    omega) hy.olen hy.outs B
  have hline := fun st h => line_own (nodeWords y) (node_w hy) (by have := node_n hy; omega) (id := 3) (t := 9) (e := 1) st h rfl
  have hll := line_len (node_w hy) (by have := node_n hy; omega)
  have hlim : acc.length + (lineF (nodeWords y)).length ≤ 9223372036854775807 := by omega
  have htx := fun st => text_call y.n hy.n st
  have hnw : nodeHead y ++ y.args.map srcF ++ outW y.outs = nodeWords y := rfl
  simp only [hnw] at hl1
  simp only [pp2S, formC]
  by_cases h15 : y.op = 15
  · have hh : nodeHead y = [wordF y.op, textF y.n] := by simp [nodeHead, h15]
    have hhS : (nodeHead y).map strC = [[.str (wordF y.op)], [.str (textF y.n)]] := by rw [hh]; rfl
    have hhn : (nodeHead y).length = 2 := by rw [hh]; rfl
    have hl0 := fun B => hl0 [.row 9 1 false [[.str (textF y.n)]]] (.inr ⟨_, rfl⟩) B
    have hl1 := fun B => hl1 [.row 9 1 false [[.str (textF y.n)]]] (.inr ⟨_, rfl⟩) B
    simp only [pa0S, hhS, hhn, formC, nodeC, srcsU] at hl0
    simp only [pa1S, formC, nodeC, outsU] at hl1
    rw [h15] at hl0 hl1
    obtain ⟨r5, hd5⟩ : ∃ r, gl_0.drop 60 = .str (wordF 15) :: r := ⟨_, rfl⟩
    have hg5 : 60 < gl_0.length := by decide
    clear hdr hgl
    simp only [h15] at hhS
    generalize (wordF 15) = w at *
    generalize textF y.n = t at *
    generalize nodeHead y ++ y.args.map srcF = W1 at *
    generalize nodeWords y = W2 at *
    generalize W1.map strC = R1 at *
    generalize hR2 : W2.map strC = R2 at *
    generalize lineF W2 = ln at *
    (all_goals have := fa (a5 @formC.eq_1 @nodeC.eq_1 hn' eg (a3 h15 hg5 hd5)); repeat' first | refine Wp.v ?_ | (apply Wp.call; exact htx _) | (refine Wp.c ?_ ?_ <;> intro))
    refine (hl0 _).imp (fun _ h => h.elim) (fun _ h => h) ?_
    rintro c s ⟨rfl, rfl⟩
    rw [if_pos rfl]
    (all_goals have := fa @outsU.eq_1; repeat' first | refine Wp.v ?_ | fail | (refine Wp.c ?_ ?_ <;> intro))
    refine (hl1 _).imp (fun _ h => h.elim) (fun _ h => h) ?_
    rintro c s ⟨rfl, rfl⟩
    rw [if_pos rfl]
    (all_goals have := fa hlim; repeat' first | refine Wp.v ?_ | (apply Wp.call; exact hline _ rfl) | (refine Wp.c ?_ ?_ <;> intro))
    (have := fa @wrap_id; repeat refine Wp.f ?_)
    exact ⟨by simp [trimO, trim], trivial⟩
  · have hh : nodeHead y = [wordF y.op] := by simp [nodeHead, h15]
    have hhS : (nodeHead y).map strC = [[.str (wordF y.op)]] := by rw [hh]; rfl
    have hhn : (nodeHead y).length = 1 := by rw [hh]; rfl
    have hl0 := fun B => hl0 [] (.inl rfl) B
    have hl1 := fun B => hl1 [] (.inl rfl) B
    simp only [pa0S, hhS, hhn, formC, nodeC, srcsU] at hl0
    simp only [pa1S, formC, nodeC, outsU] at hl1
    generalize (wordF y.op) = w at *
    generalize nodeHead y ++ y.args.map srcF = W1 at *
    generalize nodeWords y = W2 at *
    generalize W1.map strC = R1 at *
    generalize hR2 : W2.map strC = R2 at *
    generalize lineF W2 = ln at *
    (all_goals have := fa (a5 @formC.eq_1 @nodeC.eq_1 hn' eg (a5 h15 ho0 ho19 hgl hdr)); repeat' first | refine Wp.v ?_ | fail | (refine Wp.c ?_ ?_ <;> intro))
    refine (hl0 _).imp (fun _ h => h.elim) (fun _ h => h) ?_
    rintro c s ⟨rfl, rfl⟩
    rw [if_pos rfl]
    (all_goals have := fa @outsU.eq_1; repeat' first | refine Wp.v ?_ | fail | (refine Wp.c ?_ ?_ <;> intro))
    refine (hl1 _).imp (fun _ h => h.elim) (fun _ h => h) ?_
    rintro c s ⟨rfl, rfl⟩
    rw [if_pos rfl]
    (all_goals have := fa hlim; repeat' first | refine Wp.v ?_ | (apply Wp.call; exact hline _ rfl) | (refine Wp.c ?_ ?_ <;> intro))
    (have := fa @wrap_id; repeat refine Wp.f ?_)
    exact ⟨by simp [trimO, trim], trivial⟩
def nodesT (l : List FNode) : List UInt8 := l.flatMap (fun y => lineF (nodeWords y))
def valsT (l : List FVal) : List UInt8 := l.flatMap (fun v => lineF (valWords v))
theorem nodesT_take {l : List FNode} {k : Nat} (hk : k < l.length) : nodesT (l.take (k + 1)) = nodesT (l.take k) ++ lineF (nodeWords l[k]) := by
  unfold nodesT
  rw [List.take_succ_eq_append_getElem hk, List.flatMap_append]
  simp
theorem valsT_take {l : List FVal} {k : Nat} (hk : k < l.length) : valsT (l.take (k + 1)) = valsT (l.take k) ++ lineF (valWords l[k]) := by
  unfold valsT
  rw [List.take_succ_eq_append_getElem hk, List.flatMap_append]
  simp
theorem print_eq (x : FForm) : printF x = lineF (entWords x) ++ nodesT x.nodes ++ valsT x.vals := by
  unfold printF linesF nodesT valsT
  rw [List.flatMap_cons, List.flatMap_append, List.flatMap_map, List.flatMap_map, List.append_assoc]
  rfl
theorem pp2_loop (x : FForm) (hx : FormT x) (acc a b : List UInt8) (hacc : acc.length ≤ 10000000) (R : S → Prop) :
    Wp T (.loop c_shape_Print_L2) (pp2S x acc a b 0) (fun _ => False) R
      (fun c s' => c = 0 ∧ s' = ⟨[(1, .bp 0 0), (4, .str (acc ++ nodesT x.nodes)), (26, .sl true (x.nodes.map nodeC)), (27, i64 x.nodes.length), (28, i64 (x.nodes.length : Nat)), (29, .bool false)], [.box (formC x), entR a b]⟩) := by
  rw [show pp2S x acc a b 0 = pp2S x (acc ++ nodesT (x.nodes.take 0)) a b 0 by simp [nodesT]]
  refine Wp.count x.nodes.length (fun k => pp2S x (acc ++ nodesT (x.nodes.take k)) a b k) (fun _ => True) (fun k hk _ => ?_) (fun _ => ?_) 0 (by omega) trivial
  · rw [nodesT_take hk, ← List.append_assoc]
    refine pp2_step x _ a b k hk hx.nlen x.nodes[k] (List.getElem?_eq_getElem hk) (hx.nodes _ (List.getElem_mem hk)) ?_ R _
    have := flat_len (f := fun y => lineF (nodeWords y)) (b := 5000000) (l := x.nodes.take k) (fun y hy => line_len (node_w (hx.nodes y (List.mem_of_mem_take hy))) (by have := node_n (hx.nodes y (List.mem_of_mem_take hy)); omega))
    have h2 : (x.nodes.take k).length ≤ 10000 := by have := hx.nlen; rw [List.length_take]; omega
    have h3 : (x.nodes.take k).length * 5000000 ≤ 10000 * 5000000 := Nat.mul_le_mul_right _ h2
    rw [List.length_append]
    unfold nodesT
    omega
  · rw [List.take_of_length_le (Nat.le_refl _)]
    simp only [pp2S]
    repeat refine Wp.a ?_
    refine Wp.i ?_ ?_ <;> intro h1
    · simp at h1
    · exact Wp.exit ⟨rfl, rfl⟩
def pp3S (x : FForm) (v : FVal) (acc a b : List UInt8) (n : Nat) (W : List (List UInt8)) (k : Nat) : S :=
  ⟨[(4, .str acc), (14, .own 3 W.length), (79, .sl true (x.vals.map valC)), (80, i64 x.vals.length), (81, i64 n), (90, srcsU v.src), (91, i64 v.src.length), (92, i64 k)], [.box (formC x), entR a b, .box (valC v), .row 9 1 false (W.map strC)]⟩
set_option maxHeartbeats 8000000 in
theorem pp3_loop (x : FForm) (v : FVal) (acc a b : List UInt8) (n : Nat) (W : List (List UInt8)) (hW : W.length ≤ 100) (hl : v.src.length ≤ 10000) (hs : ∀ s ∈ v.src, SrcR s) (R : S → Prop) :
    Wp T (.loop c_shape_Print_L3) (pp3S x v acc a b n W 0) (fun _ => False) R
      (fun c s' => c = 8 ∧ s' = ⟨[(4, .str acc), (14, .own 3 (W ++ v.src.map srcF).length), (79, .sl true (x.vals.map valC)), (80, i64 x.vals.length), (81, i64 n), (90, srcsU v.src), (91, i64 v.src.length), (92, i64 (v.src.length : Nat)), (93, .bool false)],
        [.box (formC x), entR a b, .box (valC v), .row 9 1 false ((W ++ v.src.map srcF).map strC)]⟩) := by
  rw [show pp3S x v acc a b n W 0 = pp3S x v acc a b n (W ++ (v.src.take 0).map srcF) 0 by simp]
  refine Wp.count v.src.length (fun k => pp3S x v acc a b n (W ++ (v.src.take k).map srcF) k) (fun _ => True) (fun k hk _ => ?_) (fun _ => ?_) 0 (by omega) trivial
  · have hk' : (k : Int) < v.src.length := by omega
    have eg : v.src[k]? = some v.src[k] := List.getElem?_eq_getElem hk
    have hsc := fun st => source_call v.src[k] (hs _ (List.getElem_mem hk)) st
    rw [map_take srcF hk, ← List.append_assoc]
    have hlen : (W ++ (v.src.take k).map srcF).length ≤ 10200 := by
      rw [List.length_append, List.length_map, List.length_take]
      omega
    generalize W ++ (v.src.take k).map srcF = V at *
    have e1 := strC_snoc V (srcF v.src[k])
    have e3 : (V ++ [srcF v.src[k]]).length = V.length + 1 := by simp
    have e2 : (V.map strC).length = V.length := List.length_map _
    have lim : (V.length + 1) * 16 ≤ 140737488355328 := by omega
    simp only [pp3S, e3]
    generalize srcF v.src[k] = w at *
    generalize v.src[k] = s at *
    generalize (V ++ [w]).map strC = R1 at *
    generalize V.map strC = R0 at *
    simp only [srcC] at hsc
    (all_goals have := fa (a5 @srcsU.eq_1 @srcC.eq_1 hk' eg (a3 e1 e2 lim)); repeat' first | refine Wp.v ?_ | (apply Wp.call; exact hsc _) | (refine Wp.c ?_ ?_ <;> intro))
    (have := fa @wrap_id; repeat refine Wp.f ?_)
    exact ⟨by simp [trimO, trim, formC, valC, srcsU], trivial⟩
  · rw [List.take_of_length_le (Nat.le_refl _)]
    simp only [pp3S]
    repeat refine Wp.a ?_
    refine Wp.i ?_ ?_ <;> intro h1
    · simp at h1
    · exact Wp.exit ⟨rfl, by simp⟩
def pp4S (x : FForm) (acc a b : List UInt8) (n : Nat) : S :=
  ⟨[(4, .str acc), (79, .sl true (x.vals.map valC)), (80, i64 x.vals.length), (81, i64 n)], [.box (formC x), entR a b]⟩
set_option maxHeartbeats 16000000 in
theorem pp4_step (x : FForm) (acc a b : List UInt8) (n : Nat) (hn : n < x.vals.length) (hn6 : x.vals.length ≤ 10000) (v : FVal) (eg : x.vals[n]? = some v) (hy : ValT v) (hacc : acc.length ≤ 200000000000) (R : S → Prop) (B : Nat → S → Prop) :
    Wp T c_shape_Print_L4 (pp4S x acc a b n) (fun s' => trimO (pp4S x acc a b n).st.length s' = pp4S x (acc ++ lineF (valWords v)) a b (n + 1) ∧ True) R B := by
  have hn' : (n : Int) < x.vals.length := by omega
  have hl0 := fun B => pp3_loop x v acc a b n (valHead v) (by simp [valHead]) hy.len hy.src B
  have hline := fun st h => line_own (valWords v) (val_w hy) (by have := val_n hy; omega) (id := 3) (t := 9) (e := 1) st h rfl
  have hll := line_len (val_w hy) (by have := val_n hy; omega)
  have hlim : acc.length + (lineF (valWords v)).length ≤ 9223372036854775807 := by omega
  have htx := fun st => to_call v.pos hy.pos st
  have hnw : valHead v ++ v.src.map srcF = valWords v := rfl
  have hhS : (valHead v).map strC = [[.str [118, 97, 108, 117, 101]], [.str (toF v.pos)]] := rfl
  have hhn : (valHead v).length = 2 := rfl
  simp only [pp3S, hnw, hhS, hhn, formC, valC, srcsU] at hl0
  simp only [pp4S, formC]
  generalize toF v.pos = t at *
  generalize valWords v = W2 at *
  generalize hR2 : W2.map strC = R2 at *
  generalize lineF W2 = ln at *
  (all_goals have := fa (a5 @formC.eq_1 @valC.eq_1 @srcsU.eq_1 hn' eg); repeat' first | refine Wp.v ?_ | (apply Wp.call; exact htx _) | (refine Wp.c ?_ ?_ <;> intro))
  refine (hl0 _).imp (fun _ h => h.elim) (fun _ h => h) ?_
  rintro c s ⟨rfl, rfl⟩
  rw [if_pos rfl]
  (all_goals have := fa hlim; repeat' first | refine Wp.v ?_ | (apply Wp.call; exact hline _ rfl) | (refine Wp.c ?_ ?_ <;> intro))
  (have := fa @wrap_id; repeat refine Wp.f ?_)
  exact ⟨by simp [trimO, trim], trivial⟩
theorem pp4_loop (x : FForm) (hx : FormT x) (acc a b : List UInt8) (hacc : acc.length ≤ 60000000000) (R : S → Prop) :
    Wp T (.loop c_shape_Print_L4) (pp4S x acc a b 0) (fun _ => False) R
      (fun c s' => c = 6 ∧ s' = ⟨[(4, .str (acc ++ valsT x.vals)), (79, .sl true (x.vals.map valC)), (80, i64 x.vals.length), (81, i64 (x.vals.length : Nat)), (82, .bool false)], [.box (formC x), entR a b]⟩) := by
  rw [show pp4S x acc a b 0 = pp4S x (acc ++ valsT (x.vals.take 0)) a b 0 by simp [valsT]]
  refine Wp.count x.vals.length (fun k => pp4S x (acc ++ valsT (x.vals.take k)) a b k) (fun _ => True) (fun k hk _ => ?_) (fun _ => ?_) 0 (by omega) trivial
  · rw [valsT_take hk, ← List.append_assoc]
    refine pp4_step x _ a b k hk hx.vlen x.vals[k] (List.getElem?_eq_getElem hk) (hx.vals _ (List.getElem_mem hk)) ?_ R _
    have := flat_len (f := fun y => lineF (valWords y)) (b := 5000000) (l := x.vals.take k) (fun y hy => line_len (val_w (hx.vals y (List.mem_of_mem_take hy))) (by have := val_n (hx.vals y (List.mem_of_mem_take hy)); omega))
    have h2 : (x.vals.take k).length ≤ 10000 := by have := hx.vlen; rw [List.length_take]; omega
    have h3 : (x.vals.take k).length * 5000000 ≤ 10000 * 5000000 := Nat.mul_le_mul_right _ h2
    rw [List.length_append]
    unfold valsT
    omega
  · rw [List.take_of_length_le (Nat.le_refl _)]
    simp only [pp4S]
    repeat refine Wp.a ?_
    refine Wp.i ?_ ?_ <;> intro h1
    · simp at h1
    · exact Wp.exit ⟨rfl, rfl⟩
theorem nodesT_len {x : FForm} (hx : FormT x) : (nodesT x.nodes).length ≤ 50000000000 := by
  have := flat_len (f := fun y => lineF (nodeWords y)) (b := 5000000) (l := x.nodes) (fun y hy => line_len (node_w (hx.nodes y hy)) (by have := node_n (hx.nodes y hy); omega))
  have h3 : x.nodes.length * 5000000 ≤ 10000 * 5000000 := Nat.mul_le_mul_right _ hx.nlen
  unfold nodesT
  omega
theorem valsT_len {x : FForm} (hx : FormT x) : (valsT x.vals).length ≤ 50000000000 := by
  have := flat_len (f := fun y => lineF (valWords y)) (b := 5000000) (l := x.vals) (fun y hy => line_len (val_w (hx.vals y hy)) (by have := val_n (hx.vals y hy); omega))
  have h3 : x.vals.length * 5000000 ≤ 10000 * 5000000 := Nat.mul_le_mul_right _ hx.vlen
  unfold valsT
  omega
def printU (x : FForm) : U := if rightF x then .tup [.str (printF x), i64 0] else .tup [.str [], i64 1]
set_option maxHeartbeats 16000000 in
theorem print_call (x : FForm) (hs : Small x) (hr : FormR x) (st : List Ob) : Cl T n_shape_Print [formU x] st (printU x) st := by
  refine Wp.pure (fn := c_shape_Print) rfl rfl rfl («as» := [formU x]) rfl ?_
  have hri := fun st => right_call true true x hs st
  unfold printU
  cases h : rightF x with
  | false =>
    rw [h] at hri
    (all_goals have := fa @formC.eq_1; repeat' first | refine Wp.v ?_ | (apply Wp.call; exact hri _) | (refine Wp.c ?_ ?_ <;> intro))
    refine Wp.ret ?_; simp [Res, resU, res1, c_shape_Print]
  | true =>
    rw [h] at hri
    have hx := right_form hs hr h
    have hto := fun st => to_call x.entry hx.ent st
    have hline := fun st hh => line_own (entWords x) (ent_w hx.ent) (by simp [entWords]) (id := 1) (t := 9) (e := 1) st hh rfl
    have hll := line_len (ent_w hx.ent) (by simp [entWords])
    have hee : (entWords x).length = 2 := rfl
    have hes : (entWords x).map strC = [[.str [101, 110, 116, 114, 121]], [.str (toF x.entry)]] := rfl
    have hl2 := fun B => pp2_loop x hx (lineF (entWords x)) [101, 110, 116, 114, 121] (toF x.entry) (by omega) B
    have hnl := nodesT_len hx
    have hl4 := fun B => pp4_loop x hx (lineF (entWords x) ++ nodesT x.nodes) [101, 110, 116, 114, 121] (toF x.entry) (by rw [List.length_append]; omega) B
    rw [print_eq]
    rw [hee] at hline
    generalize lineF (entWords x) ++ nodesT x.nodes = t2 at *
    generalize t2 ++ valsT x.vals = t3 at *
    rw [hes] at hline
    generalize lineF (entWords x) = t1 at *
    generalize toF x.entry = te at *
    simp only [pp2S, formC] at hl2
    simp only [pp4S, formC] at hl4
    (all_goals have := fa @formC.eq_1; repeat' first | refine Wp.v ?_ | (apply Wp.call; exact hri _) | (apply Wp.call; exact hto _) | (apply Wp.call; exact hline _ rfl) | (refine Wp.c ?_ ?_ <;> intro))
    refine (hl2 _).imp (fun _ h => h.elim) (fun _ h => h) ?_
    rintro c s ⟨rfl, rfl⟩
    rw [if_pos rfl]
    (repeat' first | refine Wp.u ?_ | fail | (refine Wp.c ?_ ?_ <;> intro))
    refine (hl4 _).imp (fun _ h => h.elim) (fun _ h => h) ?_
    rintro c s ⟨rfl, rfl⟩
    rw [if_pos rfl]
    (repeat' first | refine Wp.u ?_ | fail | (refine Wp.c ?_ ?_ <;> intro))
    refine Wp.ret ?_; simp [Res, resU, res1, c_shape_Print]
end Go.Proofs.YtbcojbmalcghbaaDoor.M2
