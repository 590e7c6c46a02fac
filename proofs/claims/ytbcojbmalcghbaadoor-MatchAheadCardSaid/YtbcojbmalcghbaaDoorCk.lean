/- What the functions answer in M2: a form's lines and its text (the document's). -/
import Derived.Test.YtbcojbmalcghbaaDoorCj
import Derived.Test.YtbcojbmalcghbaaDoorCi
set_option linter.unusedSimpArgs false
set_option linter.unusedVariables false
set_option linter.unusedSectionVars false
namespace Go.Proofs.YtbcojbmalcghbaaDoor.M2
open Go
def outW (os : List Int) : List (List UInt8) := os.flatMap (fun o => [[62], toF o])
def nodeHead (y : FNode) : List (List UInt8) := wordF y.op :: (if y.op = 15 then [textF y.n] else [])
def nodeWords (y : FNode) : List (List UInt8) := nodeHead y ++ y.args.map srcF ++ outW y.outs
def valHead (v : FVal) : List (List UInt8) := [[118, 97, 108, 117, 101], toF v.pos]
def valWords (v : FVal) : List (List UInt8) := valHead v ++ v.src.map srcF
def entWords (x : FForm) : List (List UInt8) := [[101, 110, 116, 114, 121], toF x.entry]
def linesF (x : FForm) : List (List UInt8) := jn (entWords x) :: (x.nodes.map (fun y => jn (nodeWords y)) ++ x.vals.map (fun v => jn (valWords v)))
def endL (l : List UInt8) : List UInt8 := l ++ [10]
def printF (x : FForm) : List UInt8 := (linesF x).flatMap endL
theorem outW_take {os : List Int} {k : Nat} (hk : k < os.length) : outW (os.take (k + 1)) = outW (os.take k) ++ [[62], toF os[k]] := by
  unfold outW
  rw [List.take_succ_eq_append_getElem hk, List.flatMap_append]
  rfl
theorem map_take {α β : Type} (f : α → β) {l : List α} {k : Nat} (hk : k < l.length) : (l.take (k + 1)).map f = (l.take k).map f ++ [f l[k]] := by
  rw [List.take_succ_eq_append_getElem hk, List.map_append]
  rfl
theorem outW_len (os : List Int) : (outW os).length = 2 * os.length := by
  induction os with
  | nil => rfl
  | cons o os ih => unfold outW at ih ⊢; simp only [List.flatMap_cons, List.length_append, List.length_cons, List.length_nil, ih]; omega
structure NodeT (y : FNode) : Prop where
  op : opOk y.op = true
  n : rng y.n
  args : ∀ s ∈ y.args, SrcR s
  outs : ∀ o ∈ y.outs, rng o
  lo : ∀ o ∈ y.outs, -1 ≤ o
  kind : ∀ s ∈ y.args, 0 ≤ s.1 ∧ s.1 ≤ 4
  len : y.args.length ≤ 20
  olen : y.outs.length ≤ 20
structure ValT (v : FVal) : Prop where
  pos : rng v.pos
  src : ∀ s ∈ v.src, SrcR s
  lo : -1 ≤ v.pos
  kind : ∀ s ∈ v.src, 0 ≤ s.1 ∧ s.1 ≤ 4
  len : v.src.length ≤ 100
theorem head_w (y : FNode) (h : rng y.n) : ∀ w ∈ nodeHead y, w.length ≤ 100 := by
  intro w hw
  unfold nodeHead at hw
  rcases List.mem_cons.1 hw with rfl | hw
  · have := word_len y.op
    omega
  · split at hw
    · simp only [List.mem_singleton] at hw
      subst hw
      have := text_len h
      omega
    · cases hw
theorem srcs_w {l : List (Int × Int)} (h : ∀ s ∈ l, SrcR s) : ∀ w ∈ l.map srcF, w.length ≤ 100 := by
  intro w hw
  obtain ⟨s, hs, rfl⟩ := List.mem_map.1 hw
  have := src_len (h s hs)
  omega
theorem outs_w {l : List Int} (h : ∀ o ∈ l, rng o) : ∀ w ∈ outW l, w.length ≤ 100 := by
  intro w hw
  obtain ⟨o, ho, hw⟩ := List.mem_flatMap.1 hw
  simp only [List.mem_cons, List.not_mem_nil, or_false] at hw
  rcases hw with rfl | rfl
  · simp
  · have := to_len (h o ho)
    omega
theorem node_w {y : FNode} (h : NodeT y) : ∀ w ∈ nodeWords y, w.length ≤ 100 := by
  intro w hw
  unfold nodeWords at hw
  rcases List.mem_append.1 hw with hw | hw
  · rcases List.mem_append.1 hw with hw | hw
    · exact head_w y h.n w hw
    · exact srcs_w h.args w hw
  · exact outs_w h.outs w hw
theorem val_w {v : FVal} (h : ValT v) : ∀ w ∈ valWords v, w.length ≤ 100 := by
  intro w hw
  unfold valWords valHead at hw
  rcases List.mem_append.1 hw with hw | hw
  · simp only [List.mem_cons, List.not_mem_nil, or_false] at hw
    rcases hw with rfl | rfl
    · simp
    · have := to_len h.pos
      omega
  · exact srcs_w h.src w hw
theorem head_len (y : FNode) : (nodeHead y).length ≤ 2 := by
  unfold nodeHead
  split <;> simp
theorem node_n {y : FNode} (h : NodeT y) : (nodeWords y).length ≤ 62 := by
  have := head_len y
  have := h.len
  have := h.olen
  have := outW_len y.outs
  simp only [nodeWords, List.length_append, List.length_map]
  omega
theorem val_n {v : FVal} (h : ValT v) : (valWords v).length ≤ 102 := by
  have := h.len
  simp only [valWords, valHead, List.length_append, List.length_map, List.length_cons, List.length_nil]
  omega
theorem ent_w {x : FForm} (h : rng x.entry) : ∀ w ∈ entWords x, w.length ≤ 100 := by
  intro w hw
  simp only [entWords, List.mem_cons, List.not_mem_nil, or_false] at hw
  rcases hw with rfl | rfl
  · simp
  · have := to_len h
    omega
theorem flat_len {α β : Type} {f : α → List β} {b : Nat} {l : List α} (h : ∀ y ∈ l, (f y).length ≤ b) : (l.flatMap f).length ≤ l.length * b := by
  induction l with
  | nil => simp
  | cons a l ih =>
    have h1 := ih (fun y hy => h y (by simp [hy]))
    have h2 := h a (by simp)
    rw [List.flatMap_cons, List.length_append, List.length_cons, Nat.add_mul]
    omega
structure FormT (x : FForm) : Prop where
  ent : rng x.entry
  elo : -1 ≤ x.entry
  nodes : ∀ y ∈ x.nodes, NodeT y
  vals : ∀ v ∈ x.vals, ValT v
  nlen : x.nodes.length ≤ 60
  vlen : x.vals.length ≤ 200
theorem right_form {x : FForm} (hx : Small x) (hr : FormR x) (h : rightF x = true) : FormT x := by
  simp only [rightF, Bool.and_eq_true, decide_eq_true_eq, List.all_eq_true] at h
  obtain ⟨⟨⟨h1, h2⟩, h3⟩, h4⟩ := h
  refine ⟨hr.entry, h1, fun y hy => ?_, fun v hv => ?_, hx.nodes, hx.vals⟩
  · obtain ⟨i, hi, e⟩ := List.mem_iff_getElem.1 hy
    have := h3 (y, i) (List.mem_zipIdx_iff_getElem?.2 (by simp [← e, hi]))
    simp only [nodeF, Bool.and_eq_true, decide_eq_true_eq, List.all_eq_true] at this
    obtain ⟨⟨⟨⟨⟨⟨⟨k1, k2⟩, k3⟩, k4⟩, k5⟩, k6⟩, k7⟩, k8⟩ := this
    have hn := hr.nodes y hy
    refine ⟨k1, hn.n, hn.args, hn.outs, fun o ho => ?_, fun s hs => ?_, hx.args y hy, hx.outs y hy⟩
    · have := k8 o ho
      simp only [outOk, Bool.and_eq_true, decide_eq_true_eq] at this
      exact this.1
    · have := k7 s hs
      simp only [argOk, valF, Bool.or_eq_true, Bool.and_eq_true, decide_eq_true_eq] at this
      omega
  · have := h4 v hv
    simp only [valOk, Bool.and_eq_true, decide_eq_true_eq, List.all_eq_true] at this
    obtain ⟨⟨⟨k1, k2⟩, k3⟩, k4⟩ := this
    have hn := hr.vals v hv
    refine ⟨hn.pos, hn.src, by omega, fun s hs => ?_, hx.src v hv⟩
    obtain ⟨i, hi, e⟩ := List.mem_iff_getElem.1 hs
    have hm : (s, (waysF x v.pos)[i]'(by omega)) ∈ v.src.zip (waysF x v.pos) := by
      rw [List.mem_iff_getElem]
      exact ⟨i, by rw [List.length_zip]; omega, by rw [List.getElem_zip, e]⟩
    have := k4 _ hm
    unfold comesF at this
    simp only at this
    split at this
    · omega
    · split at this
      · omega
      · split at this
        · omega
        · split at this
          · omega
          · simp only [valF, Bool.and_eq_true, decide_eq_true_eq] at this
            omega
end Go.Proofs.YtbcojbmalcghbaaDoor.M2
namespace Go.Proofs.YtbcojbmalcghbaaDoor.M2
open Go
attribute [local simp] ev1 M2.get put A.ev ld sub part elems bin arith un opt idx fillC cellsO splice over newOb sto fillR laidOwn appTo appRow touch touchN touchM touchE touchA plainU flatU plainAs allM rowAt stoRow accM_nil accM_cons accMM_nil accMM_cons frz_int frz_bool frz_str frz_slt frz_nils frz_nilI frz_nilF frz_own frzRow_row frzRow_frow Ob.blw blw_bool blw_int blw_str blw_nils blw_nilI blw_nilF blw_nilp blw_nilm blw_sl blw_own blw_bp blw_rp blw_mp blw_it params
attribute [local simp] frz_agg frz_tup frz_iface frzS_agg frzS_iface accMS_cons frzS_int frzS_bool frzS_str frzS_slt frzS_nils frzS_nilI beq_dec bne_dec
def Zok (X : List Ob) : Prop := X = [] ∨ ∃ t, X = [.row 9 1 false [[.str t]]]
abbrev entR (a b : List UInt8) : Ob := .row 9 1 false [[.str a], [.str b]]
def pa0S (x : FForm) (y : FNode) (acc a b : List UInt8) (n : Nat) (W : List (List UInt8)) (X : List Ob) (k : Nat) : S :=
  ⟨[(1, .bp 0 0), (4, .str acc), (6, .bp 2 0), (7, .own 3 W.length), (26, .sl true (x.nodes.map nodeC)), (27, i64 x.nodes.length), (28, i64 n), (48, srcsU y.args), (49, i64 y.args.length), (50, i64 k)], .box (formC x) :: entR a b :: .box (nodeC y) :: .row 9 1 false (W.map strC) :: X⟩
set_option maxHeartbeats 8000000 in
theorem pa0_loop (x : FForm) (y : FNode) (acc a b : List UInt8) (n : Nat) (W : List (List UInt8)) (X : List Ob) (hX : Zok X) (hW : W.length ≤ 100) (hl : y.args.length ≤ 20) (hs : ∀ s ∈ y.args, SrcR s) (R : S → Prop) :
    Wp T (.loop c_shape_Print_L0) (pa0S x y acc a b n W X 0) (fun _ => False) R
      (fun c s' => c = 2 ∧ s' = ⟨[(1, .bp 0 0), (4, .str acc), (6, .bp 2 0), (7, .own 3 (W ++ y.args.map srcF).length), (26, .sl true (x.nodes.map nodeC)), (27, i64 x.nodes.length), (28, i64 n), (48, srcsU y.args), (49, i64 y.args.length), (50, i64 (y.args.length : Nat)), (51, .bool false)],
        .box (formC x) :: entR a b :: .box (nodeC y) :: .row 9 1 false ((W ++ y.args.map srcF).map strC) :: X⟩) := by
  rw [show pa0S x y acc a b n W X 0 = pa0S x y acc a b n (W ++ (y.args.take 0).map srcF) X 0 by simp]
  refine Wp.count y.args.length (fun k => pa0S x y acc a b n (W ++ (y.args.take k).map srcF) X k) (fun _ => True) (fun k hk _ => ?_) (fun _ => ?_) 0 (by omega) trivial
  · have hk' : (k : Int) < y.args.length := by omega
    have eg : y.args[k]? = some y.args[k] := List.getElem?_eq_getElem hk
    have hsc := fun st => source_call y.args[k] (hs _ (List.getElem_mem hk)) st
    rw [map_take srcF hk, ← List.append_assoc]
    have hlen : (W ++ (y.args.take k).map srcF).length ≤ 120 := by
      rw [List.length_append, List.length_map, List.length_take]
      omega
    generalize W ++ (y.args.take k).map srcF = V at *
    have e1 := strC_snoc V (srcF y.args[k])
    have e3 : (V ++ [srcF y.args[k]]).length = V.length + 1 := by simp
    have e2 : (V.map strC).length = V.length := List.length_map _
    have lim : (V.length + 1) * 16 ≤ 140737488355328 := by omega
    simp only [pa0S, e3]
    generalize srcF y.args[k] = w at *
    generalize y.args[k] = s at *
    generalize (V ++ [w]).map strC = R1 at *
    generalize V.map strC = R0 at *
    simp only [srcC] at hsc
    rcases hX with rfl | ⟨t, rfl⟩
    · (all_goals have := fa (a5 @srcsU.eq_1 @srcC.eq_1 hk' eg (a3 e1 e2 lim)); repeat' first | refine Wp.v ?_ | (apply Wp.call; exact hsc _) | (refine Wp.c ?_ ?_ <;> intro))
      (have := fa @wrap_id; repeat refine Wp.f ?_)
      exact ⟨by simp [trimO, trim, formC, nodeC, outsU, srcsU], trivial⟩
    · (all_goals have := fa (a5 @srcsU.eq_1 @srcC.eq_1 hk' eg (a3 e1 e2 lim)); repeat' first | refine Wp.v ?_ | (apply Wp.call; exact hsc _) | (refine Wp.c ?_ ?_ <;> intro))
      (have := fa @wrap_id; repeat refine Wp.f ?_)
      exact ⟨by simp [trimO, trim, formC, nodeC, outsU, srcsU], trivial⟩
  · rw [List.take_of_length_le (Nat.le_refl _)]
    simp only [pa0S]
    repeat refine Wp.a ?_
    refine Wp.i ?_ ?_ <;> intro h1
    · simp at h1
    · exact Wp.exit ⟨rfl, by simp⟩
def pa1S (x : FForm) (y : FNode) (acc a b : List UInt8) (n : Nat) (W : List (List UInt8)) (X : List Ob) (k : Nat) : S :=
  ⟨[(1, .bp 0 0), (4, .str acc), (7, .own 3 W.length), (26, .sl true (x.nodes.map nodeC)), (27, i64 x.nodes.length), (28, i64 n), (61, outsU y.outs), (62, i64 y.outs.length), (63, i64 k)], .box (formC x) :: entR a b :: .box (nodeC y) :: .row 9 1 false (W.map strC) :: X⟩
set_option maxHeartbeats 8000000 in
theorem pa1_loop (x : FForm) (y : FNode) (acc a b : List UInt8) (n : Nat) (W : List (List UInt8)) (X : List Ob) (hX : Zok X) (hW : W.length ≤ 200) (hl : y.outs.length ≤ 20) (hs : ∀ s ∈ y.outs, rng s) (R : S → Prop) :
    Wp T (.loop c_shape_Print_L1) (pa1S x y acc a b n W X 0) (fun _ => False) R
      (fun c s' => c = 4 ∧ s' = ⟨[(1, .bp 0 0), (4, .str acc), (7, .own 3 (W ++ outW y.outs).length), (26, .sl true (x.nodes.map nodeC)), (27, i64 x.nodes.length), (28, i64 n), (61, outsU y.outs), (62, i64 y.outs.length), (63, i64 (y.outs.length : Nat)), (64, .bool false)],
        .box (formC x) :: entR a b :: .box (nodeC y) :: .row 9 1 false ((W ++ outW y.outs).map strC) :: X⟩) := by
  rw [show pa1S x y acc a b n W X 0 = pa1S x y acc a b n (W ++ outW (y.outs.take 0)) X 0 by simp [outW]]
  refine Wp.count y.outs.length (fun k => pa1S x y acc a b n (W ++ outW (y.outs.take k)) X k) (fun _ => True) (fun k hk _ => ?_) (fun _ => ?_) 0 (by omega) trivial
  · have hk' : (k : Int) < y.outs.length := by omega
    have eg : y.outs[k]? = some y.outs[k] := List.getElem?_eq_getElem hk
    have hsc := fun st => to_call y.outs[k] (hs _ (List.getElem_mem hk)) st
    rw [outW_take hk, ← List.append_assoc]
    have hlen : (W ++ outW (y.outs.take k)).length ≤ 240 := by
      rw [List.length_append, outW_len, List.length_take]
      omega
    generalize W ++ outW (y.outs.take k) = V at *
    have e1 := strC_snoc2 V [62] (toF y.outs[k])
    have e3 : (V ++ [[62], toF y.outs[k]]).length = V.length + 2 := by simp
    have e2 : (V.map strC).length = V.length := List.length_map _
    have lim : (V.length + 2) * 16 ≤ 140737488355328 := by omega
    simp only [pa1S, e3]
    generalize toF y.outs[k] = w at *
    generalize y.outs[k] = s at *
    generalize (V ++ [[62], w]).map strC = R1 at *
    generalize V.map strC = R0 at *
    rcases hX with rfl | ⟨t, rfl⟩
    · (all_goals have := fa (a5 @outsU.eq_1 @outC.eq_1 hk' eg (a3 e1 e2 lim)); repeat' first | refine Wp.v ?_ | (apply Wp.call; exact hsc _) | (refine Wp.c ?_ ?_ <;> intro))
      (have := fa @wrap_id; repeat refine Wp.f ?_)
      exact ⟨by simp [trimO, trim, formC, nodeC, outsU, srcsU], trivial⟩
    · (all_goals have := fa (a5 @outsU.eq_1 @outC.eq_1 hk' eg (a3 e1 e2 lim)); repeat' first | refine Wp.v ?_ | (apply Wp.call; exact hsc _) | (refine Wp.c ?_ ?_ <;> intro))
      (have := fa @wrap_id; repeat refine Wp.f ?_)
      exact ⟨by simp [trimO, trim, formC, nodeC, outsU, srcsU], trivial⟩
  · rw [List.take_of_length_le (Nat.le_refl _)]
    simp only [pa1S]
    repeat refine Wp.a ?_
    refine Wp.i ?_ ?_ <;> intro h1
    · simp at h1
    · exact Wp.exit ⟨rfl, by simp⟩
theorem line_len {ws : List (List UInt8)} (h : ∀ w ∈ ws, w.length ≤ 100) (hn : ws.length ≤ 110) : (lineF ws).length ≤ 20000 := by
  have := jn_len ws h
  unfold lineF
  rw [List.length_append, List.length_cons, List.length_nil]
  omega
theorem gl_word {op : Int} (h : opOk op = true) : 0 ≤ op ∧ op < 19 ∧ op.toNat * 4 < gl_0.length ∧ ∃ r, gl_0.drop (op.toNat * 4) = .str (wordF op) :: r := by
  rcases op_cases h with rfl | rfl | rfl | rfl | rfl | rfl | rfl | rfl | rfl | rfl | rfl | rfl | rfl | rfl | rfl
  all_goals exact ⟨by decide, by decide, by decide, _, rfl⟩
def pp2S (x : FForm) (acc a b : List UInt8) (n : Nat) : S :=
  ⟨[(1, .bp 0 0), (4, .str acc), (26, .sl true (x.nodes.map nodeC)), (27, i64 x.nodes.length), (28, i64 n)], [.box (formC x), entR a b]⟩
set_option maxHeartbeats 16000000 in
theorem pp2_step (x : FForm) (acc a b : List UInt8) (n : Nat) (hn : n < x.nodes.length) (hn6 : x.nodes.length ≤ 60) (y : FNode) (eg : x.nodes[n]? = some y) (hy : NodeT y) (hacc : acc.length ≤ 100000000) (R : S → Prop) (B : Nat → S → Prop) :
    Wp T c_shape_Print_L2 (pp2S x acc a b n) (fun s' => trimO (pp2S x acc a b n).st.length s' = pp2S x (acc ++ lineF (nodeWords y)) a b (n + 1) ∧ True) R B := by
  have hn' : (n : Int) < x.nodes.length := by omega
  obtain ⟨ho0, ho19, hgl, r, hdr⟩ := gl_word hy.op
  have hhl := head_len y
  have hl0 := fun X hX B => pa0_loop x y acc a b n (nodeHead y) X hX (by omega) hy.len hy.args B
  have hl1 := fun X hX B => pa1_loop x y acc a b n (nodeHead y ++ y.args.map srcF) X hX (by
    rw [List.length_append, List.length_map]
    have := hy.len
    omega) hy.olen hy.outs B
  have hline := fun st h => line_own (nodeWords y) (node_w hy) (by have := node_n hy; omega) (id := 3) (t := 9) (e := 1) st h rfl
  have hll := line_len (node_w hy) (by have := node_n hy; omega)
  have hlim : acc.length + (lineF (nodeWords y)).length ≤ 9223372036854775807 := by omega
  have htx := fun st => text_call y.n hy.n st
  have hnw : nodeHead y ++ y.args.map srcF ++ outW y.outs = nodeWords y := rfl
  simp only [hnw] at hl1
  simp only [pp2S, formC]
  by_cases h15 : y.op = 15
  · have hh : nodeHead y = [wordF y.op, textF y.n] := by simp [nodeHead, h15]
    have hhS : (nodeHead y).map strC = [[.str (wordF y.op)], [.str (textF y.n)]] := by rw [hh]; rfl
    have hhn : (nodeHead y).length = 2 := by rw [hh]; rfl
    have hl0 := fun B => hl0 [.row 9 1 false [[.str (textF y.n)]]] (.inr ⟨_, rfl⟩) B
    have hl1 := fun B => hl1 [.row 9 1 false [[.str (textF y.n)]]] (.inr ⟨_, rfl⟩) B
    simp only [pa0S, hhS, hhn, formC, nodeC, srcsU] at hl0
    simp only [pa1S, formC, nodeC, outsU] at hl1
    rw [h15] at hl0 hl1
    obtain ⟨r5, hd5⟩ : ∃ r, gl_0.drop 60 = .str (wordF 15) :: r := ⟨_, rfl⟩
    have hg5 : 60 < gl_0.length := by decide
    clear hdr hgl
    simp only [h15] at hhS
    generalize (wordF 15) = w at *
    generalize textF y.n = t at *
    generalize nodeHead y ++ y.args.map srcF = W1 at *
    generalize nodeWords y = W2 at *
    generalize W1.map strC = R1 at *
    generalize hR2 : W2.map strC = R2 at *
    generalize lineF W2 = ln at *
    (all_goals have := fa (a5 @formC.eq_1 @nodeC.eq_1 hn' eg (a3 h15 hg5 hd5)); repeat' first | refine Wp.v ?_ | (apply Wp.call; exact htx _) | (refine Wp.c ?_ ?_ <;> intro))
    refine (hl0 _).imp (fun _ h => h.elim) (fun _ h => h) ?_
    rintro c s ⟨rfl, rfl⟩
    rw [if_pos rfl]
    (all_goals have := fa @outsU.eq_1; repeat' first | refine Wp.v ?_ | fail | (refine Wp.c ?_ ?_ <;> intro))
    refine (hl1 _).imp (fun _ h => h.elim) (fun _ h => h) ?_
    rintro c s ⟨rfl, rfl⟩
    rw [if_pos rfl]
    (all_goals have := fa hlim; repeat' first | refine Wp.v ?_ | (apply Wp.call; exact hline _ rfl) | (refine Wp.c ?_ ?_ <;> intro))
    (have := fa @wrap_id; repeat refine Wp.f ?_)
    exact ⟨by simp [trimO, trim], trivial⟩
  · have hh : nodeHead y = [wordF y.op] := by simp [nodeHead, h15]
    have hhS : (nodeHead y).map strC = [[.str (wordF y.op)]] := by rw [hh]; rfl
    have hhn : (nodeHead y).length = 1 := by rw [hh]; rfl
    have hl0 := fun B => hl0 [] (.inl rfl) B
    have hl1 := fun B => hl1 [] (.inl rfl) B
    simp only [pa0S, hhS, hhn, formC, nodeC, srcsU] at hl0
    simp only [pa1S, formC, nodeC, outsU] at hl1
    generalize (wordF y.op) = w at *
    generalize nodeHead y ++ y.args.map srcF = W1 at *
    generalize nodeWords y = W2 at *
    generalize W1.map strC = R1 at *
    generalize hR2 : W2.map strC = R2 at *
    generalize lineF W2 = ln at *
    (all_goals have := fa (a5 @formC.eq_1 @nodeC.eq_1 hn' eg (a5 h15 ho0 ho19 hgl hdr)); repeat' first | refine Wp.v ?_ | fail | (refine Wp.c ?_ ?_ <;> intro))
    refine (hl0 _).imp (fun _ h => h.elim) (fun _ h => h) ?_
    rintro c s ⟨rfl, rfl⟩
    rw [if_pos rfl]
    (all_goals have := fa @outsU.eq_1; repeat' first | refine Wp.v ?_ | fail | (refine Wp.c ?_ ?_ <;> intro))
    refine (hl1 _).imp (fun _ h => h.elim) (fun _ h => h) ?_
    rintro c s ⟨rfl, rfl⟩
    rw [if_pos rfl]
    (all_goals have := fa hlim; repeat' first | refine Wp.v ?_ | (apply Wp.call; exact hline _ rfl) | (refine Wp.c ?_ ?_ <;> intro))
    (have := fa @wrap_id; repeat refine Wp.f ?_)
    exact ⟨by simp [trimO, trim], trivial⟩
def nodesT (l : List FNode) : List UInt8 := l.flatMap (fun y => lineF (nodeWords y))
def valsT (l : List FVal) : List UInt8 := l.flatMap (fun v => lineF (valWords v))
theorem nodesT_take {l : List FNode} {k : Nat} (hk : k < l.length) : nodesT (l.take (k + 1)) = nodesT (l.take k) ++ lineF (nodeWords l[k]) := by
  unfold nodesT
  rw [List.take_succ_eq_append_getElem hk, List.flatMap_append]
  simp
theorem valsT_take {l : List FVal} {k : Nat} (hk : k < l.length) : valsT (l.take (k + 1)) = valsT (l.take k) ++ lineF (valWords l[k]) := by
  unfold valsT
  rw [List.take_succ_eq_append_getElem hk, List.flatMap_append]
  simp
theorem print_eq (x : FForm) : printF x = lineF (entWords x) ++ nodesT x.nodes ++ valsT x.vals := by
  unfold printF linesF nodesT valsT
  rw [List.flatMap_cons, List.flatMap_append, List.flatMap_map, List.flatMap_map, List.append_assoc]
  rfl
theorem pp2_loop (x : FForm) (hx : FormT x) (acc a b : List UInt8) (hacc : acc.length ≤ 100000) (R : S → Prop) :
    Wp T (.loop c_shape_Print_L2) (pp2S x acc a b 0) (fun _ => False) R
      (fun c s' => c = 0 ∧ s' = ⟨[(1, .bp 0 0), (4, .str (acc ++ nodesT x.nodes)), (26, .sl true (x.nodes.map nodeC)), (27, i64 x.nodes.length), (28, i64 (x.nodes.length : Nat)), (29, .bool false)], [.box (formC x), entR a b]⟩) := by
  rw [show pp2S x acc a b 0 = pp2S x (acc ++ nodesT (x.nodes.take 0)) a b 0 by simp [nodesT]]
  refine Wp.count x.nodes.length (fun k => pp2S x (acc ++ nodesT (x.nodes.take k)) a b k) (fun _ => True) (fun k hk _ => ?_) (fun _ => ?_) 0 (by omega) trivial
  · rw [nodesT_take hk, ← List.append_assoc]
    refine pp2_step x _ a b k hk hx.nlen x.nodes[k] (List.getElem?_eq_getElem hk) (hx.nodes _ (List.getElem_mem hk)) ?_ R _
    have := flat_len (f := fun y => lineF (nodeWords y)) (b := 20000) (l := x.nodes.take k) (fun y hy => line_len (node_w (hx.nodes y (List.mem_of_mem_take hy))) (by have := node_n (hx.nodes y (List.mem_of_mem_take hy)); omega))
    have h2 : (x.nodes.take k).length ≤ 60 := by have := hx.nlen; rw [List.length_take]; omega
    have h3 : (x.nodes.take k).length * 20000 ≤ 60 * 20000 := Nat.mul_le_mul_right _ h2
    rw [List.length_append]
    unfold nodesT
    omega
  · rw [List.take_of_length_le (Nat.le_refl _)]
    simp only [pp2S]
    repeat refine Wp.a ?_
    refine Wp.i ?_ ?_ <;> intro h1
    · simp at h1
    · exact Wp.exit ⟨rfl, rfl⟩
def pp3S (x : FForm) (v : FVal) (acc a b : List UInt8) (n : Nat) (W : List (List UInt8)) (k : Nat) : S :=
  ⟨[(4, .str acc), (14, .own 3 W.length), (79, .sl true (x.vals.map valC)), (80, i64 x.vals.length), (81, i64 n), (90, srcsU v.src), (91, i64 v.src.length), (92, i64 k)], [.box (formC x), entR a b, .box (valC v), .row 9 1 false (W.map strC)]⟩
set_option maxHeartbeats 8000000 in
theorem pp3_loop (x : FForm) (v : FVal) (acc a b : List UInt8) (n : Nat) (W : List (List UInt8)) (hW : W.length ≤ 100) (hl : v.src.length ≤ 100) (hs : ∀ s ∈ v.src, SrcR s) (R : S → Prop) :
    Wp T (.loop c_shape_Print_L3) (pp3S x v acc a b n W 0) (fun _ => False) R
      (fun c s' => c = 8 ∧ s' = ⟨[(4, .str acc), (14, .own 3 (W ++ v.src.map srcF).length), (79, .sl true (x.vals.map valC)), (80, i64 x.vals.length), (81, i64 n), (90, srcsU v.src), (91, i64 v.src.length), (92, i64 (v.src.length : Nat)), (93, .bool false)],
        [.box (formC x), entR a b, .box (valC v), .row 9 1 false ((W ++ v.src.map srcF).map strC)]⟩) := by
  rw [show pp3S x v acc a b n W 0 = pp3S x v acc a b n (W ++ (v.src.take 0).map srcF) 0 by simp]
  refine Wp.count v.src.length (fun k => pp3S x v acc a b n (W ++ (v.src.take k).map srcF) k) (fun _ => True) (fun k hk _ => ?_) (fun _ => ?_) 0 (by omega) trivial
  · have hk' : (k : Int) < v.src.length := by omega
    have eg : v.src[k]? = some v.src[k] := List.getElem?_eq_getElem hk
    have hsc := fun st => source_call v.src[k] (hs _ (List.getElem_mem hk)) st
    rw [map_take srcF hk, ← List.append_assoc]
    have hlen : (W ++ (v.src.take k).map srcF).length ≤ 220 := by
      rw [List.length_append, List.length_map, List.length_take]
      omega
    generalize W ++ (v.src.take k).map srcF = V at *
    have e1 := strC_snoc V (srcF v.src[k])
    have e3 : (V ++ [srcF v.src[k]]).length = V.length + 1 := by simp
    have e2 : (V.map strC).length = V.length := List.length_map _
    have lim : (V.length + 1) * 16 ≤ 140737488355328 := by omega
    simp only [pp3S, e3]
    generalize srcF v.src[k] = w at *
    generalize v.src[k] = s at *
    generalize (V ++ [w]).map strC = R1 at *
    generalize V.map strC = R0 at *
    simp only [srcC] at hsc
    (all_goals have := fa (a5 @srcsU.eq_1 @srcC.eq_1 hk' eg (a3 e1 e2 lim)); repeat' first | refine Wp.v ?_ | (apply Wp.call; exact hsc _) | (refine Wp.c ?_ ?_ <;> intro))
    (have := fa @wrap_id; repeat refine Wp.f ?_)
    exact ⟨by simp [trimO, trim, formC, valC, srcsU], trivial⟩
  · rw [List.take_of_length_le (Nat.le_refl _)]
    simp only [pp3S]
    repeat refine Wp.a ?_
    refine Wp.i ?_ ?_ <;> intro h1
    · simp at h1
    · exact Wp.exit ⟨rfl, by simp⟩
def pp4S (x : FForm) (acc a b : List UInt8) (n : Nat) : S :=
  ⟨[(4, .str acc), (79, .sl true (x.vals.map valC)), (80, i64 x.vals.length), (81, i64 n)], [.box (formC x), entR a b]⟩
set_option maxHeartbeats 16000000 in
theorem pp4_step (x : FForm) (acc a b : List UInt8) (n : Nat) (hn : n < x.vals.length) (hn6 : x.vals.length ≤ 200) (v : FVal) (eg : x.vals[n]? = some v) (hy : ValT v) (hacc : acc.length ≤ 100000000) (R : S → Prop) (B : Nat → S → Prop) :
    Wp T c_shape_Print_L4 (pp4S x acc a b n) (fun s' => trimO (pp4S x acc a b n).st.length s' = pp4S x (acc ++ lineF (valWords v)) a b (n + 1) ∧ True) R B := by
  have hn' : (n : Int) < x.vals.length := by omega
  have hl0 := fun B => pp3_loop x v acc a b n (valHead v) (by simp [valHead]) hy.len hy.src B
  have hline := fun st h => line_own (valWords v) (val_w hy) (by have := val_n hy; omega) (id := 3) (t := 9) (e := 1) st h rfl
  have hll := line_len (val_w hy) (by have := val_n hy; omega)
  have hlim : acc.length + (lineF (valWords v)).length ≤ 9223372036854775807 := by omega
  have htx := fun st => to_call v.pos hy.pos st
  have hnw : valHead v ++ v.src.map srcF = valWords v := rfl
  have hhS : (valHead v).map strC = [[.str [118, 97, 108, 117, 101]], [.str (toF v.pos)]] := rfl
  have hhn : (valHead v).length = 2 := rfl
  simp only [pp3S, hnw, hhS, hhn, formC, valC, srcsU] at hl0
  simp only [pp4S, formC]
  generalize toF v.pos = t at *
  generalize valWords v = W2 at *
  generalize hR2 : W2.map strC = R2 at *
  generalize lineF W2 = ln at *
  (all_goals have := fa (a5 @formC.eq_1 @valC.eq_1 @srcsU.eq_1 hn' eg); repeat' first | refine Wp.v ?_ | (apply Wp.call; exact htx _) | (refine Wp.c ?_ ?_ <;> intro))
  refine (hl0 _).imp (fun _ h => h.elim) (fun _ h => h) ?_
  rintro c s ⟨rfl, rfl⟩
  rw [if_pos rfl]
  (all_goals have := fa hlim; repeat' first | refine Wp.v ?_ | (apply Wp.call; exact hline _ rfl) | (refine Wp.c ?_ ?_ <;> intro))
  (have := fa @wrap_id; repeat refine Wp.f ?_)
  exact ⟨by simp [trimO, trim], trivial⟩
theorem pp4_loop (x : FForm) (hx : FormT x) (acc a b : List UInt8) (hacc : acc.length ≤ 2000000) (R : S → Prop) :
    Wp T (.loop c_shape_Print_L4) (pp4S x acc a b 0) (fun _ => False) R
      (fun c s' => c = 6 ∧ s' = ⟨[(4, .str (acc ++ valsT x.vals)), (79, .sl true (x.vals.map valC)), (80, i64 x.vals.length), (81, i64 (x.vals.length : Nat)), (82, .bool false)], [.box (formC x), entR a b]⟩) := by
  rw [show pp4S x acc a b 0 = pp4S x (acc ++ valsT (x.vals.take 0)) a b 0 by simp [valsT]]
  refine Wp.count x.vals.length (fun k => pp4S x (acc ++ valsT (x.vals.take k)) a b k) (fun _ => True) (fun k hk _ => ?_) (fun _ => ?_) 0 (by omega) trivial
  · rw [valsT_take hk, ← List.append_assoc]
    refine pp4_step x _ a b k hk hx.vlen x.vals[k] (List.getElem?_eq_getElem hk) (hx.vals _ (List.getElem_mem hk)) ?_ R _
    have := flat_len (f := fun y => lineF (valWords y)) (b := 20000) (l := x.vals.take k) (fun y hy => line_len (val_w (hx.vals y (List.mem_of_mem_take hy))) (by have := val_n (hx.vals y (List.mem_of_mem_take hy)); omega))
    have h2 : (x.vals.take k).length ≤ 200 := by have := hx.vlen; rw [List.length_take]; omega
    have h3 : (x.vals.take k).length * 20000 ≤ 200 * 20000 := Nat.mul_le_mul_right _ h2
    rw [List.length_append]
    unfold valsT
    omega
  · rw [List.take_of_length_le (Nat.le_refl _)]
    simp only [pp4S]
    repeat refine Wp.a ?_
    refine Wp.i ?_ ?_ <;> intro h1
    · simp at h1
    · exact Wp.exit ⟨rfl, rfl⟩
theorem nodesT_len {x : FForm} (hx : FormT x) : (nodesT x.nodes).length ≤ 1200000 := by
  have := flat_len (f := fun y => lineF (nodeWords y)) (b := 20000) (l := x.nodes) (fun y hy => line_len (node_w (hx.nodes y hy)) (by have := node_n (hx.nodes y hy); omega))
  have h3 : x.nodes.length * 20000 ≤ 60 * 20000 := Nat.mul_le_mul_right _ hx.nlen
  unfold nodesT
  omega
theorem valsT_len {x : FForm} (hx : FormT x) : (valsT x.vals).length ≤ 4000000 := by
  have := flat_len (f := fun y => lineF (valWords y)) (b := 20000) (l := x.vals) (fun y hy => line_len (val_w (hx.vals y hy)) (by have := val_n (hx.vals y hy); omega))
  have h3 : x.vals.length * 20000 ≤ 200 * 20000 := Nat.mul_le_mul_right _ hx.vlen
  unfold valsT
  omega
def printU (x : FForm) : U := if rightF x then .tup [.str (printF x), i64 0] else .tup [.str [], i64 1]
set_option maxHeartbeats 16000000 in
theorem print_call (x : FForm) (hs : Small x) (hr : FormR x) (st : List Ob) : Cl T n_shape_Print [formU x] st (printU x) st := by
  refine Wp.pure (fn := c_shape_Print) rfl rfl rfl («as» := [formU x]) rfl ?_
  have hri := fun st => right_call x hs st
  unfold printU
  cases h : rightF x with
  | false =>
    rw [h] at hri
    (all_goals have := fa @formC.eq_1; repeat' first | refine Wp.v ?_ | (apply Wp.call; exact hri _) | (refine Wp.c ?_ ?_ <;> intro))
    refine Wp.ret ?_; simp [Res, resU, res1, c_shape_Print]
  | true =>
    rw [h] at hri
    have hx := right_form hs hr h
    have hto := fun st => to_call x.entry hx.ent st
    have hline := fun st hh => line_own (entWords x) (ent_w hx.ent) (by simp [entWords]) (id := 1) (t := 9) (e := 1) st hh rfl
    have hll := line_len (ent_w hx.ent) (by simp [entWords])
    have hee : (entWords x).length = 2 := rfl
    have hes : (entWords x).map strC = [[.str [101, 110, 116, 114, 121]], [.str (toF x.entry)]] := rfl
    have hl2 := fun B => pp2_loop x hx (lineF (entWords x)) [101, 110, 116, 114, 121] (toF x.entry) (by omega) B
    have hnl := nodesT_len hx
    have hl4 := fun B => pp4_loop x hx (lineF (entWords x) ++ nodesT x.nodes) [101, 110, 116, 114, 121] (toF x.entry) (by rw [List.length_append]; omega) B
    rw [print_eq]
    rw [hee] at hline
    generalize lineF (entWords x) ++ nodesT x.nodes = t2 at *
    generalize t2 ++ valsT x.vals = t3 at *
    rw [hes] at hline
    generalize lineF (entWords x) = t1 at *
    generalize toF x.entry = te at *
    simp only [pp2S, formC] at hl2
    simp only [pp4S, formC] at hl4
    (all_goals have := fa @formC.eq_1; repeat' first | refine Wp.v ?_ | (apply Wp.call; exact hri _) | (apply Wp.call; exact hto _) | (apply Wp.call; exact hline _ rfl) | (refine Wp.c ?_ ?_ <;> intro))
    refine (hl2 _).imp (fun _ h => h.elim) (fun _ h => h) ?_
    rintro c s ⟨rfl, rfl⟩
    rw [if_pos rfl]
    (repeat' first | refine Wp.u ?_ | fail | (refine Wp.c ?_ ?_ <;> intro))
    refine (hl4 _).imp (fun _ h => h.elim) (fun _ h => h) ?_
    rintro c s ⟨rfl, rfl⟩
    rw [if_pos rfl]
    (repeat' first | refine Wp.u ?_ | fail | (refine Wp.c ?_ ?_ <;> intro))
    refine Wp.ret ?_; simp [Res, resU, res1, c_shape_Print]
theorem jn_snoc2 {l : List (List UInt8)} (h : l ≠ []) (a b : List UInt8) : jn (l ++ [a, b]) = jn l ++ 32 :: (a ++ 32 :: b) := by
  rw [show l ++ [a, b] = (l ++ [a]) ++ [b] by simp, jn_snoc (by simp), jn_snoc h]
  simp
theorem head_ne (y : FNode) : nodeHead y ≠ [] := by simp [nodeHead]
def rl0S (x : FForm) (y : FNode) (ls : List (List UInt8)) (n : Nat) (W : List (List UInt8)) (k : Nat) : S :=
  ⟨[(1, .bp 0 0), (3, .own 1 ls.length), (4, i64 n), (5, .bp 2 0), (6, .str (jn W)), (7, i64 k)], [.box (formC x), .row 9 1 false (ls.map strC), .box (nodeC y)]⟩
set_option maxHeartbeats 8000000 in
theorem rl0_loop (x : FForm) (y : FNode) (hy : NodeT y) (ls : List (List UInt8)) (n : Nat) (W : List (List UInt8)) (hWn : W ≠ []) (hW : W.length ≤ 100) (hWw : ∀ w ∈ W, w.length ≤ 100) (R : S → Prop) :
    Wp T (.loop c_joineryref14_Lines_L0) (rl0S x y ls n W 0) (fun _ => False) R
      (fun c s' => c = 2 ∧ s' = ⟨[(1, .bp 0 0), (3, .own 1 ls.length), (4, i64 n), (5, .bp 2 0), (6, .str (jn (W ++ y.args.map srcF))), (7, i64 (y.args.length : Nat)), (45, .bool false)], [.box (formC x), .row 9 1 false (ls.map strC), .box (nodeC y)]⟩) := by
  have hl := hy.len
  rw [show rl0S x y ls n W 0 = rl0S x y ls n (W ++ (y.args.take 0).map srcF) 0 by simp]
  refine Wp.count y.args.length (fun k => rl0S x y ls n (W ++ (y.args.take k).map srcF) k) (fun _ => True) (fun k hk _ => ?_) (fun _ => ?_) 0 (by omega) trivial
  · have hk' : (k : Int) < y.args.length := by omega
    have eg : y.args[k]? = some y.args[k] := List.getElem?_eq_getElem hk
    have hsr := hy.args _ (List.getElem_mem hk)
    have hsc := fun st => rsource_call y.args[k] hsr (hy.kind _ (List.getElem_mem hk)) st
    have hsl := src_len hsr
    have hVn : W ++ (y.args.take k).map srcF ≠ [] := by simp [hWn]
    have hjl := jn_len (W ++ (y.args.take k).map srcF) (fun w hw => by
      rcases List.mem_append.1 hw with hw | hw
      · exact hWw w hw
      · exact srcs_w (fun s hs => hy.args s (List.mem_of_mem_take hs)) w hw)
    rw [List.length_append, List.length_map, List.length_take] at hjl
    replace hjl : (jn (W ++ (y.args.take k).map srcF)).length ≤ 101 * 200 := Nat.le_trans hjl (Nat.mul_le_mul_left _ (by omega))
    rw [map_take srcF hk, ← List.append_assoc]
    simp only [rl0S]
    rw [jn_snoc hVn]
    generalize jn (W ++ (y.args.take k).map srcF) = j at *
    generalize srcF y.args[k] = w at *
    generalize y.args[k] = s at *
    generalize ls.map strC = R0 at *
    simp only [srcC] at hsc
    have q1 : j.length + 1 ≤ 9223372036854775807 := by omega
    have q2 : j.length ≤ 9223372036854775806 := by omega
    have q3 : j.length + 1 + w.length ≤ 9223372036854775807 := by omega
    have q4 : j.length + (w.length + 1) ≤ 9223372036854775807 := by omega
    have q5 : j.length + (1 + w.length) ≤ 9223372036854775807 := by omega
    (all_goals have := fa (a5 @nodeC.eq_1 @srcsU.eq_1 @srcC.eq_1 hk' (a5 eg q1 q2 q3 (a2 q4 q5))); repeat' first | refine Wp.v ?_ | (apply Wp.call; exact hsc _) | (refine Wp.c ?_ ?_ <;> intro))
    (have := fa @wrap_id; repeat refine Wp.f ?_)
    exact ⟨by simp [trimO, trim, formC, nodeC, srcsU, outsU], trivial⟩
  · rw [List.take_of_length_le (Nat.le_refl _)]
    simp only [rl0S]
    (have := fa (a2 @nodeC.eq_1 @srcsU.eq_1); repeat refine Wp.f ?_)
    refine Wp.i ?_ ?_ <;> intro h1
    · simp at h1
    · exact Wp.exit ⟨rfl, by simp [nodeC, srcsU]⟩
def rl1S (x : FForm) (y : FNode) (ls : List (List UInt8)) (n : Nat) (W : List (List UInt8)) (k : Nat) : S :=
  ⟨[(1, .bp 0 0), (3, .own 1 ls.length), (4, i64 n), (5, .bp 2 0), (6, .str (jn W)), (8, i64 k)], [.box (formC x), .row 9 1 false (ls.map strC), .box (nodeC y)]⟩
set_option maxHeartbeats 8000000 in
theorem rl1_loop (x : FForm) (y : FNode) (hy : NodeT y) (ls : List (List UInt8)) (n : Nat) (W : List (List UInt8)) (hWn : W ≠ []) (hW : W.length ≤ 200) (hWw : ∀ w ∈ W, w.length ≤ 100) (R : S → Prop) :
    Wp T (.loop c_joineryref14_Lines_L1) (rl1S x y ls n W 0) (fun _ => False) R
      (fun c s' => c = 4 ∧ s' = ⟨[(1, .bp 0 0), (3, .own 1 ls.length), (4, i64 n), (5, .bp 2 0), (6, .str (jn (W ++ outW y.outs))), (8, i64 (y.outs.length : Nat)), (61, .bool false)], [.box (formC x), .row 9 1 false (ls.map strC), .box (nodeC y)]⟩) := by
  have hl := hy.olen
  rw [show rl1S x y ls n W 0 = rl1S x y ls n (W ++ outW (y.outs.take 0)) 0 by simp [outW]]
  refine Wp.count y.outs.length (fun k => rl1S x y ls n (W ++ outW (y.outs.take k)) k) (fun _ => True) (fun k hk _ => ?_) (fun _ => ?_) 0 (by omega) trivial
  · have hk' : (k : Int) < y.outs.length := by omega
    have eg : y.outs[k]? = some y.outs[k] := List.getElem?_eq_getElem hk
    have hsr := hy.outs _ (List.getElem_mem hk)
    have hsc := fun st => rto_call y.outs[k] hsr (hy.lo _ (List.getElem_mem hk)) st
    have hsl := to_len hsr
    have hVn : W ++ outW (y.outs.take k) ≠ [] := by simp [hWn]
    have hjl := jn_len (W ++ outW (y.outs.take k)) (fun w hw => by
      rcases List.mem_append.1 hw with hw | hw
      · exact hWw w hw
      · exact outs_w (fun s hs => hy.outs s (List.mem_of_mem_take hs)) w hw)
    rw [List.length_append, outW_len, List.length_take] at hjl
    replace hjl : (jn (W ++ outW (y.outs.take k))).length ≤ 101 * 300 := Nat.le_trans hjl (Nat.mul_le_mul_left _ (by omega))
    rw [outW_take hk, ← List.append_assoc]
    simp only [rl1S]
    rw [jn_snoc2 hVn]
    generalize jn (W ++ outW (y.outs.take k)) = j at *
    generalize toF y.outs[k] = w at *
    generalize y.outs[k] = s at *
    generalize ls.map strC = R0 at *
    have q1 : j.length + 3 ≤ 9223372036854775807 := by omega
    have q2 : j.length ≤ 9223372036854775804 := by omega
    have q3 : j.length + 3 + w.length ≤ 9223372036854775807 := by omega
    have q4 : j.length + (w.length + 1 + 1 + 1) ≤ 9223372036854775807 := by omega
    have q5 : j.length + (3 + w.length) ≤ 9223372036854775807 := by omega
    have q6 : j.length + (w.length + 3) ≤ 9223372036854775807 := by omega
    (all_goals have := fa (a5 @nodeC.eq_1 @outsU.eq_1 @outC.eq_1 hk' (a5 eg q1 q2 q3 (a3 q4 q5 q6))); repeat' first | refine Wp.v ?_ | (apply Wp.call; exact hsc _) | (refine Wp.c ?_ ?_ <;> intro))
    (have := fa @wrap_id; repeat refine Wp.f ?_)
    exact ⟨by simp [trimO, trim, formC, nodeC, srcsU, outsU], trivial⟩
  · rw [List.take_of_length_le (Nat.le_refl _)]
    simp only [rl1S]
    (have := fa (a2 @nodeC.eq_1 @outsU.eq_1); repeat refine Wp.f ?_)
    refine Wp.i ?_ ?_ <;> intro h1
    · simp at h1
    · exact Wp.exit ⟨rfl, by simp [nodeC, outsU]⟩
def rl2S (x : FForm) (ls : List (List UInt8)) (n : Nat) : S := ⟨[(1, .bp 0 0), (3, .own 1 ls.length), (4, i64 n)], [.box (formC x), .row 9 1 false (ls.map strC)]⟩
set_option maxHeartbeats 16000000 in
theorem rl2_step (x : FForm) (ls : List (List UInt8)) (hls : ls.length ≤ 1000) (n : Nat) (hn : n < x.nodes.length) (hn6 : x.nodes.length ≤ 60) (y : FNode) (eg : x.nodes[n]? = some y) (hy : NodeT y) (R : S → Prop) (B : Nat → S → Prop) :
    Wp T c_joineryref14_Lines_L2 (rl2S x ls n) (fun s' => trimO (rl2S x ls n).st.length s' = rl2S x (ls ++ [jn (nodeWords y)]) (n + 1) ∧ True) R B := by
  have hn' : (n : Int) < x.nodes.length := by omega
  have hhl := head_len y
  have hl0 := fun B => rl0_loop x y hy ls n (nodeHead y) (head_ne y) (by omega) (head_w y hy.n) B
  have hl1 := fun B => rl1_loop x y hy ls n (nodeHead y ++ y.args.map srcF) (by simp [head_ne]) (by
    rw [List.length_append, List.length_map]
    have := hy.len
    omega) (fun w hw => by
      rcases List.mem_append.1 hw with hw | hw
      · exact head_w y hy.n w hw
      · exact srcs_w hy.args w hw) B
  have hwo := fun st => rword_call y.op st
  have hwl := word_len y.op
  have htx := fun st => rtext_call y.n hy.n st
  have htl := text_len hy.n
  have hnw : nodeHead y ++ y.args.map srcF ++ outW y.outs = nodeWords y := rfl
  rw [hnw] at hl1
  have e1 := strC_snoc ls (jn (nodeWords y))
  have e2 : (ls.map strC).length = ls.length := List.length_map _
  have e3 : (ls ++ [jn (nodeWords y)]).length = ls.length + 1 := by simp
  have lim : (ls.length + 1) * 16 ≤ 140737488355328 := by omega
  simp only [rl2S, e3]
  by_cases h15 : y.op = 15
  · have hh : jn (nodeHead y) = wordF 15 ++ 32 :: textF y.n := by simp [nodeHead, h15, jn]
    simp only [rl0S, hh, formC, nodeC, h15] at hl0
    simp only [rl1S, formC, nodeC, h15] at hl1
    simp only [h15] at hwo hwl
    generalize wordF 15 = w at *
    generalize textF y.n = t at *
    generalize jn (nodeHead y ++ y.args.map srcF) = j1 at *
    generalize jn (nodeWords y) = j2 at *
    generalize (ls ++ [j2]).map strC = R1 at *
    generalize ls.map strC = R0 at *
    have q1 : w.length + 1 ≤ 9223372036854775807 := by omega
    have q2 : w.length ≤ 9223372036854775806 := by omega
    have q3 : w.length + 1 + t.length ≤ 9223372036854775807 := by omega
    have q4 : w.length + (t.length + 1) ≤ 9223372036854775807 := by omega
    have q5 : w.length + (1 + t.length) ≤ 9223372036854775807 := by omega
    (all_goals have := fa (a5 @formC.eq_1 @nodeC.eq_1 hn' eg (a5 h15 q1 q2 q3 (a2 q4 q5))); repeat' first | refine Wp.v ?_ | (apply Wp.call; exact hwo _) | (apply Wp.call; exact htx _) | (refine Wp.c ?_ ?_ <;> intro))
    refine (hl0 _).imp (fun _ h => h.elim) (fun _ h => h) ?_
    rintro c s ⟨rfl, rfl⟩
    rw [if_pos rfl]
    (repeat' first | refine Wp.u ?_ | fail | (refine Wp.c ?_ ?_ <;> intro))
    refine (hl1 _).imp (fun _ h => h.elim) (fun _ h => h) ?_
    rintro c s ⟨rfl, rfl⟩
    rw [if_pos rfl]
    (all_goals have := fa (a3 e1 e2 lim); repeat' first | refine Wp.v ?_ | fail | (refine Wp.c ?_ ?_ <;> intro))
    (have := fa @wrap_id; repeat refine Wp.f ?_)
    exact ⟨by simp [trimO, trim, formC], trivial⟩
  · have hh : jn (nodeHead y) = wordF y.op := by simp [nodeHead, h15, jn]
    simp only [rl0S, hh, formC, nodeC] at hl0
    simp only [rl1S, formC, nodeC] at hl1
    generalize wordF y.op = w at *
    generalize jn (nodeHead y ++ y.args.map srcF) = j1 at *
    generalize jn (nodeWords y) = j2 at *
    generalize (ls ++ [j2]).map strC = R1 at *
    generalize ls.map strC = R0 at *
    (all_goals have := fa (a5 @formC.eq_1 @nodeC.eq_1 hn' eg h15); repeat' first | refine Wp.v ?_ | (apply Wp.call; exact hwo _) | (refine Wp.c ?_ ?_ <;> intro))
    refine (hl0 _).imp (fun _ h => h.elim) (fun _ h => h) ?_
    rintro c s ⟨rfl, rfl⟩
    rw [if_pos rfl]
    (repeat' first | refine Wp.u ?_ | fail | (refine Wp.c ?_ ?_ <;> intro))
    refine (hl1 _).imp (fun _ h => h.elim) (fun _ h => h) ?_
    rintro c s ⟨rfl, rfl⟩
    rw [if_pos rfl]
    (all_goals have := fa (a3 e1 e2 lim); repeat' first | refine Wp.v ?_ | fail | (refine Wp.c ?_ ?_ <;> intro))
    (have := fa @wrap_id; repeat refine Wp.f ?_)
    exact ⟨by simp [trimO, trim, formC], trivial⟩
theorem rl2_loop (x : FForm) (hx : FormT x) (ls : List (List UInt8)) (hls : ls.length ≤ 10) (R : S → Prop) :
    Wp T (.loop c_joineryref14_Lines_L2) (rl2S x ls 0) (fun _ => False) R
      (fun c s' => c = 0 ∧ s' = ⟨[(1, .bp 0 0), (3, .own 1 (ls ++ x.nodes.map (fun y => jn (nodeWords y))).length), (4, i64 (x.nodes.length : Nat)), (21, .bool false)], [.box (formC x), .row 9 1 false ((ls ++ x.nodes.map (fun y => jn (nodeWords y))).map strC)]⟩) := by
  rw [show rl2S x ls 0 = rl2S x (ls ++ (x.nodes.take 0).map (fun y => jn (nodeWords y))) 0 by simp]
  refine Wp.count x.nodes.length (fun k => rl2S x (ls ++ (x.nodes.take k).map (fun y => jn (nodeWords y))) k) (fun _ => True) (fun k hk _ => ?_) (fun _ => ?_) 0 (by omega) trivial
  · rw [map_take (fun y => jn (nodeWords y)) hk, ← List.append_assoc]
    refine rl2_step x _ ?_ k hk hx.nlen x.nodes[k] (List.getElem?_eq_getElem hk) (hx.nodes _ (List.getElem_mem hk)) R _
    have := hx.nlen
    rw [List.length_append, List.length_map, List.length_take]
    omega
  · rw [List.take_of_length_le (Nat.le_refl _)]
    simp only [rl2S]
    (have := fa @formC.eq_1; repeat refine Wp.f ?_)
    refine Wp.i ?_ ?_ <;> intro h1
    · simp at h1
    · exact Wp.exit ⟨rfl, by simp [formC]⟩
def rl3S (x : FForm) (ls : List (List UInt8)) (n : Nat) (W : List (List UInt8)) (k : Nat) : S :=
  ⟨[(1, .bp 0 0), (3, .own 1 ls.length), (9, i64 n), (10, .str (jn W)), (11, i64 k)], [.box (formC x), .row 9 1 false (ls.map strC)]⟩
set_option maxHeartbeats 8000000 in
theorem rl3_loop (x : FForm) (v : FVal) (hy : ValT v) (ls : List (List UInt8)) (n : Nat) (hn : n < x.vals.length) (ev : x.vals[n]? = some v) (R : S → Prop) :
    Wp T (.loop c_joineryref14_Lines_L3) (rl3S x ls n (valHead v) 0) (fun _ => False) R
      (fun c s' => c = 8 ∧ s' = ⟨[(1, .bp 0 0), (3, .own 1 ls.length), (9, i64 n), (10, .str (jn (valWords v))), (11, i64 (v.src.length : Nat)), (100, .bool false)], [.box (formC x), .row 9 1 false (ls.map strC)]⟩) := by
  have hn' : (n : Int) < x.vals.length := by omega
  have hl := hy.len
  rw [show rl3S x ls n (valHead v) 0 = rl3S x ls n (valHead v ++ (v.src.take 0).map srcF) 0 by simp]
  refine Wp.count v.src.length (fun k => rl3S x ls n (valHead v ++ (v.src.take k).map srcF) k) (fun _ => True) (fun k hk _ => ?_) (fun _ => ?_) 0 (by omega) trivial
  · have hk' : (k : Int) < v.src.length := by omega
    have eg : v.src[k]? = some v.src[k] := List.getElem?_eq_getElem hk
    have hsr := hy.src _ (List.getElem_mem hk)
    have hsc := fun st => rsource_call v.src[k] hsr (hy.kind _ (List.getElem_mem hk)) st
    have hsl := src_len hsr
    have hVn : valHead v ++ (v.src.take k).map srcF ≠ [] := by simp [valHead]
    have hjl := jn_len (valHead v ++ (v.src.take k).map srcF) (fun w hw => by
      refine val_w hy w ?_
      unfold valWords
      rcases List.mem_append.1 hw with hw | hw
      · exact List.mem_append_left _ hw
      · obtain ⟨s, hs, rfl⟩ := List.mem_map.1 hw
        exact List.mem_append_right _ (List.mem_map_of_mem (List.mem_of_mem_take hs)))
    rw [List.length_append, List.length_map, List.length_take] at hjl
    replace hjl : (jn (valHead v ++ (v.src.take k).map srcF)).length ≤ 101 * 200 := Nat.le_trans hjl (Nat.mul_le_mul_left _ (by simp only [valHead, List.length_cons, List.length_nil]; omega))
    rw [map_take srcF hk, ← List.append_assoc]
    simp only [rl3S]
    rw [jn_snoc hVn]
    generalize jn (valHead v ++ (v.src.take k).map srcF) = j at *
    generalize srcF v.src[k] = w at *
    generalize v.src[k] = s at *
    generalize ls.map strC = R0 at *
    simp only [srcC] at hsc
    have q1 : j.length + 1 ≤ 9223372036854775807 := by omega
    have q2 : j.length ≤ 9223372036854775806 := by omega
    have q3 : j.length + 1 + w.length ≤ 9223372036854775807 := by omega
    have q4 : j.length + (w.length + 1) ≤ 9223372036854775807 := by omega
    have q5 : j.length + (1 + w.length) ≤ 9223372036854775807 := by omega
    (repeat' first | refine Wp.t ?_ | ((first | apply Wp.op | apply Wp.opN); (apply Evt.all; intro; (simp [formC, valC, srcsU, srcC, hn', ev, hk', eg, q1, q2, q3, q4, q5]) <;> (try simp (disch := omega) only [wrap_id]) <;> first | exact ⟨rfl, rfl⟩ | exact rfl)) | (apply Wp.call; exact hsc _) | (refine Wp.c ?_ ?_ <;> intro))
    (have := fa @wrap_id; repeat refine Wp.f ?_)
    exact ⟨by simp [trimO, trim, formC], trivial⟩
  · rw [List.take_of_length_le (Nat.le_refl _)]
    simp only [rl3S]
    repeat first | refine Wp.s ?_ | ((first | apply Wp.op | apply Wp.opN | (apply Wp.opG; exact rfl)); (apply Evt.all; intro; (simp [formC, valC, srcsU, hn', ev]) <;> (try simp (disch := omega) only [wrap_id]) <;> first | exact ⟨rfl, rfl⟩ | exact rfl))
    refine Wp.i ?_ ?_ <;> intro h1
    · simp at h1
    · exact Wp.exit ⟨rfl, by simp [formC, valWords]⟩
def rl4S (x : FForm) (ls : List (List UInt8)) (n : Nat) : S := ⟨[(1, .bp 0 0), (3, .own 1 ls.length), (9, i64 n)], [.box (formC x), .row 9 1 false (ls.map strC)]⟩
set_option maxHeartbeats 16000000 in
theorem rl4_step (x : FForm) (ls : List (List UInt8)) (hls : ls.length ≤ 1000) (n : Nat) (hn : n < x.vals.length) (hn6 : x.vals.length ≤ 200) (v : FVal) (ev : x.vals[n]? = some v) (hy : ValT v) (R : S → Prop) (B : Nat → S → Prop) :
    Wp T c_joineryref14_Lines_L4 (rl4S x ls n) (fun s' => trimO (rl4S x ls n).st.length s' = rl4S x (ls ++ [jn (valWords v)]) (n + 1) ∧ True) R B := by
  have hn' : (n : Int) < x.vals.length := by omega
  have hl0 := fun B => rl3_loop x v hy ls n hn ev B
  have htx := fun st => rto_call v.pos hy.pos hy.lo st
  have htl := to_len hy.pos
  have e1 := strC_snoc ls (jn (valWords v))
  have e2 : (ls.map strC).length = ls.length := List.length_map _
  have e3 : (ls ++ [jn (valWords v)]).length = ls.length + 1 := by simp
  have lim : (ls.length + 1) * 16 ≤ 140737488355328 := by omega
  have hh : jn (valHead v) = 118 :: 97 :: 108 :: 117 :: 101 :: 32 :: toF v.pos := by simp [valHead, jn]
  simp only [rl3S, hh, formC] at hl0
  simp only [rl4S, e3]
  generalize toF v.pos = t at *
  generalize jn (valWords v) = j2 at *
  generalize (ls ++ [j2]).map strC = R1 at *
  generalize ls.map strC = R0 at *
  have q1 : 6 + t.length ≤ 9223372036854775807 := by omega
  have q2 : t.length ≤ 9223372036854775801 := by omega
  have q3 : t.length + 6 ≤ 9223372036854775807 := by omega
  (repeat' first | refine Wp.t ?_ | ((first | apply Wp.op | apply Wp.opN); (apply Evt.all; intro; (simp [formC, valC, hn', ev, q1, q2, q3]) <;> (try simp (disch := omega) only [wrap_id]) <;> first | exact ⟨rfl, rfl⟩ | exact rfl)) | (apply Wp.call; exact htx _) | (refine Wp.c ?_ ?_ <;> intro))
  refine (hl0 _).imp (fun _ h => h.elim) (fun _ h => h) ?_
  rintro c s ⟨rfl, rfl⟩
  rw [if_pos rfl]
  (all_goals have := fa (a3 e1 e2 lim); repeat' first | refine Wp.v ?_ | fail | (refine Wp.c ?_ ?_ <;> intro))
  (have := fa @wrap_id; repeat refine Wp.f ?_)
  exact ⟨by simp [trimO, trim, formC], trivial⟩
theorem rl4_loop (x : FForm) (hx : FormT x) (ls : List (List UInt8)) (hls : ls.length ≤ 100) (R : S → Prop) :
    Wp T (.loop c_joineryref14_Lines_L4) (rl4S x ls 0) (fun _ => False) R
      (fun c s' => c = 6 ∧ s' = ⟨[(1, .bp 0 0), (3, .own 1 (ls ++ x.vals.map (fun v => jn (valWords v))).length), (9, i64 (x.vals.length : Nat)), (81, .bool false)], [.box (formC x), .row 9 1 false ((ls ++ x.vals.map (fun v => jn (valWords v))).map strC)]⟩) := by
  rw [show rl4S x ls 0 = rl4S x (ls ++ (x.vals.take 0).map (fun y => jn (valWords y))) 0 by simp]
  refine Wp.count x.vals.length (fun k => rl4S x (ls ++ (x.vals.take k).map (fun y => jn (valWords y))) k) (fun _ => True) (fun k hk _ => ?_) (fun _ => ?_) 0 (by omega) trivial
  · rw [map_take (fun y => jn (valWords y)) hk, ← List.append_assoc]
    refine rl4_step x _ ?_ k hk hx.vlen x.vals[k] (List.getElem?_eq_getElem hk) (hx.vals _ (List.getElem_mem hk)) R _
    have := hx.vlen
    rw [List.length_append, List.length_map, List.length_take]
    omega
  · rw [List.take_of_length_le (Nat.le_refl _)]
    simp only [rl4S]
    (have := fa @formC.eq_1; repeat refine Wp.f ?_)
    refine Wp.i ?_ ?_ <;> intro h1
    · simp at h1
    · exact Wp.exit ⟨rfl, by simp [formC]⟩
theorem lines_eq (x : FForm) : linesF x = [jn (entWords x)] ++ x.nodes.map (fun y => jn (nodeWords y)) ++ x.vals.map (fun v => jn (valWords v)) := rfl
set_option maxHeartbeats 16000000 in
theorem rlines_call (x : FForm) (hx : FormT x) (st : List Ob) : Cl T n_joineryref14_Lines [formU x] st (wordsU true (linesF x)) st := by
  show Cl T n_joineryref14_Lines [formU x] st (.sl true ((linesF x).map strC)) st
  refine Wp.pure (fn := c_joineryref14_Lines) rfl rfl rfl («as» := [formU x]) rfl ?_
  have hto := fun st => rto_call x.entry hx.ent hx.elo st
  have htl := to_len hx.ent
  have he : jn (entWords x) = 101 :: 110 :: 116 :: 114 :: 121 :: 32 :: toF x.entry := by simp [entWords, jn]
  have hl2 := fun B => rl2_loop x hx [jn (entWords x)] (by simp) B
  have hl4 := fun B => rl4_loop x hx ([jn (entWords x)] ++ x.nodes.map (fun y => jn (nodeWords y))) (by
    have := hx.nlen
    rw [List.length_append, List.length_map]
    simp only [List.length_cons, List.length_nil]
    omega) B
  rw [lines_eq]
  generalize hA : [jn (entWords x)] ++ x.nodes.map (fun y => jn (nodeWords y)) = A at *
  generalize hB : A ++ x.vals.map (fun v => jn (valWords v)) = B at *
  have e1 : ([jn (entWords x)]).map strC = [[.str (jn (entWords x))]] := rfl
  simp only [rl2S, e1, he, formC, List.length_cons, List.length_nil, Nat.zero_add] at hl2
  simp only [rl4S, formC] at hl4
  have eB : (B.map strC).length = B.length := List.length_map _
  generalize toF x.entry = t at *
  generalize B.map strC = RB at *
  generalize A.map strC = RA at *
  have q1 : 6 + t.length ≤ 9223372036854775807 := by omega
  have q2 : t.length ≤ 9223372036854775801 := by omega
  have q3 : t.length + 6 ≤ 9223372036854775807 := by omega
  (all_goals have := fa (a4 @formC.eq_1 q1 q2 q3); repeat' first | refine Wp.v ?_ | (apply Wp.call; exact hto _) | (refine Wp.c ?_ ?_ <;> intro))
  refine (hl2 _).imp (fun _ h => h.elim) (fun _ h => h) ?_
  rintro c s ⟨rfl, rfl⟩
  rw [if_pos rfl]
  (repeat' first | refine Wp.u ?_ | fail | (refine Wp.c ?_ ?_ <;> intro))
  refine (hl4 _).imp (fun _ h => h.elim) (fun _ h => h) ?_
  rintro c s ⟨rfl, rfl⟩
  rw [if_pos rfl]
  (repeat' first | refine Wp.u ?_ | fail | (refine Wp.c ?_ ?_ <;> intro))
  refine Wp.ret ?_; simp [Res, resU, res1, c_joineryref14_Lines, eB]
theorem lines_w {x : FForm} (hx : FormT x) : ∀ l ∈ linesF x, l.length ≤ 19999 := by
  intro l hl
  have key : ∀ {ws : List (List UInt8)}, (∀ w ∈ ws, w.length ≤ 100) → ws.length ≤ 110 → (jn ws).length ≤ 19999 := fun h1 h2 => by
    have := line_len h1 h2
    simp only [lineF, List.length_append, List.length_cons, List.length_nil] at this
    omega
  rw [lines_eq] at hl
  rcases List.mem_append.1 hl with hl | hl
  · rcases List.mem_append.1 hl with hl | hl
    · rw [List.mem_singleton.1 hl]
      exact key (ent_w hx.ent) (by simp [entWords])
    · obtain ⟨y, hy, rfl⟩ := List.mem_map.1 hl
      exact key (node_w (hx.nodes y hy)) (by have := node_n (hx.nodes y hy); omega)
  · obtain ⟨y, hy, rfl⟩ := List.mem_map.1 hl
    exact key (val_w (hx.vals y hy)) (by have := val_n (hx.vals y hy); omega)
theorem lines_n {x : FForm} (hx : FormT x) : (linesF x).length ≤ 261 := by
  have := hx.nlen
  have := hx.vlen
  rw [lines_eq]
  simp only [List.length_append, List.length_map, List.length_cons, List.length_nil]
  omega
def rp0S (X : List Ob) (ls : List (List UInt8)) (t : List UInt8) (k : Nat) : S := ⟨[(3, wordsU true ls), (4, .str t), (5, i64 k)], X⟩
set_option maxHeartbeats 8000000 in
theorem rp0_loop (X : List Ob) (ls : List (List UInt8)) (hn : ls.length ≤ 300) (hw : ∀ l ∈ ls, l.length ≤ 19999) (R : S → Prop) :
    Wp T (.loop c_joineryref14_Print_L0) (rp0S X ls [] 0) (fun _ => False) R (fun c s' => c = 0 ∧ s' = ⟨[(3, wordsU true ls), (4, .str (ls.flatMap endL)), (5, i64 (ls.length : Nat)), (11, .bool false)], X⟩) := by
  rw [show rp0S X ls [] 0 = rp0S X ls ((ls.take 0).flatMap endL) 0 by simp]
  refine Wp.count ls.length (fun k => rp0S X ls ((ls.take k).flatMap endL) k) (fun _ => True) (fun k hk _ => ?_) (fun _ => ?_) 0 (by omega) trivial
  · have hk' : (k : Int) < ls.length := by omega
    have eg : ls[k]? = some ls[k] := List.getElem?_eq_getElem hk
    have hwl := hw _ (List.getElem_mem hk)
    have hl := flat_len (f := endL) (b := 20000) (l := ls.take k) (fun y hy => by
      have := hw y (List.mem_of_mem_take hy)
      simp only [endL, List.length_append, List.length_cons, List.length_nil]
      omega)
    have h2 : (ls.take k).length ≤ 300 := by rw [List.length_take]; omega
    have h3 : (ls.take k).length * 20000 ≤ 300 * 20000 := Nat.mul_le_mul_right _ h2
    have e1 : (ls.take (k + 1)).flatMap endL = (ls.take k).flatMap endL ++ (ls[k] ++ [10]) := by
      rw [List.take_succ_eq_append_getElem hk, List.flatMap_append]
      simp [endL]
    rw [e1]
    simp only [rp0S]
    generalize (ls.take k).flatMap endL = j at *
    generalize ls[k] = w at *
    have q1 : j.length + w.length ≤ 9223372036854775807 := by omega
    have q2 : j.length + w.length + 1 ≤ 9223372036854775807 := by omega
    have q3 : j.length + w.length ≤ 9223372036854775806 := by omega
    have q4 : j.length + (w.length + 1) ≤ 9223372036854775807 := by omega
    (all_goals have := fa (a5 @strC.eq_1 hk' eg q1 (a3 q2 q3 q4)); repeat' first | refine Wp.v ?_ | fail | (refine Wp.c ?_ ?_ <;> intro))
    (have := fa @wrap_id; repeat refine Wp.f ?_)
    exact ⟨trimO_len rfl, trivial⟩
  · rw [List.take_of_length_le (Nat.le_refl _)]
    simp only [rp0S]
    repeat refine Wp.a ?_
    refine Wp.i ?_ ?_ <;> intro h1
    · simp at h1
    · exact Wp.exit ⟨rfl, rfl⟩
set_option maxHeartbeats 8000000 in
theorem rprint_call (x : FForm) (hx : FormT x) (st : List Ob) : Cl T n_joineryref14_Print [formU x] st (.str (printF x)) st := by
  refine Wp.pure (fn := c_joineryref14_Print) rfl rfl rfl («as» := [formU x]) rfl ?_
  have hli := fun st => rlines_call x hx st
  have hl0 := fun B => rp0_loop [.box (formC x)] (linesF x) (by have := lines_n hx; omega) (lines_w hx) B
  unfold printF
  generalize linesF x = ls at *
  simp only [rp0S, formC] at hl0
  (all_goals have := fa @formC.eq_1; repeat' first | refine Wp.v ?_ | (apply Wp.call; exact hli _) | (refine Wp.c ?_ ?_ <;> intro))
  refine (hl0 _).imp (fun _ h => h.elim) (fun _ h => h) ?_
  rintro c s ⟨rfl, rfl⟩
  rw [if_pos rfl]
  (repeat' first | refine Wp.u ?_ | fail | (refine Wp.c ?_ ?_ <;> intro))
  refine Wp.ret ?_; simp [Res, resU, res1, c_joineryref14_Print]
end Go.Proofs.YtbcojbmalcghbaaDoor.M2
