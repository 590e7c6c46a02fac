/- What the functions answer in M2: a form's lines and its text (the document's). -/
import Derived.Test.YtbcojbmalcghbaaDoorCj
import Derived.Test.YtbcojbmalcghbaaDoorCg
import Derived.Test.YtbcojbmalcghbaaDoorCi
set_option linter.unusedSimpArgs false
set_option linter.unusedVariables false
set_option linter.unusedSectionVars false
namespace Go.Proofs.YtbcojbmalcghbaaDoor.M2
open Go
attribute [local simp] ev1 M2.get put A.ev ld sub part elems bin arith un opt idx fillC cellsO splice over newOb sto fillR laidOwn appTo appRow touch touchN touchM touchE touchA plainU flatU plainAs allM rowAt stoRow accM_nil accM_cons accMM_nil accMM_cons frz_int frz_bool frz_str frz_slt frz_nils frz_nilI frz_nilF frz_own frzRow_row frzRow_frow Ob.blw blw_bool blw_int blw_str blw_nils blw_nilI blw_nilF blw_nilp blw_nilm blw_sl blw_own blw_bp blw_rp blw_mp blw_it params
attribute [local simp] frz_agg frz_tup frz_iface frzS_agg frzS_iface accMS_cons frzS_int frzS_bool frzS_str frzS_slt frzS_nils frzS_nilI beq_dec bne_dec
theorem jn_snoc2 {l : List (List UInt8)} (h : l ≠ []) (a b : List UInt8) : jn (l ++ [a, b]) = jn l ++ 32 :: (a ++ 32 :: b) := by
  rw [show l ++ [a, b] = (l ++ [a]) ++ [b] by simp, jn_snoc (by simp), jn_snoc h]
  simp
theorem head_ne (y : FNode) : nodeHead y ≠ [] := by simp [nodeHead]
def rl0S (x : FForm) (y : FNode) (ls : List (List UInt8)) (n : Nat) (W : List (List UInt8)) (k : Nat) : S :=
  ⟨[(1, .bp 0 0), (3, .own 1 ls.length), (4, i64 n), (5, .bp 2 0), (6, .str (jn W)), (7, i64 k)], [.box (formC x), .row 9 1 false (ls.map strC), .box (nodeC y)]⟩
set_option maxHeartbeats 8000000 in
theorem rl0_loop (x : FForm) (y : FNode) (hy : NodeT y) (ls : List (List UInt8)) (n : Nat) (W : List (List UInt8)) (hWn : W ≠ []) (hW : W.length ≤ 100) (hWw : ∀ w ∈ W, w.length ≤ 100) (R : S → Prop) :
    Wp T (.loop c_joineryref14_Lines_L0) (rl0S x y ls n W 0) (fun _ => False) R
      (fun c s' => c = 2 ∧ s' = ⟨[(1, .bp 0 0), (3, .own 1 ls.length), (4, i64 n), (5, .bp 2 0), (6, .str (jn (W ++ y.args.map srcF))), (7, i64 (y.args.length : Nat)), (45, .bool false)], [.box (formC x), .row 9 1 false (ls.map strC), .box (nodeC y)]⟩) := by
  have hl := hy.len
  rw [show rl0S x y ls n W 0 = rl0S x y ls n (W ++ (y.args.take 0).map srcF) 0 by simp]
  refine Wp.count y.args.length (fun k => rl0S x y ls n (W ++ (y.args.take k).map srcF) k) (fun _ => True) (fun k hk _ => ?_) (fun _ => ?_) 0 (by omega) trivial
  · have hk' : (k : Int) < y.args.length := by omega
    have eg : y.args[k]? = some y.args[k] := List.getElem?_eq_getElem hk
    have hsr := hy.args _ (List.getElem_mem hk)
    have hsc := fun st => rsource_call y.args[k] hsr (hy.kind _ (List.getElem_mem hk)) st
    have hsl := src_len hsr
    have hVn : W ++ (y.args.take k).map srcF ≠ [] := by simp [hWn]
    have hjl := jn_len (W ++ (y.args.take k).map srcF) (fun w hw => by
      rcases List.mem_append.1 hw with hw | hw
      · exact hWw w hw
      · exact srcs_w (fun s hs => hy.args s (List.mem_of_mem_take hs)) w hw)
    rw [List.length_append, List.length_map, List.length_take] at hjl
    replace hjl : (jn (W ++ (y.args.take k).map srcF)).length ≤ 101 * 40000 := Nat.le_trans hjl (Nat.mul_le_mul_left _ (by omega))
    rw [map_take srcF hk, ← List.append_assoc]
    simp only [rl0S]
    rw [jn_snoc hVn]
    generalize jn (W ++ (y.args.take k).map srcF) = j at *
    generalize srcF y.args[k] = w at *
    generalize y.args[k] = s at *
    generalize ls.map strC = R0 at *
    simp only [srcC] at hsc
    have q1 : j.length + 1 ≤ 9223372036854775807 := by omega
    have q2 : j.length ≤ 9223372036854775806 := by omega
    have q3 : j.length + 1 + w.length ≤ 9223372036854775807 := by omega
    have q4 : j.length + (w.length + 1) ≤ 9223372036854775807 := by omega
    have q5 : j.length + (1 + w.length) ≤ 9223372036854775807 := by omega
    (all_goals have := fa (a5 @nodeC.eq_1 @srcsU.eq_1 @srcC.eq_1 hk' (a5 eg q1 q2 q3 (a2 q4 q5))); repeat' first | refine Wp.v ?_ | (apply Wp.call; exact hsc _) | (refine Wp.c ?_ ?_ <;> intro))
    (have := fa @wrap_id; repeat refine Wp.f ?_)
    exact ⟨by simp [trimO, trim, formC, nodeC, srcsU, outsU], trivial⟩
  · rw [List.take_of_length_le (Nat.le_refl _)]
    simp only [rl0S]
    (have := fa (a2 @nodeC.eq_1 @srcsU.eq_1); repeat refine Wp.f ?_)
    refine Wp.i ?_ ?_ <;> intro h1
    · simp at h1
    · exact Wp.exit ⟨rfl, by simp [nodeC, srcsU]⟩
def rl1S (x : FForm) (y : FNode) (ls : List (List UInt8)) (n : Nat) (W : List (List UInt8)) (k : Nat) : S :=
  ⟨[(1, .bp 0 0), (3, .own 1 ls.length), (4, i64 n), (5, .bp 2 0), (6, .str (jn W)), (8, i64 k)], [.box (formC x), .row 9 1 false (ls.map strC), .box (nodeC y)]⟩
set_option maxHeartbeats 8000000 in
theorem rl1_loop (x : FForm) (y : FNode) (hy : NodeT y) (ls : List (List UInt8)) (n : Nat) (W : List (List UInt8)) (hWn : W ≠ []) (hW : W.length ≤ 10100) (hWw : ∀ w ∈ W, w.length ≤ 100) (R : S → Prop) :
    Wp T (.loop c_joineryref14_Lines_L1) (rl1S x y ls n W 0) (fun _ => False) R
      (fun c s' => c = 4 ∧ s' = ⟨[(1, .bp 0 0), (3, .own 1 ls.length), (4, i64 n), (5, .bp 2 0), (6, .str (jn (W ++ outW y.outs))), (8, i64 (y.outs.length : Nat)), (61, .bool false)], [.box (formC x), .row 9 1 false (ls.map strC), .box (nodeC y)]⟩) := by
  have hl := hy.olen
  rw [show rl1S x y ls n W 0 = rl1S x y ls n (W ++ outW (y.outs.take 0)) 0 by simp [outW]]
  refine Wp.count y.outs.length (fun k => rl1S x y ls n (W ++ outW (y.outs.take k)) k) (fun _ => True) (fun k hk _ => ?_) (fun _ => ?_) 0 (by omega) trivial
  · have hk' : (k : Int) < y.outs.length := by omega
    have eg : y.outs[k]? = some y.outs[k] := List.getElem?_eq_getElem hk
    have hsr := hy.outs _ (List.getElem_mem hk)
    have hsc := fun st => rto_call y.outs[k] hsr (hy.lo _ (List.getElem_mem hk)) st
    have hsl := to_len hsr
    have hVn : W ++ outW (y.outs.take k) ≠ [] := by simp [hWn]
    have hjl := jn_len (W ++ outW (y.outs.take k)) (fun w hw => by
      rcases List.mem_append.1 hw with hw | hw
      · exact hWw w hw
      · exact outs_w (fun s hs => hy.outs s (List.mem_of_mem_take hs)) w hw)
    rw [List.length_append, outW_len, List.length_take] at hjl
    replace hjl : (jn (W ++ outW (y.outs.take k))).length ≤ 101 * 40000 := Nat.le_trans hjl (Nat.mul_le_mul_left _ (by omega))
    rw [outW_take hk, ← List.append_assoc]
    simp only [rl1S]
    rw [jn_snoc2 hVn]
    generalize jn (W ++ outW (y.outs.take k)) = j at *
    generalize toF y.outs[k] = w at *
    generalize y.outs[k] = s at *
    generalize ls.map strC = R0 at *
    have q1 : j.length + 3 ≤ 9223372036854775807 := by omega
    have q2 : j.length ≤ 9223372036854775804 := by omega
    have q3 : j.length + 3 + w.length ≤ 9223372036854775807 := by omega
    have q4 : j.length + (w.length + 1 + 1 + 1) ≤ 9223372036854775807 := by omega
    have q5 : j.length + (3 + w.length) ≤ 9223372036854775807 := by omega
    have q6 : j.length + (w.length + 3) ≤ 9223372036854775807 := by omega
    (all_goals have := fa (a5 @nodeC.eq_1 @outsU.eq_1 @outC.eq_1 hk' (a5 eg q1 q2 q3 (a3 q4 q5 q6))); repeat' first | refine Wp.v ?_ | (apply Wp.call; exact hsc _) | (refine Wp.c ?_ ?_ <;> intro))
    (have := fa @wrap_id; repeat refine Wp.f ?_)
    exact ⟨by simp [trimO, trim, formC, nodeC, srcsU, outsU], trivial⟩
  · rw [List.take_of_length_le (Nat.le_refl _)]
    simp only [rl1S]
    (have := fa (a2 @nodeC.eq_1 @outsU.eq_1); repeat refine Wp.f ?_)
    refine Wp.i ?_ ?_ <;> intro h1
    · simp at h1
    · exact Wp.exit ⟨rfl, by simp [nodeC, outsU]⟩
def rl2S (x : FForm) (ls : List (List UInt8)) (n : Nat) : S := ⟨[(1, .bp 0 0), (3, .own 1 ls.length), (4, i64 n)], [.box (formC x), .row 9 1 false (ls.map strC)]⟩
set_option maxHeartbeats 16000000 in
theorem rl2_step (x : FForm) (ls : List (List UInt8)) (hls : ls.length ≤ 100000) (n : Nat) (hn : n < x.nodes.length) (hn6 : x.nodes.length ≤ 10000) (y : FNode) (eg : x.nodes[n]? = some y) (hy : NodeT y) (R : S → Prop) (B : Nat → S → Prop) :
    Wp T c_joineryref14_Lines_L2 (rl2S x ls n) (fun s' => trimO (rl2S x ls n).st.length s' = rl2S x (ls ++ [jn (nodeWords y)]) (n + 1) ∧ True) R B := by
  have hn' : (n : Int) < x.nodes.length := by omega
  have hhl := head_len y
  have hl0 := fun B => rl0_loop x y hy ls n (nodeHead y) (head_ne y) (by omega) (head_w y hy.n) B
  have hl1 := fun B => rl1_loop x y hy ls n (nodeHead y ++ y.args.map srcF) (by simp [head_ne]) (by
    rw [List.length_append, List.length_map]
    have := hy.len
    omega) (fun w hw => by
      rcases List.mem_append.1 hw with hw | hw
      · exact head_w y hy.n w hw
      · exact srcs_w hy.args w hw) B
  have hwo := fun st => rword_call y.op st
  have hwl := word_len y.op
  have htx := fun st => rtext_call y.n hy.n st
  have htl := text_len hy.n
  have hnw : nodeHead y ++ y.args.map srcF ++ outW y.outs = nodeWords y := rfl
  rw [hnw] at hl1
  have e1 := strC_snoc ls (jn (nodeWords y))
  have e2 : (ls.map strC).length = ls.length := List.length_map _
  have e3 : (ls ++ [jn (nodeWords y)]).length = ls.length + 1 := by simp
  have lim : (ls.length + 1) * 16 ≤ 140737488355328 := by omega
  simp only [rl2S, e3]
  by_cases h15 : y.op = 15
  · have hh : jn (nodeHead y) = wordF 15 ++ 32 :: textF y.n := by simp [nodeHead, h15, jn]
    simp only [rl0S, hh, formC, nodeC, h15] at hl0
    simp only [rl1S, formC, nodeC, h15] at hl1
    simp only [h15] at hwo hwl
    generalize wordF 15 = w at *
    generalize textF y.n = t at *
    generalize jn (nodeHead y ++ y.args.map srcF) = j1 at *
    generalize jn (nodeWords y) = j2 at *
    generalize (ls ++ [j2]).map strC = R1 at *
    generalize ls.map strC = R0 at *
    have q1 : w.length + 1 ≤ 9223372036854775807 := by omega
    have q2 : w.length ≤ 9223372036854775806 := by omega
    have q3 : w.length + 1 + t.length ≤ 9223372036854775807 := by omega
    have q4 : w.length + (t.length + 1) ≤ 9223372036854775807 := by omega
    have q5 : w.length + (1 + t.length) ≤ 9223372036854775807 := by omega
    (all_goals have := fa (a5 @formC.eq_1 @nodeC.eq_1 hn' eg (a5 h15 q1 q2 q3 (a2 q4 q5))); repeat' first | refine Wp.v ?_ | (apply Wp.call; exact hwo _) | (apply Wp.call; exact htx _) | (refine Wp.c ?_ ?_ <;> intro))
    refine (hl0 _).imp (fun _ h => h.elim) (fun _ h => h) ?_
    rintro c s ⟨rfl, rfl⟩
    rw [if_pos rfl]
    (repeat' first | refine Wp.u ?_ | fail | (refine Wp.c ?_ ?_ <;> intro))
    refine (hl1 _).imp (fun _ h => h.elim) (fun _ h => h) ?_
    rintro c s ⟨rfl, rfl⟩
    rw [if_pos rfl]
    (all_goals have := fa (a3 e1 e2 lim); repeat' first | refine Wp.v ?_ | fail | (refine Wp.c ?_ ?_ <;> intro))
    (have := fa @wrap_id; repeat refine Wp.f ?_)
    exact ⟨by simp [trimO, trim, formC], trivial⟩
  · have hh : jn (nodeHead y) = wordF y.op := by simp [nodeHead, h15, jn]
    simp only [rl0S, hh, formC, nodeC] at hl0
    simp only [rl1S, formC, nodeC] at hl1
    generalize wordF y.op = w at *
    generalize jn (nodeHead y ++ y.args.map srcF) = j1 at *
    generalize jn (nodeWords y) = j2 at *
    generalize (ls ++ [j2]).map strC = R1 at *
    generalize ls.map strC = R0 at *
    (all_goals have := fa (a5 @formC.eq_1 @nodeC.eq_1 hn' eg h15); repeat' first | refine Wp.v ?_ | (apply Wp.call; exact hwo _) | (refine Wp.c ?_ ?_ <;> intro))
    refine (hl0 _).imp (fun _ h => h.elim) (fun _ h => h) ?_
    rintro c s ⟨rfl, rfl⟩
    rw [if_pos rfl]
    (repeat' first | refine Wp.u ?_ | fail | (refine Wp.c ?_ ?_ <;> intro))
    refine (hl1 _).imp (fun _ h => h.elim) (fun _ h => h) ?_
    rintro c s ⟨rfl, rfl⟩
    rw [if_pos rfl]
    (all_goals have := fa (a3 e1 e2 lim); repeat' first | refine Wp.v ?_ | fail | (refine Wp.c ?_ ?_ <;> intro))
    (have := fa @wrap_id; repeat refine Wp.f ?_)
    exact ⟨by simp [trimO, trim, formC], trivial⟩
end Go.Proofs.YtbcojbmalcghbaaDoor.M2
namespace Go.Proofs.YtbcojbmalcghbaaDoor.M2
open Go
attribute [local simp] ev1 M2.get put A.ev ld sub part elems bin arith un opt idx fillC cellsO splice over newOb sto fillR laidOwn appTo appRow touch touchN touchM touchE touchA plainU flatU plainAs allM rowAt stoRow accM_nil accM_cons accMM_nil accMM_cons frz_int frz_bool frz_str frz_slt frz_nils frz_nilI frz_nilF frz_own frzRow_row frzRow_frow Ob.blw blw_bool blw_int blw_str blw_nils blw_nilI blw_nilF blw_nilp blw_nilm blw_sl blw_own blw_bp blw_rp blw_mp blw_it params
attribute [local simp] frz_agg frz_tup frz_iface frzS_agg frzS_iface accMS_cons frzS_int frzS_bool frzS_str frzS_slt frzS_nils frzS_nilI beq_dec bne_dec
theorem rl2_loop (x : FForm) (hx : FormT x) (ls : List (List UInt8)) (hls : ls.length ≤ 10) (R : S → Prop) :
    Wp T (.loop c_joineryref14_Lines_L2) (rl2S x ls 0) (fun _ => False) R
      (fun c s' => c = 0 ∧ s' = ⟨[(1, .bp 0 0), (3, .own 1 (ls ++ x.nodes.map (fun y => jn (nodeWords y))).length), (4, i64 (x.nodes.length : Nat)), (21, .bool false)], [.box (formC x), .row 9 1 false ((ls ++ x.nodes.map (fun y => jn (nodeWords y))).map strC)]⟩) := by
  rw [show rl2S x ls 0 = rl2S x (ls ++ (x.nodes.take 0).map (fun y => jn (nodeWords y))) 0 by simp]
  refine Wp.count x.nodes.length (fun k => rl2S x (ls ++ (x.nodes.take k).map (fun y => jn (nodeWords y))) k) (fun _ => True) (fun k hk _ => ?_) (fun _ => ?_) 0 (by omega) trivial
  · rw [map_take (fun y => jn (nodeWords y)) hk, ← List.append_assoc]
    refine rl2_step x _ ?_ k hk hx.nlen x.nodes[k] (List.getElem?_eq_getElem hk) (hx.nodes _ (List.getElem_mem hk)) R _
    have := hx.nlen
    rw [List.length_append, List.length_map, List.length_take]
    omega
  · rw [List.take_of_length_le (Nat.le_refl _)]
    simp only [rl2S]
    (have := fa @formC.eq_1; repeat refine Wp.f ?_)
    refine Wp.i ?_ ?_ <;> intro h1
    · simp at h1
    · exact Wp.exit ⟨rfl, by simp [formC]⟩
def rl3S (x : FForm) (ls : List (List UInt8)) (n : Nat) (W : List (List UInt8)) (k : Nat) : S :=
  ⟨[(1, .bp 0 0), (3, .own 1 ls.length), (9, i64 n), (10, .str (jn W)), (11, i64 k)], [.box (formC x), .row 9 1 false (ls.map strC)]⟩
set_option maxHeartbeats 8000000 in
theorem rl3_loop (x : FForm) (v : FVal) (hy : ValT v) (ls : List (List UInt8)) (n : Nat) (hn : n < x.vals.length) (ev : x.vals[n]? = some v) (R : S → Prop) :
    Wp T (.loop c_joineryref14_Lines_L3) (rl3S x ls n (valHead v) 0) (fun _ => False) R
      (fun c s' => c = 8 ∧ s' = ⟨[(1, .bp 0 0), (3, .own 1 ls.length), (9, i64 n), (10, .str (jn (valWords v))), (11, i64 (v.src.length : Nat)), (100, .bool false)], [.box (formC x), .row 9 1 false (ls.map strC)]⟩) := by
  have hn' : (n : Int) < x.vals.length := by omega
  have hl := hy.len
  rw [show rl3S x ls n (valHead v) 0 = rl3S x ls n (valHead v ++ (v.src.take 0).map srcF) 0 by simp]
  refine Wp.count v.src.length (fun k => rl3S x ls n (valHead v ++ (v.src.take k).map srcF) k) (fun _ => True) (fun k hk _ => ?_) (fun _ => ?_) 0 (by omega) trivial
  · have hk' : (k : Int) < v.src.length := by omega
    have eg : v.src[k]? = some v.src[k] := List.getElem?_eq_getElem hk
    have hsr := hy.src _ (List.getElem_mem hk)
    have hsc := fun st => rsource_call v.src[k] hsr (hy.kind _ (List.getElem_mem hk)) st
    have hsl := src_len hsr
    have hVn : valHead v ++ (v.src.take k).map srcF ≠ [] := by simp [valHead]
    have hjl := jn_len (valHead v ++ (v.src.take k).map srcF) (fun w hw => by
      refine val_w hy w ?_
      unfold valWords
      rcases List.mem_append.1 hw with hw | hw
      · exact List.mem_append_left _ hw
      · obtain ⟨s, hs, rfl⟩ := List.mem_map.1 hw
        exact List.mem_append_right _ (List.mem_map_of_mem (List.mem_of_mem_take hs)))
    rw [List.length_append, List.length_map, List.length_take] at hjl
    replace hjl : (jn (valHead v ++ (v.src.take k).map srcF)).length ≤ 101 * 40000 := Nat.le_trans hjl (Nat.mul_le_mul_left _ (by simp only [valHead, List.length_cons, List.length_nil]; omega))
    rw [map_take srcF hk, ← List.append_assoc]
    simp only [rl3S]
    rw [jn_snoc hVn]
    generalize jn (valHead v ++ (v.src.take k).map srcF) = j at *
    generalize srcF v.src[k] = w at *
    generalize v.src[k] = s at *
    generalize ls.map strC = R0 at *
    simp only [srcC] at hsc
    have q1 : j.length + 1 ≤ 9223372036854775807 := by omega
    have q2 : j.length ≤ 9223372036854775806 := by omega
    have q3 : j.length + 1 + w.length ≤ 9223372036854775807 := by omega
    have q4 : j.length + (w.length + 1) ≤ 9223372036854775807 := by omega
    have q5 : j.length + (1 + w.length) ≤ 9223372036854775807 := by omega
    (repeat' first | refine Wp.t ?_ | ((first | apply Wp.op | apply Wp.opN); (apply Evt.all; intro; (simp [formC, valC, srcsU, srcC, hn', ev, hk', eg, q1, q2, q3, q4, q5]) <;> (try simp (disch := omega) only [wrap_id]) <;> first | exact ⟨rfl, rfl⟩ | exact rfl)) | (apply Wp.call; exact hsc _) | (refine Wp.c ?_ ?_ <;> intro))
    (have := fa @wrap_id; repeat refine Wp.f ?_)
    exact ⟨by simp [trimO, trim, formC], trivial⟩
  · rw [List.take_of_length_le (Nat.le_refl _)]
    simp only [rl3S]
    repeat first | refine Wp.s ?_ | ((first | apply Wp.op | apply Wp.opN | (apply Wp.opG; exact rfl)); (apply Evt.all; intro; (simp [formC, valC, srcsU, hn', ev]) <;> (try simp (disch := omega) only [wrap_id]) <;> first | exact ⟨rfl, rfl⟩ | exact rfl))
    refine Wp.i ?_ ?_ <;> intro h1
    · simp at h1
    · exact Wp.exit ⟨rfl, by simp [formC, valWords]⟩
def rl4S (x : FForm) (ls : List (List UInt8)) (n : Nat) : S := ⟨[(1, .bp 0 0), (3, .own 1 ls.length), (9, i64 n)], [.box (formC x), .row 9 1 false (ls.map strC)]⟩
set_option maxHeartbeats 16000000 in
theorem rl4_step (x : FForm) (ls : List (List UInt8)) (hls : ls.length ≤ 100000) (n : Nat) (hn : n < x.vals.length) (hn6 : x.vals.length ≤ 10000) (v : FVal) (ev : x.vals[n]? = some v) (hy : ValT v) (R : S → Prop) (B : Nat → S → Prop) :
    Wp T c_joineryref14_Lines_L4 (rl4S x ls n) (fun s' => trimO (rl4S x ls n).st.length s' = rl4S x (ls ++ [jn (valWords v)]) (n + 1) ∧ True) R B := by
  have hn' : (n : Int) < x.vals.length := by omega
  have hl0 := fun B => rl3_loop x v hy ls n hn ev B
  have htx := fun st => rto_call v.pos hy.pos hy.lo st
  have htl := to_len hy.pos
  have e1 := strC_snoc ls (jn (valWords v))
  have e2 : (ls.map strC).length = ls.length := List.length_map _
  have e3 : (ls ++ [jn (valWords v)]).length = ls.length + 1 := by simp
  have lim : (ls.length + 1) * 16 ≤ 140737488355328 := by omega
  have hh : jn (valHead v) = 118 :: 97 :: 108 :: 117 :: 101 :: 32 :: toF v.pos := by simp [valHead, jn]
  simp only [rl3S, hh, formC] at hl0
  simp only [rl4S, e3]
  generalize toF v.pos = t at *
  generalize jn (valWords v) = j2 at *
  generalize (ls ++ [j2]).map strC = R1 at *
  generalize ls.map strC = R0 at *
  have q1 : 6 + t.length ≤ 9223372036854775807 := by omega
  have q2 : t.length ≤ 9223372036854775801 := by omega
  have q3 : t.length + 6 ≤ 9223372036854775807 := by omega
  (repeat' first | refine Wp.t ?_ | ((first | apply Wp.op | apply Wp.opN); (apply Evt.all; intro; (simp [formC, valC, hn', ev, q1, q2, q3]) <;> (try simp (disch := omega) only [wrap_id]) <;> first | exact ⟨rfl, rfl⟩ | exact rfl)) | (apply Wp.call; exact htx _) | (refine Wp.c ?_ ?_ <;> intro))
  refine (hl0 _).imp (fun _ h => h.elim) (fun _ h => h) ?_
  rintro c s ⟨rfl, rfl⟩
  rw [if_pos rfl]
  (all_goals have := fa (a3 e1 e2 lim); repeat' first | refine Wp.v ?_ | fail | (refine Wp.c ?_ ?_ <;> intro))
  (have := fa @wrap_id; repeat refine Wp.f ?_)
  exact ⟨by simp [trimO, trim, formC], trivial⟩
theorem rl4_loop (x : FForm) (hx : FormT x) (ls : List (List UInt8)) (hls : ls.length ≤ 20000) (R : S → Prop) :
    Wp T (.loop c_joineryref14_Lines_L4) (rl4S x ls 0) (fun _ => False) R
      (fun c s' => c = 6 ∧ s' = ⟨[(1, .bp 0 0), (3, .own 1 (ls ++ x.vals.map (fun v => jn (valWords v))).length), (9, i64 (x.vals.length : Nat)), (81, .bool false)], [.box (formC x), .row 9 1 false ((ls ++ x.vals.map (fun v => jn (valWords v))).map strC)]⟩) := by
  rw [show rl4S x ls 0 = rl4S x (ls ++ (x.vals.take 0).map (fun y => jn (valWords y))) 0 by simp]
  refine Wp.count x.vals.length (fun k => rl4S x (ls ++ (x.vals.take k).map (fun y => jn (valWords y))) k) (fun _ => True) (fun k hk _ => ?_) (fun _ => ?_) 0 (by omega) trivial
  · rw [map_take (fun y => jn (valWords y)) hk, ← List.append_assoc]
    refine rl4_step x _ ?_ k hk hx.vlen x.vals[k] (List.getElem?_eq_getElem hk) (hx.vals _ (List.getElem_mem hk)) R _
    have := hx.vlen
    rw [List.length_append, List.length_map, List.length_take]
    omega
  · rw [List.take_of_length_le (Nat.le_refl _)]
    simp only [rl4S]
    (have := fa @formC.eq_1; repeat refine Wp.f ?_)
    refine Wp.i ?_ ?_ <;> intro h1
    · simp at h1
    · exact Wp.exit ⟨rfl, by simp [formC]⟩
theorem lines_eq (x : FForm) : linesF x = [jn (entWords x)] ++ x.nodes.map (fun y => jn (nodeWords y)) ++ x.vals.map (fun v => jn (valWords v)) := rfl
set_option maxHeartbeats 16000000 in
theorem rlines_call (x : FForm) (hx : FormT x) (st : List Ob) : Cl T n_joineryref14_Lines [formU x] st (wordsU true (linesF x)) st := by
  show Cl T n_joineryref14_Lines [formU x] st (.sl true ((linesF x).map strC)) st
  refine Wp.pure (fn := c_joineryref14_Lines) rfl rfl rfl («as» := [formU x]) rfl ?_
  have hto := fun st => rto_call x.entry hx.ent hx.elo st
  have htl := to_len hx.ent
  have he : jn (entWords x) = 101 :: 110 :: 116 :: 114 :: 121 :: 32 :: toF x.entry := by simp [entWords, jn]
  have hl2 := fun B => rl2_loop x hx [jn (entWords x)] (by simp) B
  have hl4 := fun B => rl4_loop x hx ([jn (entWords x)] ++ x.nodes.map (fun y => jn (nodeWords y))) (by
    have := hx.nlen
    rw [List.length_append, List.length_map]
    simp only [List.length_cons, List.length_nil]
    omega) B
  rw [lines_eq]
  generalize hA : [jn (entWords x)] ++ x.nodes.map (fun y => jn (nodeWords y)) = A at *
  generalize hB : A ++ x.vals.map (fun v => jn (valWords v)) = B at *
  have e1 : ([jn (entWords x)]).map strC = [[.str (jn (entWords x))]] := rfl
  simp only [rl2S, e1, he, formC, List.length_cons, List.length_nil, Nat.zero_add] at hl2
  simp only [rl4S, formC] at hl4
  have eB : (B.map strC).length = B.length := List.length_map _
  generalize toF x.entry = t at *
  generalize B.map strC = RB at *
  generalize A.map strC = RA at *
  have q1 : 6 + t.length ≤ 9223372036854775807 := by omega
  have q2 : t.length ≤ 9223372036854775801 := by omega
  have q3 : t.length + 6 ≤ 9223372036854775807 := by omega
  (all_goals have := fa (a4 @formC.eq_1 q1 q2 q3); repeat' first | refine Wp.v ?_ | (apply Wp.call; exact hto _) | (refine Wp.c ?_ ?_ <;> intro))
  refine (hl2 _).imp (fun _ h => h.elim) (fun _ h => h) ?_
  rintro c s ⟨rfl, rfl⟩
  rw [if_pos rfl]
  (repeat' first | refine Wp.u ?_ | fail | (refine Wp.c ?_ ?_ <;> intro))
  refine (hl4 _).imp (fun _ h => h.elim) (fun _ h => h) ?_
  rintro c s ⟨rfl, rfl⟩
  rw [if_pos rfl]
  (repeat' first | refine Wp.u ?_ | fail | (refine Wp.c ?_ ?_ <;> intro))
  refine Wp.ret ?_; simp [Res, resU, res1, c_joineryref14_Lines, eB]
theorem lines_w {x : FForm} (hx : FormT x) : ∀ l ∈ linesF x, l.length ≤ 4999999 := by
  intro l hl
  have key : ∀ {ws : List (List UInt8)}, (∀ w ∈ ws, w.length ≤ 100) → ws.length ≤ 39000 → (jn ws).length ≤ 4999999 := fun h1 h2 => by
    have := line_len h1 h2
    simp only [lineF, List.length_append, List.length_cons, List.length_nil] at this
    omega
  rw [lines_eq] at hl
  rcases List.mem_append.1 hl with hl | hl
  · rcases List.mem_append.1 hl with hl | hl
    · rw [List.mem_singleton.1 hl]
      exact key (ent_w hx.ent) (by simp [entWords])
    · obtain ⟨y, hy, rfl⟩ := List.mem_map.1 hl
      exact key (node_w (hx.nodes y hy)) (by have := node_n (hx.nodes y hy); omega)
  · obtain ⟨y, hy, rfl⟩ := List.mem_map.1 hl
    exact key (val_w (hx.vals y hy)) (by have := val_n (hx.vals y hy); omega)
theorem lines_n {x : FForm} (hx : FormT x) : (linesF x).length ≤ 20001 := by
  have := hx.nlen
  have := hx.vlen
  rw [lines_eq]
  simp only [List.length_append, List.length_map, List.length_cons, List.length_nil]
  omega
def rp0S (X : List Ob) (ls : List (List UInt8)) (t : List UInt8) (k : Nat) : S := ⟨[(3, wordsU true ls), (4, .str t), (5, i64 k)], X⟩
set_option maxHeartbeats 8000000 in
theorem rp0_loop (X : List Ob) (ls : List (List UInt8)) (hn : ls.length ≤ 30000) (hw : ∀ l ∈ ls, l.length ≤ 4999999) (R : S → Prop) :
    Wp T (.loop c_joineryref14_Print_L0) (rp0S X ls [] 0) (fun _ => False) R (fun c s' => c = 0 ∧ s' = ⟨[(3, wordsU true ls), (4, .str (ls.flatMap endL)), (5, i64 (ls.length : Nat)), (11, .bool false)], X⟩) := by
  rw [show rp0S X ls [] 0 = rp0S X ls ((ls.take 0).flatMap endL) 0 by simp]
  refine Wp.count ls.length (fun k => rp0S X ls ((ls.take k).flatMap endL) k) (fun _ => True) (fun k hk _ => ?_) (fun _ => ?_) 0 (by omega) trivial
  · have hk' : (k : Int) < ls.length := by omega
    have eg : ls[k]? = some ls[k] := List.getElem?_eq_getElem hk
    have hwl := hw _ (List.getElem_mem hk)
    have hl := flat_len (f := endL) (b := 5000000) (l := ls.take k) (fun y hy => by
      have := hw y (List.mem_of_mem_take hy)
      simp only [endL, List.length_append, List.length_cons, List.length_nil]
      omega)
    have h2 : (ls.take k).length ≤ 30000 := by rw [List.length_take]; omega
    have h3 : (ls.take k).length * 5000000 ≤ 30000 * 5000000 := Nat.mul_le_mul_right _ h2
    have e1 : (ls.take (k + 1)).flatMap endL = (ls.take k).flatMap endL ++ (ls[k] ++ [10]) := by
      rw [List.take_succ_eq_append_getElem hk, List.flatMap_append]
      simp [endL]
    rw [e1]
    simp only [rp0S]
    generalize (ls.take k).flatMap endL = j at *
    generalize ls[k] = w at *
    have q1 : j.length + w.length ≤ 9223372036854775807 := by omega
    have q2 : j.length + w.length + 1 ≤ 9223372036854775807 := by omega
    have q3 : j.length + w.length ≤ 9223372036854775806 := by omega
    have q4 : j.length + (w.length + 1) ≤ 9223372036854775807 := by omega
    (all_goals have := fa (a5 @strC.eq_1 hk' eg q1 (a3 q2 q3 q4)); repeat' first | refine Wp.v ?_ | fail | (refine Wp.c ?_ ?_ <;> intro))
    (have := fa @wrap_id; repeat refine Wp.f ?_)
    exact ⟨trimO_len rfl, trivial⟩
  · rw [List.take_of_length_le (Nat.le_refl _)]
    simp only [rp0S]
    repeat refine Wp.a ?_
    refine Wp.i ?_ ?_ <;> intro h1
    · simp at h1
    · exact Wp.exit ⟨rfl, rfl⟩
set_option maxHeartbeats 8000000 in
theorem rprint_call (x : FForm) (hx : FormT x) (st : List Ob) : Cl T n_joineryref14_Print [formU x] st (.str (printF x)) st := by
  refine Wp.pure (fn := c_joineryref14_Print) rfl rfl rfl («as» := [formU x]) rfl ?_
  have hli := fun st => rlines_call x hx st
  have hl0 := fun B => rp0_loop [.box (formC x)] (linesF x) (by have := lines_n hx; omega) (lines_w hx) B
  unfold printF
  generalize linesF x = ls at *
  simp only [rp0S, formC] at hl0
  (all_goals have := fa @formC.eq_1; repeat' first | refine Wp.v ?_ | (apply Wp.call; exact hli _) | (refine Wp.c ?_ ?_ <;> intro))
  refine (hl0 _).imp (fun _ h => h.elim) (fun _ h => h) ?_
  rintro c s ⟨rfl, rfl⟩
  rw [if_pos rfl]
  (repeat' first | refine Wp.u ?_ | fail | (refine Wp.c ?_ ?_ <;> intro))
  refine Wp.ret ?_; simp [Res, resU, res1, c_joineryref14_Print]
end Go.Proofs.YtbcojbmalcghbaaDoor.M2
