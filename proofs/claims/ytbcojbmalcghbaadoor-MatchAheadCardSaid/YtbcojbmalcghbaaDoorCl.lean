/- What the functions answer in M2: are two forms alike? (the document's, whole) -/
import Derived.Test.YtbcojbmalcghbaaDoorCk
import Derived.Test.YtbcojbmalcghbaaDoorCg
set_option linter.unusedSimpArgs false
set_option linter.unusedVariables false
set_option linter.unusedSectionVars false
namespace Go.Proofs.YtbcojbmalcghbaaDoor.M2
open Go
def WordOK (w : List UInt8) : Prop := w ≠ [] ∧ ∀ c ∈ w, c ≠ 32 ∧ c ≠ 10
def Dgt (c : UInt8) : Prop := 48 ≤ c.toNat ∧ c.toNat ≤ 57
theorem byt_toNat {r : Nat} (h : r < 10) : (byt r).toNat = 48 + r := by
  unfold byt
  rw [UInt8.toNat_ofNat']
  omega
theorem dig_dgt : ∀ (m : Nat), ∀ c ∈ dig m, Dgt c := by
  intro m
  induction m using Nat.strongRecOn with
  | _ m ih =>
  intro c hc
  have hb : Dgt (byt (m % 10)) := by
    unfold Dgt
    rw [byt_toNat (by omega)]
    omega
  by_cases h : m < 10
  · rw [dig_small h, List.mem_singleton] at hc
    rw [hc]
    exact hb
  · rw [dig_big h] at hc
    rcases List.mem_append.1 hc with hc | hc
    · exact ih _ (by omega) c hc
    · rw [List.mem_singleton.1 hc]
      exact hb
theorem dig_ne (m : Nat) : dig m ≠ [] := by
  by_cases h : m < 10
  · rw [dig_small h]; simp
  · rw [dig_big h]; simp
def digN (l : List UInt8) : Nat := l.foldl (fun a c => a * 10 + (c.toNat - 48)) 0
theorem val_dig (m : Nat) : digN (dig m) = m := by
  induction m using Nat.strongRecOn with
  | _ m ih =>
  by_cases h : m < 10
  · rw [dig_small h]
    simp only [digN, List.foldl_cons, List.foldl_nil, byt_toNat (show m % 10 < 10 by omega)]
    omega
  · rw [dig_big h]
    unfold digN
    rw [List.foldl_append]
    have := ih (m / 10) (by omega)
    unfold digN at this
    rw [this]
    simp only [List.foldl_cons, List.foldl_nil, byt_toNat (show m % 10 < 10 by omega)]
    omega
theorem dig_inj {m n : Nat} (h : dig m = dig n) : m = n := by rw [← val_dig m, h, val_dig]
theorem dgt_plain {c : UInt8} (h : Dgt c) : c ≠ 32 ∧ c ≠ 10 ∧ c ≠ 45 := by
  unfold Dgt at h
  refine ⟨?_, ?_, ?_⟩ <;> rintro rfl <;> revert h <;> decide
theorem dig_45 (m : Nat) (r : List UInt8) : dig m ≠ 45 :: r := fun h => (dgt_plain (dig_dgt m 45 (by rw [h]; simp))).2.2 rfl
theorem dig_plain (m : Nat) : WordOK (dig m) := ⟨dig_ne m, fun c hc => ⟨(dgt_plain (dig_dgt m c hc)).1, (dgt_plain (dig_dgt m c hc)).2.1⟩⟩
theorem plain_cons {c : UInt8} (hc : c ≠ 32 ∧ c ≠ 10) {w : List UInt8} (h : ∀ c ∈ w, c ≠ 32 ∧ c ≠ 10) : WordOK (c :: w) := ⟨by simp, fun d hd => by
  rcases List.mem_cons.1 hd with rfl | hd
  · exact hc
  · exact h d hd⟩
theorem text_plain (n : Int) : WordOK (textF n) := by
  unfold textF
  split
  · exact plain_cons (by decide) (dig_plain _).2
  · exact dig_plain _
theorem text_inj {n m : Int} (h : textF n = textF m) : n = m := by
  unfold textF at h
  split at h
  · split at h
    · injection h with _ h
      have := dig_inj h
      omega
    · exact absurd h.symm (dig_45 _ _)
  · split at h
    · exact absurd h (dig_45 _ _)
    · have := dig_inj h
      omega
theorem to_plain (n : Int) : WordOK (toF n) := by
  unfold toF
  split
  · exact plain_cons (by decide) (by simp)
  · exact text_plain n
theorem to_inj {n m : Int} (hn : -1 ≤ n) (hm : -1 ≤ m) (h : toF n = toF m) : n = m := by
  unfold toF at h
  split at h
  · split at h
    · omega
    · unfold textF at h
      rw [if_neg (by assumption)] at h
      exact absurd h.symm (dig_45 _ _)
  · split at h
    · unfold textF at h
      rw [if_neg (by assumption)] at h
      exact absurd h (dig_45 _ _)
    · exact text_inj h
theorem src_plain (s : Int × Int) : WordOK (srcF s) := by
  unfold srcF
  repeat' split
  · exact ⟨by decide, by decide⟩
  · exact plain_cons (by decide) (text_plain _).2
  · exact plain_cons (by decide) (text_plain _).2
  · exact ⟨by decide, by decide⟩
  · exact plain_cons (by decide) (text_plain _).2
def SrcK (s : Int × Int) : Prop := 0 ≤ s.1 ∧ s.1 ≤ 4 ∧ (s.1 = 0 ∨ s.1 = 3 → s.2 = 0)
theorem src_inj {s t : Int × Int} (hs : SrcK s) (ht : SrcK t) (h : srcF s = srcF t) : s = t := by
  obtain ⟨a, b⟩ := s
  obtain ⟨c, d⟩ := t
  obtain ⟨s1, s2, s3⟩ := hs
  obtain ⟨t1, t2, t3⟩ := ht
  simp only at s1 s2 s3 t1 t2 t3
  have ha : a = 0 ∨ a = 1 ∨ a = 2 ∨ a = 3 ∨ a = 4 := by omega
  have hc : c = 0 ∨ c = 1 ∨ c = 2 ∨ c = 3 ∨ c = 4 := by omega
  rcases ha with rfl | rfl | rfl | rfl | rfl <;> rcases hc with rfl | rfl | rfl | rfl | rfl <;> simp [srcF] at h
  · rw [s3 (.inl rfl), t3 (.inl rfl)]
  · rw [text_inj h]
  · rw [text_inj h]
  · rw [s3 (.inr rfl), t3 (.inr rfl)]
  · rw [text_inj h]
/-! Parting lines into words, a text into lines. -/
theorem split_at {q : UInt8} : ∀ {v w r s : List UInt8}, (∀ c ∈ v, c ≠ q) → (∀ c ∈ w, c ≠ q) → (r = [] ∨ r.head? = some q) → (s = [] ∨ s.head? = some q) → v ++ r = w ++ s → v = w ∧ r = s
  | [], [], _, _, _, _, _, _, h => ⟨rfl, h⟩
  | [], b :: w, r, s, _, hw, hr, _, h => by
    rcases hr with rfl | hr
    · cases h
    · rw [List.nil_append] at h
      rw [h] at hr
      injection hr with hr
      exact absurd hr (hw b (by simp))
  | a :: v, [], r, s, hv, _, _, hs, h => by
    rcases hs with rfl | hs
    · cases h
    · rw [List.nil_append] at h
      rw [← h] at hs
      injection hs with hs
      exact absurd hs (hv a (by simp))
  | a :: v, b :: w, r, s, hv, hw, hr, hs, h => by
    rw [List.cons_append, List.cons_append] at h
    injection h with h1 h2
    obtain ⟨e1, e2⟩ := split_at (fun c hc => hv c (by simp [hc])) (fun c hc => hw c (by simp [hc])) hr hs h2
    exact ⟨by rw [h1, e1], e2⟩
theorem flat_head (vs : List (List UInt8)) : vs.flatMap (fun w => 32 :: w) = [] ∨ (vs.flatMap (fun w => 32 :: w)).head? = some 32 := by
  cases vs with
  | nil => exact .inl rfl
  | cons v vs => exact .inr rfl
theorem flat_inj : ∀ {vs ws : List (List UInt8)}, (∀ w ∈ vs, WordOK w) → (∀ w ∈ ws, WordOK w) → vs.flatMap (fun w => 32 :: w) = ws.flatMap (fun w => 32 :: w) → vs = ws
  | [], [], _, _, _ => rfl
  | [], _ :: _, _, _, h => by simp at h
  | _ :: _, [], _, _, h => by simp at h
  | v :: vs, w :: ws, hv, hw, h => by
    rw [List.flatMap_cons, List.flatMap_cons, List.cons_append, List.cons_append] at h
    injection h with _ h
    obtain ⟨e1, e2⟩ := split_at (fun c hc => ((hv v (by simp)).2 c hc).1) (fun c hc => ((hw w (by simp)).2 c hc).1) (flat_head vs) (flat_head ws) h
    rw [e1, flat_inj (fun x hx => hv x (by simp [hx])) (fun x hx => hw x (by simp [hx])) e2]
theorem jn_inj {vs ws : List (List UInt8)} (hv : ∀ w ∈ vs, WordOK w) (hw : ∀ w ∈ ws, WordOK w) (nv : vs ≠ []) (nw : ws ≠ []) (h : jn vs = jn ws) : vs = ws := by
  obtain ⟨v, vs, rfl⟩ := List.exists_cons_of_ne_nil nv
  obtain ⟨w, ws, rfl⟩ := List.exists_cons_of_ne_nil nw
  refine flat_inj hv hw ?_
  rw [jn_cons, jn_cons] at h
  rw [List.flatMap_cons, List.flatMap_cons, List.cons_append, List.cons_append, h]
theorem jn_line {vs : List (List UInt8)} (hv : ∀ w ∈ vs, WordOK w) (nv : vs ≠ []) : jn vs ≠ [] ∧ ∀ c ∈ jn vs, c ≠ 10 := by
  obtain ⟨v, vs, rfl⟩ := List.exists_cons_of_ne_nil nv
  rw [jn_cons]
  refine ⟨fun h => (hv v (by simp)).1 (List.append_eq_nil_iff.1 h).1, fun c hc => ?_⟩
  rcases List.mem_append.1 hc with hc | hc
  · exact ((hv v (by simp)).2 c hc).2
  · obtain ⟨w, hw, hc⟩ := List.mem_flatMap.1 hc
    rcases List.mem_cons.1 hc with rfl | hc
    · decide
    · exact ((hv w (by simp [hw])).2 c hc).2
theorem end_inj : ∀ {vs ws : List (List UInt8)}, (∀ w ∈ vs, ∀ c ∈ w, c ≠ 10) → (∀ w ∈ ws, ∀ c ∈ w, c ≠ 10) → vs.flatMap endL = ws.flatMap endL → vs = ws
  | [], [], _, _, _ => rfl
  | [], _ :: _, _, _, h => by simp [endL] at h
  | _ :: _, [], _, _, h => by simp [endL] at h
  | v :: vs, w :: ws, hv, hw, h => by
    rw [List.flatMap_cons, List.flatMap_cons] at h
    unfold endL at h
    rw [List.append_assoc, List.append_assoc] at h
    obtain ⟨e1, e2⟩ := split_at (q := 10) (hv v (by simp)) (hw w (by simp)) (.inr rfl) (.inr rfl) h
    injection e2 with _ e2
    rw [e1, end_inj (fun x hx => hv x (by simp [hx])) (fun x hx => hw x (by simp [hx])) e2]
theorem map_inj {α β : Type} {f : α → β} : ∀ {l m : List α}, (∀ a ∈ l, ∀ b ∈ m, f a = f b → a = b) → l.map f = m.map f → l = m
  | [], [], _, _ => rfl
  | [], _ :: _, _, h => by simp at h
  | _ :: _, [], _, h => by simp at h
  | a :: l, b :: m, hf, h => by
    rw [List.map_cons, List.map_cons] at h
    injection h with h1 h2
    rw [hf a (by simp) b (by simp) h1, map_inj (fun x hx y hy => hf x (by simp [hx]) y (by simp [hy])) h2]
theorem app_split {α : Type} : ∀ {a a' b b' : List α}, (∀ x ∈ a, ∀ y ∈ b', x ≠ y) → (∀ x ∈ a', ∀ y ∈ b, x ≠ y) → a ++ b = a' ++ b' → a = a' ∧ b = b'
  | [], [], _, _, _, _, h => ⟨rfl, h⟩
  | [], x :: a', b, b', _, h2, h => by
    rw [List.nil_append] at h
    exact absurd rfl (h2 x (by simp) x (by rw [h]; simp))
  | x :: a, [], b, b', h1, _, h => by
    rw [List.nil_append] at h
    exact absurd rfl (h1 x (by simp) x (by rw [← h]; simp))
  | x :: a, y :: a', b, b', h1, h2, h => by
    rw [List.cons_append, List.cons_append] at h
    injection h with e1 e2
    obtain ⟨k1, k2⟩ := app_split (fun u hu => h1 u (by simp [hu])) (fun u hu => h2 u (by simp [hu])) e2
    exact ⟨by rw [e1, k1], k2⟩
theorem word_plain {op : Int} (h : opOk op = true) : WordOK (wordF op) := by
  refine ⟨word_some h, ?_⟩
  rcases op_cases h with rfl | rfl | rfl | rfl | rfl | rfl | rfl | rfl | rfl | rfl | rfl | rfl | rfl | rfl | rfl
  all_goals decide
theorem word_value {op : Int} (h : opOk op = true) : wordF op ≠ [118, 97, 108, 117, 101] := by
  rcases op_cases h with rfl | rfl | rfl | rfl | rfl | rfl | rfl | rfl | rfl | rfl | rfl | rfl | rfl | rfl | rfl
  all_goals decide
def opOf (w : List UInt8) : Int := ((opWords.idxOf w : Nat) : Int)
theorem word_inj {a b : Int} (ha : opOk a = true) (hb : opOk b = true) (h : wordF a = wordF b) : a = b := by
  have key : ∀ c, opOk c = true → opOf (wordF c) = c := fun c hc => by
    rcases op_cases hc with rfl | rfl | rfl | rfl | rfl | rfl | rfl | rfl | rfl | rfl | rfl | rfl | rfl | rfl | rfl
    all_goals decide
  rw [← key a ha, h, key b hb]
structure NodeK (y : FNode) : Prop where
  op : opOk y.op = true
  n : y.n = 0 ∨ y.op = 15
  args : ∀ s ∈ y.args, SrcK s
  outs : ∀ o ∈ y.outs, -1 ≤ o
  alen : y.args.length = argsF y.op
  olen : y.outs.length = outsF y.op
structure ValK (v : FVal) : Prop where
  src : ∀ s ∈ v.src, SrcK s
  pos : -1 ≤ v.pos
structure FormK (x : FForm) : Prop where
  ent : -1 ≤ x.entry
  nodes : ∀ y ∈ x.nodes, NodeK y
  vals : ∀ v ∈ x.vals, ValK v
theorem right_k {x : FForm} (h : rightF x = true) : FormK x := by
  simp only [rightF, Bool.and_eq_true, decide_eq_true_eq, List.all_eq_true] at h
  obtain ⟨⟨⟨h1, h2⟩, h3⟩, h4⟩ := h
  refine ⟨h1, fun y hy => ?_, fun v hv => ?_⟩
  · obtain ⟨i, hi, e⟩ := List.mem_iff_getElem.1 hy
    have := h3 (y, i) (List.mem_zipIdx_iff_getElem?.2 (by simp [← e, hi]))
    simp only [nodeF, Bool.and_eq_true, Bool.or_eq_true, decide_eq_true_eq, List.all_eq_true] at this
    obtain ⟨⟨⟨⟨⟨⟨⟨k1, k2⟩, k3⟩, k4⟩, k5⟩, k6⟩, k7⟩, k8⟩ := this
    refine ⟨k1, k6, fun s hs => ?_, fun o ho => ?_, k2, k3⟩
    · have := k7 s hs
      simp only [argOk, valF, Bool.or_eq_true, Bool.and_eq_true, decide_eq_true_eq] at this
      unfold SrcK
      omega
    · have := k8 o ho
      simp only [outOk, Bool.and_eq_true, decide_eq_true_eq] at this
      exact this.1
  · have := h4 v hv
    simp only [valOk, Bool.and_eq_true, decide_eq_true_eq, List.all_eq_true] at this
    obtain ⟨⟨⟨k1, k2⟩, k3⟩, k4⟩ := this
    refine ⟨fun s hs => ?_, by omega⟩
    obtain ⟨i, hi, e⟩ := List.mem_iff_getElem.1 hs
    have hm : (s, (waysF x v.pos)[i]'(by omega)) ∈ v.src.zip (waysF x v.pos) := by
      rw [List.mem_iff_getElem]
      exact ⟨i, by rw [List.length_zip]; omega, by rw [List.getElem_zip, e]⟩
    have := k4 _ hm
    unfold comesF at this
    unfold SrcK
    simp only at this
    split at this
    · omega
    · split at this
      · simp only [decide_eq_true_eq] at this
        omega
      · split at this
        · omega
        · split at this
          · simp only [Bool.and_eq_true, decide_eq_true_eq] at this
            omega
          · simp only [valF, Bool.and_eq_true, decide_eq_true_eq] at this
            omega
theorem head_plain {y : FNode} (h : NodeK y) : ∀ w ∈ nodeHead y, WordOK w := fun w hw => by
  unfold nodeHead at hw
  rcases List.mem_cons.1 hw with rfl | hw
  · exact word_plain h.op
  · split at hw
    · rw [List.mem_singleton.1 hw]
      exact text_plain _
    · cases hw
theorem srcs_plain (l : List (Int × Int)) : ∀ w ∈ l.map srcF, WordOK w := fun w hw => by
  obtain ⟨s, _, rfl⟩ := List.mem_map.1 hw
  exact src_plain s
theorem outs_plain (l : List Int) : ∀ w ∈ outW l, WordOK w := fun w hw => by
  obtain ⟨o, _, hw⟩ := List.mem_flatMap.1 hw
  simp only [List.mem_cons, List.not_mem_nil, or_false] at hw
  rcases hw with rfl | rfl
  · exact ⟨by decide, by decide⟩
  · exact to_plain o
theorem nodeW_plain {y : FNode} (h : NodeK y) : ∀ w ∈ nodeWords y, WordOK w := fun w hw => by
  unfold nodeWords at hw
  rcases List.mem_append.1 hw with hw | hw
  · rcases List.mem_append.1 hw with hw | hw
    · exact head_plain h w hw
    · exact srcs_plain _ w hw
  · exact outs_plain _ w hw
theorem valW_plain (v : FVal) : ∀ w ∈ valWords v, WordOK w := fun w hw => by
  unfold valWords valHead at hw
  rcases List.mem_append.1 hw with hw | hw
  · simp only [List.mem_cons, List.not_mem_nil, or_false] at hw
    rcases hw with rfl | rfl
    · exact ⟨by decide, by decide⟩
    · exact to_plain _
  · exact srcs_plain _ w hw
theorem entW_plain (x : FForm) : ∀ w ∈ entWords x, WordOK w := fun w hw => by
  simp only [entWords, List.mem_cons, List.not_mem_nil, or_false] at hw
  rcases hw with rfl | rfl
  · exact ⟨by decide, by decide⟩
  · exact to_plain _
theorem nodeW_ne (y : FNode) : nodeWords y ≠ [] := by simp [nodeWords, nodeHead]
theorem valW_ne (v : FVal) : valWords v ≠ [] := by simp [valWords, valHead]
theorem entW_ne (x : FForm) : entWords x ≠ [] := by simp [entWords]
theorem outW_inj : ∀ {l m : List Int}, (∀ o ∈ l, -1 ≤ o) → (∀ o ∈ m, -1 ≤ o) → outW l = outW m → l = m
  | [], [], _, _, _ => rfl
  | [], _ :: _, _, _, h => by simp [outW] at h
  | _ :: _, [], _, _, h => by simp [outW] at h
  | a :: l, b :: m, hl, hm, h => by
    unfold outW at h
    rw [List.flatMap_cons, List.flatMap_cons, List.cons_append, List.cons_append, List.cons_append, List.cons_append] at h
    injection h with _ h
    injection h with h1 h2
    rw [to_inj (hl a (by simp)) (hm b (by simp)) h1, outW_inj (fun o ho => hl o (by simp [ho])) (fun o ho => hm o (by simp [ho])) h2]
theorem nodeW_inj {y z : FNode} (hy : NodeK y) (hz : NodeK z) (h : nodeWords y = nodeWords z) : y = z := by
  obtain ⟨o1, n1, a1, u1⟩ := y
  obtain ⟨o2, n2, a2, u2⟩ := z
  have hop : o1 = o2 := by
    refine word_inj hy.op hz.op ?_
    simp only [nodeWords, nodeHead, List.cons_append] at h
    injection h with h _
  subst hop
  have hal : (a1.map srcF).length = (a2.map srcF).length := by
    rw [List.length_map, List.length_map]
    exact hy.alen.trans hz.alen.symm
  unfold nodeWords at h
  have hhl : (nodeHead ⟨o1, n1, a1, u1⟩).length = (nodeHead ⟨o1, n2, a2, u2⟩).length := by
    unfold nodeHead
    simp only [List.length_cons]
    split <;> rfl
  rw [List.append_assoc, List.append_assoc] at h
  obtain ⟨e1, e2⟩ := List.append_inj h hhl
  obtain ⟨e2, e3⟩ := List.append_inj e2 hal
  have ha : a1 = a2 := map_inj (fun s hs t ht h => src_inj (hy.args s hs) (hz.args t ht) h) e2
  have hu : u1 = u2 := outW_inj hy.outs hz.outs e3
  have hn : n1 = n2 := by
    by_cases h15 : o1 = 15
    · unfold nodeHead at e1
      simp only [h15, if_true] at e1
      injection e1 with _ e1
      injection e1 with e1 _
      exact text_inj e1
    · have k1 := hy.n
      have k2 := hz.n
      simp only [h15, or_false] at k1 k2
      rw [k1, k2]
  rw [ha, hu, hn]
theorem valW_inj {v w : FVal} (hv : ValK v) (hw : ValK w) (h : valWords v = valWords w) : v = w := by
  obtain ⟨p1, s1⟩ := v
  obtain ⟨p2, s2⟩ := w
  simp only [valWords, valHead, List.cons_append, List.nil_append] at h
  injection h with _ h
  injection h with h1 h2
  have k1 : p1 = p2 := to_inj hv.pos hw.pos h1
  have k2 : s1 = s2 := map_inj (fun s hs t ht h => src_inj (hv.src s hs) (hw.src t ht) h) h2
  rw [k1, k2]
theorem node_val {y : FNode} (hy : NodeK y) (v : FVal) : jn (nodeWords y) ≠ jn (valWords v) := fun h => by
  have := jn_inj (nodeW_plain hy) (valW_plain v) (nodeW_ne y) (valW_ne v) h
  simp only [nodeWords, nodeHead, valWords, valHead, List.cons_append] at this
  injection this with h _
  exact word_value hy.op h
theorem lines_inj {x y : FForm} (hx : FormK x) (hy : FormK y) (h : linesF x = linesF y) : x = y := by
  obtain ⟨e1, n1, v1⟩ := x
  obtain ⟨e2, n2, v2⟩ := y
  unfold linesF at h
  injection h with h1 h2
  have he : e1 = e2 := by
    have := jn_inj (entW_plain _) (entW_plain _) (entW_ne _) (entW_ne _) h1
    simp only [entWords] at this
    injection this with _ this
    injection this with this _
    exact to_inj hx.ent hy.ent this
  obtain ⟨k1, k2⟩ := app_split (fun a ha b hb => by
    obtain ⟨y, hy', rfl⟩ := List.mem_map.1 ha
    obtain ⟨v, _, rfl⟩ := List.mem_map.1 hb
    exact node_val (hx.nodes y hy') v) (fun a ha b hb => by
    obtain ⟨y, hy', rfl⟩ := List.mem_map.1 ha
    obtain ⟨v, _, rfl⟩ := List.mem_map.1 hb
    exact node_val (hy.nodes y hy') v) h2
  have hn : n1 = n2 := map_inj (fun a ha b hb h => nodeW_inj (hx.nodes a ha) (hy.nodes b hb) (jn_inj (nodeW_plain (hx.nodes a ha)) (nodeW_plain (hy.nodes b hb)) (nodeW_ne a) (nodeW_ne b) h)) k1
  have hv : v1 = v2 := map_inj (fun a ha b hb h => valW_inj (hx.vals a ha) (hy.vals b hb) (jn_inj (valW_plain a) (valW_plain b) (valW_ne a) (valW_ne b) h)) k2
  rw [he, hn, hv]
theorem lines_ok {x : FForm} (hx : FormK x) : ∀ l ∈ linesF x, l ≠ [] ∧ ∀ c ∈ l, c ≠ 10 := fun l hl => by
  unfold linesF at hl
  rcases List.mem_cons.1 hl with rfl | hl
  · exact jn_line (entW_plain x) (entW_ne x)
  · rcases List.mem_append.1 hl with hl | hl
    · obtain ⟨y, hy, rfl⟩ := List.mem_map.1 hl
      exact jn_line (nodeW_plain (hx.nodes y hy)) (nodeW_ne y)
    · obtain ⟨v, hv, rfl⟩ := List.mem_map.1 hl
      exact jn_line (valW_plain v) (valW_ne v)
theorem print_inj {x y : FForm} (hx : FormK x) (hy : FormK y) (h : printF x = printF y) : x = y :=
  lines_inj hx hy (end_inj (fun l hl => (lines_ok hx l hl).2) (fun l hl => (lines_ok hy l hl).2) h)
end Go.Proofs.YtbcojbmalcghbaaDoor.M2
namespace Go.Proofs.YtbcojbmalcghbaaDoor.M2
open Go
attribute [local simp] ev1 M2.get put A.ev ld sub part elems bin arith un opt idx fillC cellsO splice over newOb sto fillR laidOwn appTo appRow touch touchN touchM touchE touchA plainU flatU plainAs allM rowAt stoRow accM_nil accM_cons accMM_nil accMM_cons frz_int frz_bool frz_str frz_slt frz_nils frz_nilI frz_nilF frz_own frzRow_row frzRow_frow Ob.blw blw_bool blw_int blw_str blw_nils blw_nilI blw_nilF blw_nilp blw_nilm blw_sl blw_own blw_bp blw_rp blw_mp blw_it params
attribute [local simp] frz_agg frz_tup frz_iface frzS_agg frzS_iface accMS_cons frzS_int frzS_bool frzS_str frzS_slt frzS_nils frzS_nilI beq_dec bne_dec
theorem nodeC_len (y : FNode) : (nodeC y).length = 4 := rfl
theorem nodeC_take (y : FNode) : (nodeC y).take 4 = nodeC y := rfl
theorem nodeC_over (y : FNode) (a b c d : U) : over (nodeC y) [a, b, c, d] = nodeC y := rfl
theorem valC_len (y : FVal) : (valC y).length = 2 := rfl
theorem valC_take (y : FVal) : (valC y).take 2 = valC y := rfl
theorem valC_over (y : FVal) (a b : U) : over (valC y) [a, b] = valC y := rfl
def ms0S (x y : FForm) (a b : FNode) (n k : Nat) : S := ⟨[(2, .bp 0 0), (3, .bp 1 0), (7, .bp 3 0), (36, .sl true (x.nodes.map nodeC)), (37, i64 x.nodes.length), (38, i64 n), (78, outsU a.outs), (79, i64 a.outs.length), (80, i64 k)], [.box (formC x), .box (formC y), .box (nodeC a), .box (nodeC b)]⟩
set_option maxHeartbeats 4000000 in
theorem ms0_loop (x y : FForm) (a b : FNode) (n : Nat) (hl : a.outs.length = b.outs.length) (hb : a.outs.length ≤ 1000) (r : Bool) (hr : a.outs ≠ b.outs → r = false) :
    Wp T (.loop c_match_Same_L0) (ms0S x y a b n 0) (fun _ => False) (Res c_match_Same (.bool r))
      (fun c s' => c = 2 ∧ a.outs = b.outs ∧ s' = ⟨[(2, .bp 0 0), (3, .bp 1 0), (7, .bp 3 0), (36, .sl true (x.nodes.map nodeC)), (37, i64 x.nodes.length), (38, i64 n), (78, outsU a.outs), (79, i64 a.outs.length), (80, i64 (a.outs.length : Nat)), (81, .bool false)], [.box (formC x), .box (formC y), .box (nodeC a), .box (nodeC b)]⟩) := by
  refine Wp.count a.outs.length (fun k => ms0S x y a b n k) (fun k => a.outs.take k = b.outs.take k) (fun k hk hI => ?_) (fun hI => ?_) 0 (by omega) (by simp)
  · have hk' : (k : Int) < a.outs.length := by omega
    have hj : k < b.outs.length := by omega
    have hj' : (k : Int) < b.outs.length := by omega
    have ea : a.outs[k]? = some a.outs[k] := List.getElem?_eq_getElem hk
    have eb : b.outs[k]? = some b.outs[k] := List.getElem?_eq_getElem hj
    have hnx := take_eq hk hj hI
    have hne : a.outs[k] ≠ b.outs[k] → r = false := fun h => hr fun e => h (by simp [e])
    generalize a.outs[k] = u at *
    generalize b.outs[k] = v at *
    simp only [ms0S]
    (have := fa hk'; repeat refine Wp.f ?_)
    refine Wp.i ?_ ?_ <;> intro h1
    · by_cases he : u = v
      · (have := fa (a5 @outsU.eq_1 @outC.eq_1 @nodeC.eq_1 hk' (a4 hj' ea eb he)); repeat refine Wp.f ?_)
        refine Wp.i ?_ ?_ <;> intro h2
        · cases h2
        · (have := fa @wrap_id; repeat refine Wp.f ?_)
          exact ⟨trimO_len rfl, hnx he⟩
      · (have := fa (a5 @outsU.eq_1 @outC.eq_1 @nodeC.eq_1 hk' (a4 hj' ea eb he)); repeat refine Wp.f ?_)
        refine Wp.i ?_ ?_ <;> intro h2
        · rw [hne he]
          repeat refine Wp.a ?_
          refine Wp.ret ?_; simp [Res, resU, res1, c_match_Same]
        · cases h2
    · cases h1
  · rw [List.take_of_length_le (Nat.le_refl _), List.take_of_length_le (by omega)] at hI
    simp only [ms0S]
    repeat refine Wp.a ?_
    refine Wp.i ?_ ?_ <;> intro h1
    · simp at h1
    · exact Wp.exit ⟨rfl, hI, rfl⟩
def ms1S (x y : FForm) (n : Nat) : S := ⟨[(2, .bp 0 0), (3, .bp 1 0), (36, .sl true (x.nodes.map nodeC)), (37, i64 x.nodes.length), (38, i64 n)], [.box (formC x), .box (formC y)]⟩
set_option maxHeartbeats 8000000 in
theorem ms1_loop (x y : FForm) (hx : Small x) (hy : Small y) (hl : x.nodes.length = y.nodes.length) (r : Bool) (hr : x.nodes ≠ y.nodes → r = false) :
    Wp T (.loop c_match_Same_L1) (ms1S x y 0) (fun _ => False) (Res c_match_Same (.bool r))
      (fun c s' => c = 0 ∧ x.nodes = y.nodes ∧ s' = ⟨[(2, .bp 0 0), (3, .bp 1 0), (36, .sl true (x.nodes.map nodeC)), (37, i64 x.nodes.length), (38, i64 (x.nodes.length : Nat)), (39, .bool false)], [.box (formC x), .box (formC y)]⟩) := by
  have hbx := hx.nodes
  refine Wp.count x.nodes.length (fun k => ms1S x y k) (fun k => x.nodes.take k = y.nodes.take k) (fun n hn hI => ?_) (fun hI => ?_) 0 (by omega) (by simp)
  · have hn' : (n : Int) < x.nodes.length := by omega
    have hj : n < y.nodes.length := by omega
    have hj' : (n : Int) < y.nodes.length := by omega
    have ea : x.nodes[n]? = some x.nodes[n] := List.getElem?_eq_getElem hn
    have eb : y.nodes[n]? = some y.nodes[n] := List.getElem?_eq_getElem hj
    have hnx := take_eq hn hj hI
    have hne : x.nodes[n] ≠ y.nodes[n] → r = false := fun h => hr fun e => h (by simp [e])
    have ha1 := hx.args _ (List.getElem_mem hn)
    have ha2 := hy.args _ (List.getElem_mem hj)
    have ho1 := hx.outs _ (List.getElem_mem hn)
    generalize x.nodes[n] = a at *
    generalize y.nodes[n] = b at *
    have hso := fun st => sources_call a.args b.args (by omega) (by omega) st
    simp only [ms1S]
    (have := fa hn'; repeat refine Wp.f ?_)
    refine Wp.i ?_ ?_ <;> intro h1
    · by_cases c1 : a.op = b.op
      · by_cases c2 : a.n = b.n
        · by_cases c3 : a.args = b.args
          · by_cases c4 : a.outs.length = b.outs.length
            · have c4' : (a.outs.length : Int) = b.outs.length := by omega
              have d3 : decide (a.args = b.args) = true := decide_eq_true c3
              rw [d3] at hso
              (all_goals have := fa (a5 hn' hj' ea eb (a5 @formC.eq_1 @nodeC.eq_1 @outsU.eq_1 @c1 (a2 @c2 c4'))); repeat' first | refine Wp.v ?_ | (apply Wp.call; exact hso _) | (refine Wp.c ?_ ?_ <;> intro))
              have hlp := ms0_loop x y a b n c4 (by omega) r (fun h => hne fun e => h (by rw [e]))
              simp only [ms0S, nodeC, outsU, formC, c1, c2, c4'] at hlp
              refine hlp.imp (fun _ h => h.elim) (fun _ h => h) ?_
              rintro c s ⟨rfl, he, rfl⟩
              rw [if_pos rfl]
              (have := fa @wrap_id; repeat refine Wp.f ?_)
              refine ⟨by simp [trimO, trim, formC], hnx ?_⟩
              obtain ⟨a1, a2, a3, a4⟩ := a
              obtain ⟨b1, b2, b3, b4⟩ := b
              simp only at c1 c2 c3 he
              rw [c1, c2, c3, he]
            · have c4' : ¬ (a.outs.length : Int) = b.outs.length := by omega
              have d3 : decide (a.args = b.args) = true := decide_eq_true c3
              rw [d3] at hso
              rw [hne (fun e => c4 (by rw [e]))]
              (all_goals have := fa (a5 hn' hj' ea eb (a5 @formC.eq_1 @nodeC.eq_1 @outsU.eq_1 @c1 (a2 @c2 c4'))); repeat' first | refine Wp.v ?_ | (apply Wp.call; exact hso _) | (refine Wp.c ?_ ?_ <;> intro))
              refine Wp.ret ?_; simp [Res, resU, res1, c_match_Same]
          · have d3 : decide (a.args = b.args) = false := decide_eq_false c3
            rw [d3] at hso
            rw [hne (fun e => c3 (by rw [e]))]
            (all_goals have := fa (a5 hn' hj' ea eb (a5 @formC.eq_1 @nodeC.eq_1 @outsU.eq_1 @c1 @c2)); repeat' first | refine Wp.v ?_ | (apply Wp.call; exact hso _) | (refine Wp.c ?_ ?_ <;> intro))
            refine Wp.ret ?_; simp [Res, resU, res1, c_match_Same]
        · rw [hne (fun e => c2 (by rw [e]))]
          (all_goals have := fa (a5 hn' hj' ea eb (a5 @formC.eq_1 @nodeC.eq_1 @outsU.eq_1 @c1 @c2)); repeat' first | refine Wp.v ?_ | (refine Wp.c ?_ ?_ <;> intro))
          refine Wp.ret ?_; simp [Res, resU, res1, c_match_Same]
      · rw [hne (fun e => c1 (by rw [e]))]
        (all_goals have := fa (a5 hn' hj' ea eb (a4 @formC.eq_1 @nodeC.eq_1 @outsU.eq_1 @c1)); repeat' first | refine Wp.v ?_ | (refine Wp.c ?_ ?_ <;> intro))
        refine Wp.ret ?_; simp [Res, resU, res1, c_match_Same]
    · cases h1
  · rw [List.take_of_length_le (Nat.le_refl _), List.take_of_length_le (by omega)] at hI
    simp only [ms1S]
    repeat refine Wp.a ?_
    refine Wp.i ?_ ?_ <;> intro h1
    · simp at h1
    · exact Wp.exit ⟨rfl, hI, rfl⟩
theorem flat_srcs (l : List (Int × Int)) : plainU (srcsU l) = true := rfl
def ms3S (x y : FForm) (n : Nat) : S := ⟨[(3, .bp 1 0), (95, .sl true (x.vals.map valC)), (96, i64 x.vals.length), (97, i64 n)], [.box (formC x), .box (formC y)]⟩
set_option maxHeartbeats 8000000 in
theorem ms3_loop (x y : FForm) (hx : Small x) (hy : Small y) (hl : x.vals.length = y.vals.length) (r : Bool) (hr : x.vals ≠ y.vals → r = false) :
    Wp T (.loop c_match_Same_L3) (ms3S x y 0) (fun _ => False) (Res c_match_Same (.bool r))
      (fun c s' => c = 4 ∧ x.vals = y.vals ∧ s' = ⟨[(3, .bp 1 0), (95, .sl true (x.vals.map valC)), (96, i64 x.vals.length), (97, i64 (x.vals.length : Nat)), (98, .bool false)], [.box (formC x), .box (formC y)]⟩) := by
  have hbx := hx.vals
  refine Wp.count x.vals.length (fun k => ms3S x y k) (fun k => x.vals.take k = y.vals.take k) (fun n hn hI => ?_) (fun hI => ?_) 0 (by omega) (by simp)
  · have hn' : (n : Int) < x.vals.length := by omega
    have hj : n < y.vals.length := by omega
    have hj' : (n : Int) < y.vals.length := by omega
    have ea : x.vals[n]? = some x.vals[n] := List.getElem?_eq_getElem hn
    have eb : y.vals[n]? = some y.vals[n] := List.getElem?_eq_getElem hj
    have hnx := take_eq hn hj hI
    have hne : x.vals[n] ≠ y.vals[n] → r = false := fun h => hr fun e => h (by simp [e])
    have ha1 := hx.src _ (List.getElem_mem hn)
    have ha2 := hy.src _ (List.getElem_mem hj)
    generalize x.vals[n] = a at *
    generalize y.vals[n] = b at *
    have hso := fun st => sources_call a.src b.src (by omega) (by omega) st
    simp only [ms3S]
    (have := fa hn'; repeat refine Wp.f ?_)
    refine Wp.i ?_ ?_ <;> intro h1
    · by_cases c1 : a.pos = b.pos
      · by_cases c2 : a.src = b.src
        · have d : decide (a.src = b.src) = true := decide_eq_true c2
          rw [d] at hso
          (have := fa (a3 hn' ea @valC.eq_1); repeat refine Wp.f ?_)
          refine Wp.draw (by (simp [c_match_Same_D2, I.need]) <;> rfl) (by (simp [formC, valC, hj', eb, c1]) <;> rfl) (by (simp [formC, valC, hj', eb, c1]) <;> rfl) (by (unfold c_match_Same_D2); (repeat (first | ((first | apply Dr.op | apply Dr.opN | (apply Dr.opG; exact rfl)); ((simp [formC, valC, hj', eb, c1]) <;> rfl); (apply Evt.all; intro; (simp [formC, valC, hj', eb, c1]) <;> (try simp (disch := omega) only [wrap_id]) <;> first | exact ⟨rfl, rfl⟩ | exact rfl); ((simp [I.need]) <;> rfl)) | ((first | (apply Dr.opS; exact rfl; decide) | (apply Dr.opS0; exact rfl)); ((simp [I.need]) <;> rfl)) | (apply Dr.call; ((simp [formC, valC, hj', eb, c1]) <;> rfl); exact hso _) | (apply Dr.callG; (exact rfl); ((simp [formC, valC, hj', eb, c1]) <;> rfl); exact hso _))); exact Dr.nil) (by first | decide +kernel | exact rfl) (by (simp [M2.keep]) <;> rfl) ?_
          refine Wp.i ?_ ?_ <;> intro h2
          · cases h2
          · (have := fa @wrap_id; repeat refine Wp.f ?_)
            exact ⟨by simp [trimO, trim, formC], hnx (by
              obtain ⟨a1, a2⟩ := a
              obtain ⟨b1, b2⟩ := b
              simp only at c1 c2
              rw [c1, c2])⟩
        · have d : decide (a.src = b.src) = false := decide_eq_false c2
          rw [d] at hso
          rw [hne (fun e => c2 (by rw [e]))]
          (have := fa (a3 hn' ea @valC.eq_1); repeat refine Wp.f ?_)
          refine Wp.draw (by (simp [c_match_Same_D2, I.need]) <;> rfl) (by (simp [formC, valC, hj', eb, c1]) <;> rfl) (by (simp [formC, valC, hj', eb, c1]) <;> rfl) (by (unfold c_match_Same_D2); (repeat (first | ((first | apply Dr.op | apply Dr.opN | (apply Dr.opG; exact rfl)); ((simp [formC, valC, hj', eb, c1]) <;> rfl); (apply Evt.all; intro; (simp [formC, valC, hj', eb, c1]) <;> (try simp (disch := omega) only [wrap_id]) <;> first | exact ⟨rfl, rfl⟩ | exact rfl); ((simp [I.need]) <;> rfl)) | ((first | (apply Dr.opS; exact rfl; decide) | (apply Dr.opS0; exact rfl)); ((simp [I.need]) <;> rfl)) | (apply Dr.call; ((simp [formC, valC, hj', eb, c1]) <;> rfl); exact hso _) | (apply Dr.callG; (exact rfl); ((simp [formC, valC, hj', eb, c1]) <;> rfl); exact hso _))); exact Dr.nil) (by first | decide +kernel | exact rfl) (by (simp [M2.keep]) <;> rfl) ?_
          refine Wp.i ?_ ?_ <;> intro h2
          · repeat refine Wp.a ?_
            refine Wp.ret ?_; simp [Res, resU, res1, c_match_Same]
          · cases h2
      · rw [hne (fun e => c1 (by rw [e]))]
        (have := fa (a3 hn' ea @valC.eq_1); repeat refine Wp.f ?_)
        refine Wp.draw (by (simp [c_match_Same_D2, I.need]) <;> rfl) (by (simp [formC, valC, hj', eb, c1]) <;> rfl) (by (simp [formC, valC, hj', eb, c1]) <;> rfl) (by (unfold c_match_Same_D2); (repeat (first | ((first | apply Dr.op | apply Dr.opN | (apply Dr.opG; exact rfl)); ((simp [formC, valC, hj', eb, c1]) <;> rfl); (apply Evt.all; intro; (simp [formC, valC, hj', eb, c1]) <;> (try simp (disch := omega) only [wrap_id]) <;> first | exact ⟨rfl, rfl⟩ | exact rfl); ((simp [I.need]) <;> rfl)) | ((first | (apply Dr.opS; exact rfl; decide) | (apply Dr.opS0; exact rfl)); ((simp [I.need]) <;> rfl)) | (apply Dr.call; ((simp [formC, valC, hj', eb, c1]) <;> rfl); exact hso _) | (apply Dr.callG; (exact rfl); ((simp [formC, valC, hj', eb, c1]) <;> rfl); exact hso _))); exact Dr.nil) (by first | decide +kernel | exact rfl) (by (simp [M2.keep]) <;> rfl) ?_
        refine Wp.i ?_ ?_ <;> intro h2
        · repeat refine Wp.a ?_
          refine Wp.ret ?_; simp [Res, resU, res1, c_match_Same]
        · cases h2
    · cases h1
  · rw [List.take_of_length_le (Nat.le_refl _), List.take_of_length_le (by omega)] at hI
    simp only [ms3S]
    repeat refine Wp.a ?_
    refine Wp.i ?_ ?_ <;> intro h1
    · simp at h1
    · exact Wp.exit ⟨rfl, hI, rfl⟩
set_option maxHeartbeats 8000000 in
theorem same_call (x y : FForm) (hx : Small x) (hy : Small y) (st : List Ob) : Cl T n_match_Same [formU x, formU y] st (.bool (decide (x = y))) st := by
  refine Wp.pure (fn := c_match_Same) rfl rfl rfl («as» := [formU x, formU y]) rfl ?_
  generalize hr : decide (x = y) = r
  have hne : x ≠ y → r = false := fun h => by rw [← hr]; exact decide_eq_false h
  by_cases c1 : x.entry = y.entry
  · by_cases c2 : x.nodes.length = y.nodes.length
    · have c2' : (x.nodes.length : Int) = y.nodes.length := by omega
      by_cases c3 : x.vals.length = y.vals.length
      · have c3' : (x.vals.length : Int) = y.vals.length := by omega
        have hl1 := ms1_loop x y hx hy c2 r (fun h => hne fun e => h (by rw [e]))
        have hl3 := ms3_loop x y hx hy c3 r (fun h => hne fun e => h (by rw [e]))
        simp only [ms1S, formC, c1, c2'] at hl1
        simp only [ms3S, formC, c1, c3'] at hl3
        (all_goals have := fa (a4 @formC.eq_1 @c1 c2' c3'); repeat' first | refine Wp.v ?_ | (refine Wp.c ?_ ?_ <;> intro))
        refine hl1.imp (fun _ h => h.elim) (fun _ h => h) ?_
        rintro c s ⟨rfl, e1, rfl⟩
        rw [if_pos rfl]
        (have := fa c3'; repeat refine Wp.f ?_)
        refine hl3.imp (fun _ h => h.elim) (fun _ h => h) ?_
        rintro c s ⟨rfl, e2, rfl⟩
        rw [if_pos rfl]
        have hxy : x = y := by
          obtain ⟨a1, a2, a3⟩ := x
          obtain ⟨b1, b2, b3⟩ := y
          simp only at c1 e1 e2
          rw [c1, e1, e2]
        rw [← hr, decide_eq_true hxy]
        repeat refine Wp.a ?_
        refine Wp.ret ?_; simp [Res, resU, res1, c_match_Same]
      · have c3' : ¬ (x.vals.length : Int) = y.vals.length := by omega
        rw [hne (fun e => c3 (by rw [e]))]
        (all_goals have := fa (a4 @formC.eq_1 @c1 c2' c3'); repeat' first | refine Wp.v ?_ | (refine Wp.c ?_ ?_ <;> intro))
        refine Wp.ret ?_; simp [Res, resU, res1, c_match_Same]
    · have c2' : ¬ (x.nodes.length : Int) = y.nodes.length := by omega
      rw [hne (fun e => c2 (by rw [e]))]
      (all_goals have := fa (a3 @formC.eq_1 @c1 c2'); repeat' first | refine Wp.v ?_ | (refine Wp.c ?_ ?_ <;> intro))
      refine Wp.ret ?_; simp [Res, resU, res1, c_match_Same]
  · rw [hne (fun e => c1 (by rw [e]))]
    (all_goals have := fa (a2 @formC.eq_1 @c1); repeat' first | refine Wp.v ?_ | (refine Wp.c ?_ ?_ <;> intro))
    refine Wp.ret ?_; simp [Res, resU, res1, c_match_Same]
def ss0S (a b : List (Int × Int)) (i : Nat) : S := ⟨[(0, srcsU a), (1, srcsU b), (5, i64 i)], []⟩
set_option maxHeartbeats 4000000 in
theorem ss0_loop (a b : List (Int × Int)) (hl : a.length = b.length) (hb : a.length ≤ 1000) : Wp T (.loop c_joineryref13_sameSrcs_L1) (ss0S a b 0) (fun _ => False) (Res c_joineryref13_sameSrcs (.bool (decide (a = b))))
    (fun k s' => k = 0 ∧ a = b ∧ s' = ⟨[(0, srcsU a), (1, srcsU b), (5, i64 (a.length : Nat)), (14, .bool false)], []⟩) := by
  refine Wp.count a.length (fun i => ss0S a b i) (fun i => a.take i = b.take i) (fun i hi hI => ?_) (fun hI => ?_) 0 (by omega) (by simp)
  · have hi' : (i : Int) < a.length := by omega
    have hj : i < b.length := by omega
    have hj' : (i : Int) < b.length := by omega
    have ea : a[i]? = some a[i] := List.getElem?_eq_getElem hi
    have eb : b[i]? = some b[i] := List.getElem?_eq_getElem hj
    have hnx := take_eq hi hj hI
    have hne : a[i] ≠ b[i] → decide (a = b) = false := fun h => decide_eq_false fun e => h (by subst e; rfl)
    generalize a[i] = x at *
    generalize b[i] = y at *
    simp only [ss0S]
    (have := fa (a2 @srcsU.eq_1 hi'); repeat refine Wp.f ?_)
    refine Wp.i ?_ ?_ <;> intro h1
    · (have := fa @srcsU.eq_1; repeat refine Wp.f ?_)
      by_cases he : x = y
      · refine Wp.draw (by (simp [c_joineryref13_sameSrcs_D0, I.need]) <;> rfl) (by (simp [srcsU, hi', hj', ea, eb, srcC_len, srcC_take, src_same, he]) <;> rfl) (by (simp [srcsU, hi', hj', ea, eb, srcC_len, srcC_take, src_same, he]) <;> rfl) (by (unfold c_joineryref13_sameSrcs_D0); (repeat (first | ((first | apply Dr.op | apply Dr.opN | (apply Dr.opG; exact rfl)); ((simp [srcsU, hi', hj', ea, eb, srcC_len, srcC_take, src_same, he]) <;> rfl); (apply Evt.all; intro; (simp [srcsU, hi', hj', ea, eb, srcC_len, srcC_take, src_same, he]) <;> (try simp (disch := omega) only [wrap_id]) <;> first | exact ⟨rfl, rfl⟩ | exact rfl); ((simp [I.need]) <;> rfl)) | ((first | (apply Dr.opS; exact rfl; decide) | (apply Dr.opS0; exact rfl)); ((simp [I.need]) <;> rfl)))); exact Dr.nil) (by first | decide +kernel | exact rfl) (by (simp [M2.keep]) <;> rfl) ?_
        repeat refine Wp.a ?_
        refine Wp.i ?_ ?_ <;> intro h2
        · cases h2
        · (have := fa @wrap_id; repeat refine Wp.f ?_)
          exact ⟨by simp [trimO, trim, srcsU], hnx he⟩
      · refine Wp.draw (by (simp [c_joineryref13_sameSrcs_D0, I.need]) <;> rfl) (by (simp [srcsU, hi', hj', ea, eb, srcC_len, srcC_take, src_same, he]) <;> rfl) (by (simp [srcsU, hi', hj', ea, eb, srcC_len, srcC_take, src_same, he]) <;> rfl) (by (unfold c_joineryref13_sameSrcs_D0); (repeat (first | ((first | apply Dr.op | apply Dr.opN | (apply Dr.opG; exact rfl)); ((simp [srcsU, hi', hj', ea, eb, srcC_len, srcC_take, src_same, he]) <;> rfl); (apply Evt.all; intro; (simp [srcsU, hi', hj', ea, eb, srcC_len, srcC_take, src_same, he]) <;> (try simp (disch := omega) only [wrap_id]) <;> first | exact ⟨rfl, rfl⟩ | exact rfl); ((simp [I.need]) <;> rfl)) | ((first | (apply Dr.opS; exact rfl; decide) | (apply Dr.opS0; exact rfl)); ((simp [I.need]) <;> rfl)))); exact Dr.nil) (by first | decide +kernel | exact rfl) (by (simp [M2.keep]) <;> rfl) ?_
        repeat refine Wp.a ?_
        refine Wp.i ?_ ?_ <;> intro h2
        · rw [hne he]
          repeat refine Wp.a ?_
          refine Wp.ret ?_; simp [Res, resU, res1, c_joineryref13_sameSrcs]
        · cases h2
    · cases h1
  · rw [List.take_of_length_le (Nat.le_refl _), List.take_of_length_le (by omega)] at hI
    simp only [ss0S]
    (have := fa @srcsU.eq_1; repeat refine Wp.f ?_)
    refine Wp.i ?_ ?_ <;> intro h1
    · simp at h1
    · exact Wp.exit ⟨rfl, hI, rfl⟩
set_option maxHeartbeats 4000000 in
theorem rsources_call (a b : List (Int × Int)) (hb : a.length ≤ 1000) (hb2 : b.length ≤ 1000) (st : List Ob) : Cl T n_joineryref13_sameSrcs [srcsU a, srcsU b] st (.bool (decide (a = b))) st := by
  refine Wp.pure (fn := c_joineryref13_sameSrcs) rfl rfl rfl («as» := [srcsU a, srcsU b]) rfl ?_
  by_cases hl : a.length = b.length
  · have hl' : (a.length : Int) = b.length := by omega
    (have := fa (a2 @srcsU.eq_1 hl'); repeat refine Wp.f ?_)
    refine Wp.i ?_ ?_ <;> intro h1
    · cases h1
    (have := fa (a2 @srcsU.eq_1 hl'); repeat refine Wp.f ?_)
    have := ss0_loop a b hl hb
    simp only [ss0S, srcsU, hl'] at this
    refine this.imp (fun _ h => h.elim) (fun _ h => h) ?_
    rintro k s ⟨rfl, he, rfl⟩
    rw [if_pos rfl, he]
    repeat refine Wp.a ?_
    refine Wp.ret ?_; simp [Res, resU, res1, c_joineryref13_sameSrcs]
  · have hl' : ¬ (a.length : Int) = b.length := by omega
    have : decide (a = b) = false := decide_eq_false fun e => hl (by rw [e])
    rw [this]
    (have := fa (a2 @srcsU.eq_1 hl'); repeat refine Wp.f ?_)
    refine Wp.i ?_ ?_ <;> intro h1
    · repeat refine Wp.a ?_
      refine Wp.ret ?_; simp [Res, resU, res1, c_joineryref13_sameSrcs]
    · cases h1
def rs0S (x y : FForm) (a b : FNode) (n k : Nat) : S := ⟨[(2, .bp 0 0), (3, .bp 1 0), (5, i64 n), (6, .bp 2 0), (7, .bp 3 0), (8, i64 k)], [.box (formC x), .box (formC y), .box (nodeC a), .box (nodeC b)]⟩
set_option maxHeartbeats 4000000 in
theorem rs0_loop (x y : FForm) (a b : FNode) (n : Nat) (hl : a.outs.length = b.outs.length) (hb : a.outs.length ≤ 1000) (r : Bool) (hr : a.outs ≠ b.outs → r = false) :
    Wp T (.loop c_joineryref13_Same_L2) (rs0S x y a b n 0) (fun _ => False) (Res c_joineryref13_Same (.bool r))
      (fun c s' => c = 2 ∧ a.outs = b.outs ∧ s' = ⟨[(2, .bp 0 0), (3, .bp 1 0), (5, i64 n), (6, .bp 2 0), (7, .bp 3 0), (8, i64 (a.outs.length : Nat)), (83, .bool false)], [.box (formC x), .box (formC y), .box (nodeC a), .box (nodeC b)]⟩) := by
  refine Wp.count a.outs.length (fun k => rs0S x y a b n k) (fun k => a.outs.take k = b.outs.take k) (fun k hk hI => ?_) (fun hI => ?_) 0 (by omega) (by simp)
  · have hk' : (k : Int) < a.outs.length := by omega
    have hj : k < b.outs.length := by omega
    have hj' : (k : Int) < b.outs.length := by omega
    have ea : a.outs[k]? = some a.outs[k] := List.getElem?_eq_getElem hk
    have eb : b.outs[k]? = some b.outs[k] := List.getElem?_eq_getElem hj
    have hnx := take_eq hk hj hI
    have hne : a.outs[k] ≠ b.outs[k] → r = false := fun h => hr fun e => h (by simp [e])
    generalize a.outs[k] = u at *
    generalize b.outs[k] = v at *
    simp only [rs0S]
    (have := fa (a3 @nodeC.eq_1 @outsU.eq_1 hk'); repeat refine Wp.f ?_)
    refine Wp.i ?_ ?_ <;> intro h1
    · by_cases he : u = v
      · repeat refine Wp.a ?_
        refine Wp.draw (by (simp [c_joineryref13_Same_D1, I.need]) <;> rfl) (by (simp [outsU, outC, nodeC, hk', hj', ea, eb, he]) <;> rfl) (by (simp [outsU, outC, nodeC, hk', hj', ea, eb, he]) <;> rfl) (by (unfold c_joineryref13_Same_D1); (repeat (first | ((first | apply Dr.op | apply Dr.opN | (apply Dr.opG; exact rfl)); ((simp [outsU, outC, nodeC, hk', hj', ea, eb, he]) <;> rfl); (apply Evt.all; intro; (simp [outsU, outC, nodeC, hk', hj', ea, eb, he]) <;> (try simp (disch := omega) only [wrap_id]) <;> first | exact ⟨rfl, rfl⟩ | exact rfl); ((simp [I.need]) <;> rfl)) | ((first | (apply Dr.opS; exact rfl; decide) | (apply Dr.opS0; exact rfl)); ((simp [I.need]) <;> rfl)))); exact Dr.nil) (by first | decide +kernel | exact rfl) (by (simp [M2.keep]) <;> rfl) ?_
        repeat refine Wp.a ?_
        refine Wp.i ?_ ?_ <;> intro h2
        · cases h2
        · (have := fa @wrap_id; repeat refine Wp.f ?_)
          exact ⟨trimO_len rfl, hnx he⟩
      · repeat refine Wp.a ?_
        refine Wp.draw (by (simp [c_joineryref13_Same_D1, I.need]) <;> rfl) (by (simp [outsU, outC, nodeC, hk', hj', ea, eb, he]) <;> rfl) (by (simp [outsU, outC, nodeC, hk', hj', ea, eb, he]) <;> rfl) (by (unfold c_joineryref13_Same_D1); (repeat (first | ((first | apply Dr.op | apply Dr.opN | (apply Dr.opG; exact rfl)); ((simp [outsU, outC, nodeC, hk', hj', ea, eb, he]) <;> rfl); (apply Evt.all; intro; (simp [outsU, outC, nodeC, hk', hj', ea, eb, he]) <;> (try simp (disch := omega) only [wrap_id]) <;> first | exact ⟨rfl, rfl⟩ | exact rfl); ((simp [I.need]) <;> rfl)) | ((first | (apply Dr.opS; exact rfl; decide) | (apply Dr.opS0; exact rfl)); ((simp [I.need]) <;> rfl)))); exact Dr.nil) (by first | decide +kernel | exact rfl) (by (simp [M2.keep]) <;> rfl) ?_
        repeat refine Wp.a ?_
        refine Wp.i ?_ ?_ <;> intro h2
        · rw [hne he]
          repeat refine Wp.a ?_
          refine Wp.ret ?_; simp [Res, resU, res1, c_joineryref13_Same]
        · cases h2
    · cases h1
  · rw [List.take_of_length_le (Nat.le_refl _), List.take_of_length_le (by omega)] at hI
    simp only [rs0S]
    (have := fa (a2 @nodeC.eq_1 @outsU.eq_1); repeat refine Wp.f ?_)
    refine Wp.i ?_ ?_ <;> intro h1
    · simp at h1
    · exact Wp.exit ⟨rfl, hI, rfl⟩
def rs1S (x y : FForm) (n : Nat) : S := ⟨[(2, .bp 0 0), (3, .bp 1 0), (5, i64 n)], [.box (formC x), .box (formC y)]⟩
set_option maxHeartbeats 8000000 in
theorem rs1_loop (x y : FForm) (hx : Small x) (hy : Small y) (hl : x.nodes.length = y.nodes.length) (r : Bool) (hr : x.nodes ≠ y.nodes → r = false) :
    Wp T (.loop c_joineryref13_Same_L3) (rs1S x y 0) (fun _ => False) (Res c_joineryref13_Same (.bool r))
      (fun c s' => c = 0 ∧ x.nodes = y.nodes ∧ s' = ⟨[(2, .bp 0 0), (3, .bp 1 0), (5, i64 (x.nodes.length : Nat)), (37, .bool false)], [.box (formC x), .box (formC y)]⟩) := by
  have hbx := hx.nodes
  refine Wp.count x.nodes.length (fun k => rs1S x y k) (fun k => x.nodes.take k = y.nodes.take k) (fun n hn hI => ?_) (fun hI => ?_) 0 (by omega) (by simp)
  · have hn' : (n : Int) < x.nodes.length := by omega
    have hj : n < y.nodes.length := by omega
    have hj' : (n : Int) < y.nodes.length := by omega
    have ea : x.nodes[n]? = some x.nodes[n] := List.getElem?_eq_getElem hn
    have eb : y.nodes[n]? = some y.nodes[n] := List.getElem?_eq_getElem hj
    have hnx := take_eq hn hj hI
    have hne : x.nodes[n] ≠ y.nodes[n] → r = false := fun h => hr fun e => h (by simp [e])
    have ha1 := hx.args _ (List.getElem_mem hn)
    have ha2 := hy.args _ (List.getElem_mem hj)
    have ho1 := hx.outs _ (List.getElem_mem hn)
    generalize x.nodes[n] = a at *
    generalize y.nodes[n] = b at *
    have hso := fun st => rsources_call a.args b.args (by omega) (by omega) st
    simp only [rs1S]
    (have := fa (a2 @formC.eq_1 hn'); repeat refine Wp.f ?_)
    refine Wp.i ?_ ?_ <;> intro h1
    · repeat refine Wp.a ?_
      refine Wp.draw (by (simp [c_joineryref13_Same_D0, I.need]) <;> rfl) (by (simp [formC, hn', hj', ea, eb, nodeC_len, nodeC_take, nodeC_over]) <;> rfl) (by (simp [formC, hn', hj', ea, eb, nodeC_len, nodeC_take, nodeC_over]) <;> rfl) (by (unfold c_joineryref13_Same_D0); (repeat (first | ((first | apply Dr.op | apply Dr.opN | (apply Dr.opG; exact rfl)); ((simp [formC, hn', hj', ea, eb, nodeC_len, nodeC_take, nodeC_over]) <;> rfl); (apply Evt.all; intro; (simp [formC, hn', hj', ea, eb, nodeC_len, nodeC_take, nodeC_over]) <;> (try simp (disch := omega) only [wrap_id]) <;> first | exact ⟨rfl, rfl⟩ | exact rfl); ((simp [I.need]) <;> rfl)) | ((first | (apply Dr.opS; exact rfl; decide) | (apply Dr.opS0; exact rfl)); ((simp [I.need]) <;> rfl)))); exact Dr.nil) (by first | decide +kernel | exact rfl) (by (simp [M2.keep]) <;> rfl) ?_
      by_cases c1 : a.op = b.op
      · by_cases c2 : a.n = b.n
        · by_cases c3 : a.args = b.args
          · by_cases c4 : a.outs.length = b.outs.length
            · have c4' : (a.outs.length : Int) = b.outs.length := by omega
              have d3 : decide (a.args = b.args) = true := decide_eq_true c3
              rw [d3] at hso
              (all_goals have := fa (a5 @nodeC.eq_1 @outsU.eq_1 @c1 @c2 c4'); repeat' first | refine Wp.v ?_ | (apply Wp.call; exact hso _) | (refine Wp.c ?_ ?_ <;> intro))
              have hlp := rs0_loop x y a b n c4 (by omega) r (fun h => hne fun e => h (by rw [e]))
              simp only [rs0S, nodeC, outsU, formC, c1, c2, c4'] at hlp
              refine hlp.imp (fun _ h => h.elim) (fun _ h => h) ?_
              rintro c s ⟨rfl, he, rfl⟩
              rw [if_pos rfl]
              (have := fa @wrap_id; repeat refine Wp.f ?_)
              refine ⟨by simp [trimO, trim, formC], hnx ?_⟩
              obtain ⟨a1, a2, a3, a4⟩ := a
              obtain ⟨b1, b2, b3, b4⟩ := b
              simp only at c1 c2 c3 he
              rw [c1, c2, c3, he]
            · have c4' : ¬ (a.outs.length : Int) = b.outs.length := by omega
              have d3 : decide (a.args = b.args) = true := decide_eq_true c3
              rw [d3] at hso
              rw [hne (fun e => c4 (by rw [e]))]
              (all_goals have := fa (a5 @nodeC.eq_1 @outsU.eq_1 @c1 @c2 c4'); repeat' first | refine Wp.v ?_ | (apply Wp.call; exact hso _) | (refine Wp.c ?_ ?_ <;> intro))
              refine Wp.ret ?_; simp [Res, resU, res1, c_joineryref13_Same]
          · have d3 : decide (a.args = b.args) = false := decide_eq_false c3
            rw [d3] at hso
            rw [hne (fun e => c3 (by rw [e]))]
            (all_goals have := fa (a4 @nodeC.eq_1 @outsU.eq_1 @c1 @c2); repeat' first | refine Wp.v ?_ | (apply Wp.call; exact hso _) | (refine Wp.c ?_ ?_ <;> intro))
            refine Wp.ret ?_; simp [Res, resU, res1, c_joineryref13_Same]
        · rw [hne (fun e => c2 (by rw [e]))]
          (all_goals have := fa (a4 @nodeC.eq_1 @outsU.eq_1 @c1 @c2); repeat' first | refine Wp.v ?_ | (refine Wp.c ?_ ?_ <;> intro))
          refine Wp.ret ?_; simp [Res, resU, res1, c_joineryref13_Same]
      · rw [hne (fun e => c1 (by rw [e]))]
        (all_goals have := fa (a3 @nodeC.eq_1 @outsU.eq_1 @c1); repeat' first | refine Wp.v ?_ | (refine Wp.c ?_ ?_ <;> intro))
        refine Wp.ret ?_; simp [Res, resU, res1, c_joineryref13_Same]
    · cases h1
  · rw [List.take_of_length_le (Nat.le_refl _), List.take_of_length_le (by omega)] at hI
    simp only [rs1S]
    (have := fa @formC.eq_1; repeat refine Wp.f ?_)
    refine Wp.i ?_ ?_ <;> intro h1
    · simp at h1
    · exact Wp.exit ⟨rfl, hI, rfl⟩
def rs3S (x y : FForm) (n : Nat) : S := ⟨[(2, .bp 0 0), (3, .bp 1 0), (9, i64 n)], [.box (formC x), .box (formC y)]⟩
set_option maxHeartbeats 8000000 in
theorem rs3_loop (x y : FForm) (hx : Small x) (hy : Small y) (hl : x.vals.length = y.vals.length) (r : Bool) (hr : x.vals ≠ y.vals → r = false) :
    Wp T (.loop c_joineryref13_Same_L5) (rs3S x y 0) (fun _ => False) (Res c_joineryref13_Same (.bool r))
      (fun c s' => c = 4 ∧ x.vals = y.vals ∧ s' = ⟨[(2, .bp 0 0), (3, .bp 1 0), (9, i64 (x.vals.length : Nat)), (101, .bool false)], [.box (formC x), .box (formC y)]⟩) := by
  have hbx := hx.vals
  refine Wp.count x.vals.length (fun k => rs3S x y k) (fun k => x.vals.take k = y.vals.take k) (fun n hn hI => ?_) (fun hI => ?_) 0 (by omega) (by simp)
  · have hn' : (n : Int) < x.vals.length := by omega
    have hj : n < y.vals.length := by omega
    have hj' : (n : Int) < y.vals.length := by omega
    have ea : x.vals[n]? = some x.vals[n] := List.getElem?_eq_getElem hn
    have eb : y.vals[n]? = some y.vals[n] := List.getElem?_eq_getElem hj
    have hnx := take_eq hn hj hI
    have hne : x.vals[n] ≠ y.vals[n] → r = false := fun h => hr fun e => h (by simp [e])
    have ha1 := hx.src _ (List.getElem_mem hn)
    have ha2 := hy.src _ (List.getElem_mem hj)
    generalize x.vals[n] = a at *
    generalize y.vals[n] = b at *
    have hso := fun st => rsources_call a.src b.src (by omega) (by omega) st
    simp only [rs3S]
    (have := fa (a2 @formC.eq_1 hn'); repeat refine Wp.f ?_)
    refine Wp.i ?_ ?_ <;> intro h1
    · by_cases c1 : a.pos = b.pos
      · by_cases c2 : a.src = b.src
        · have d : decide (a.src = b.src) = true := decide_eq_true c2
          rw [d] at hso
          repeat refine Wp.a ?_
          refine Wp.draw (by (simp [c_joineryref13_Same_D4, I.need]) <;> rfl) (by (simp [formC, valC, hn', ea, hj', eb, c1]) <;> rfl) (by (simp [formC, valC, hn', ea, hj', eb, c1]) <;> rfl) (by (unfold c_joineryref13_Same_D4); (repeat (first | ((first | apply Dr.op | apply Dr.opN | (apply Dr.opG; exact rfl)); ((simp [formC, valC, hn', ea, hj', eb, c1]) <;> rfl); (apply Evt.all; intro; (simp [formC, valC, hn', ea, hj', eb, c1]) <;> (try simp (disch := omega) only [wrap_id]) <;> first | exact ⟨rfl, rfl⟩ | exact rfl); ((simp [I.need]) <;> rfl)) | ((first | (apply Dr.opS; exact rfl; decide) | (apply Dr.opS0; exact rfl)); ((simp [I.need]) <;> rfl)) | (apply Dr.call; ((simp [formC, valC, hn', ea, hj', eb, c1]) <;> rfl); exact hso _) | (apply Dr.callG; (exact rfl); ((simp [formC, valC, hn', ea, hj', eb, c1]) <;> rfl); exact hso _))); exact Dr.nil) (by first | decide +kernel | exact rfl) (by (simp [M2.keep]) <;> rfl) ?_
          refine Wp.i ?_ ?_ <;> intro h2
          · cases h2
          · (have := fa @wrap_id; repeat refine Wp.f ?_)
            exact ⟨by simp [trimO, trim, formC], hnx (by
              obtain ⟨a1, a2⟩ := a
              obtain ⟨b1, b2⟩ := b
              simp only at c1 c2
              rw [c1, c2])⟩
        · have d : decide (a.src = b.src) = false := decide_eq_false c2
          rw [d] at hso
          rw [hne (fun e => c2 (by rw [e]))]
          repeat refine Wp.a ?_
          refine Wp.draw (by (simp [c_joineryref13_Same_D4, I.need]) <;> rfl) (by (simp [formC, valC, hn', ea, hj', eb, c1]) <;> rfl) (by (simp [formC, valC, hn', ea, hj', eb, c1]) <;> rfl) (by (unfold c_joineryref13_Same_D4); (repeat (first | ((first | apply Dr.op | apply Dr.opN | (apply Dr.opG; exact rfl)); ((simp [formC, valC, hn', ea, hj', eb, c1]) <;> rfl); (apply Evt.all; intro; (simp [formC, valC, hn', ea, hj', eb, c1]) <;> (try simp (disch := omega) only [wrap_id]) <;> first | exact ⟨rfl, rfl⟩ | exact rfl); ((simp [I.need]) <;> rfl)) | ((first | (apply Dr.opS; exact rfl; decide) | (apply Dr.opS0; exact rfl)); ((simp [I.need]) <;> rfl)) | (apply Dr.call; ((simp [formC, valC, hn', ea, hj', eb, c1]) <;> rfl); exact hso _) | (apply Dr.callG; (exact rfl); ((simp [formC, valC, hn', ea, hj', eb, c1]) <;> rfl); exact hso _))); exact Dr.nil) (by first | decide +kernel | exact rfl) (by (simp [M2.keep]) <;> rfl) ?_
          refine Wp.i ?_ ?_ <;> intro h2
          · repeat refine Wp.a ?_
            refine Wp.ret ?_; simp [Res, resU, res1, c_joineryref13_Same]
          · cases h2
      · rw [hne (fun e => c1 (by rw [e]))]
        repeat refine Wp.a ?_
        refine Wp.draw (by (simp [c_joineryref13_Same_D4, I.need]) <;> rfl) (by (simp [formC, valC, hn', ea, hj', eb, c1]) <;> rfl) (by (simp [formC, valC, hn', ea, hj', eb, c1]) <;> rfl) (by (unfold c_joineryref13_Same_D4); (repeat (first | ((first | apply Dr.op | apply Dr.opN | (apply Dr.opG; exact rfl)); ((simp [formC, valC, hn', ea, hj', eb, c1]) <;> rfl); (apply Evt.all; intro; (simp [formC, valC, hn', ea, hj', eb, c1]) <;> (try simp (disch := omega) only [wrap_id]) <;> first | exact ⟨rfl, rfl⟩ | exact rfl); ((simp [I.need]) <;> rfl)) | ((first | (apply Dr.opS; exact rfl; decide) | (apply Dr.opS0; exact rfl)); ((simp [I.need]) <;> rfl)) | (apply Dr.call; ((simp [formC, valC, hn', ea, hj', eb, c1]) <;> rfl); exact hso _) | (apply Dr.callG; (exact rfl); ((simp [formC, valC, hn', ea, hj', eb, c1]) <;> rfl); exact hso _))); exact Dr.nil) (by first | decide +kernel | exact rfl) (by (simp [M2.keep]) <;> rfl) ?_
        refine Wp.i ?_ ?_ <;> intro h2
        · repeat refine Wp.a ?_
          refine Wp.ret ?_; simp [Res, resU, res1, c_joineryref13_Same]
        · cases h2
    · cases h1
  · rw [List.take_of_length_le (Nat.le_refl _), List.take_of_length_le (by omega)] at hI
    simp only [rs3S]
    (have := fa @formC.eq_1; repeat refine Wp.f ?_)
    refine Wp.i ?_ ?_ <;> intro h1
    · simp at h1
    · exact Wp.exit ⟨rfl, hI, rfl⟩
set_option maxHeartbeats 8000000 in
theorem rsame_call (x y : FForm) (hx : Small x) (hy : Small y) (st : List Ob) : Cl T n_joineryref13_Same [formU x, formU y] st (.bool (decide (x = y))) st := by
  refine Wp.pure (fn := c_joineryref13_Same) rfl rfl rfl («as» := [formU x, formU y]) rfl ?_
  generalize hr : decide (x = y) = r
  have hne : x ≠ y → r = false := fun h => by rw [← hr]; exact decide_eq_false h
  by_cases c1 : x.entry = y.entry
  · by_cases c2 : x.nodes.length = y.nodes.length
    · have c2' : (x.nodes.length : Int) = y.nodes.length := by omega
      by_cases c3 : x.vals.length = y.vals.length
      · have c3' : (x.vals.length : Int) = y.vals.length := by omega
        have hl1 := rs1_loop x y hx hy c2 r (fun h => hne fun e => h (by rw [e]))
        have hl3 := rs3_loop x y hx hy c3 r (fun h => hne fun e => h (by rw [e]))
        simp only [rs1S, formC, c1, c2'] at hl1
        simp only [rs3S, formC, c1, c3'] at hl3
        (all_goals have := fa (a4 @formC.eq_1 @c1 c2' c3'); repeat' first | refine Wp.v ?_ | (refine Wp.c ?_ ?_ <;> intro))
        refine hl1.imp (fun _ h => h.elim) (fun _ h => h) ?_
        rintro c s ⟨rfl, e1, rfl⟩
        rw [if_pos rfl]
        (have := fa c3'; repeat refine Wp.f ?_)
        refine hl3.imp (fun _ h => h.elim) (fun _ h => h) ?_
        rintro c s ⟨rfl, e2, rfl⟩
        rw [if_pos rfl]
        have hxy : x = y := by
          obtain ⟨a1, a2, a3⟩ := x
          obtain ⟨b1, b2, b3⟩ := y
          simp only at c1 e1 e2
          rw [c1, e1, e2]
        rw [← hr, decide_eq_true hxy]
        repeat refine Wp.a ?_
        refine Wp.ret ?_; simp [Res, resU, res1, c_joineryref13_Same]
      · have c3' : ¬ (x.vals.length : Int) = y.vals.length := by omega
        rw [hne (fun e => c3 (by rw [e]))]
        (all_goals have := fa (a4 @formC.eq_1 @c1 c2' c3'); repeat' first | refine Wp.v ?_ | (refine Wp.c ?_ ?_ <;> intro))
        refine Wp.ret ?_; simp [Res, resU, res1, c_joineryref13_Same]
    · have c2' : ¬ (x.nodes.length : Int) = y.nodes.length := by omega
      rw [hne (fun e => c2 (by rw [e]))]
      (all_goals have := fa (a3 @formC.eq_1 @c1 c2'); repeat' first | refine Wp.v ?_ | (refine Wp.c ?_ ?_ <;> intro))
      refine Wp.ret ?_; simp [Res, resU, res1, c_joineryref13_Same]
  · rw [hne (fun e => c1 (by rw [e]))]
    (all_goals have := fa (a2 @formC.eq_1 @c1); repeat' first | refine Wp.v ?_ | (refine Wp.c ?_ ?_ <;> intro))
    refine Wp.ret ?_; simp [Res, resU, res1, c_joineryref13_Same]
end Go.Proofs.YtbcojbmalcghbaaDoor.M2
