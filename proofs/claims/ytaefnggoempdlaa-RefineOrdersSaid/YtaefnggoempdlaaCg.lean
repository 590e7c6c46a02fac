/- Typed arguments, as this chapter's data. -/
import Derived.Test.YtaefnggoempdlaaCf
import Derived.Test.YtaefnggoempdlaaCd
import Derived.Test.YtaefnggoempdlaaCe
set_option linter.unusedSimpArgs false
set_option linter.unusedVariables false
set_option linter.unusedSectionVars false
/- Refinement, in plain Lean. Part 1: numbers by first meeting; what a round does. -/
namespace Go.Proofs.Ytaefnggoempdlaa.M2
open Go

theorem sub_len {α : Type} [DecidableEq α] : ∀ {A B : List α}, A.Nodup → (∀ x ∈ A, x ∈ B) → A.length ≤ B.length
  | [], _, _, _ => by simp
  | a :: A, B, hA, h => by
    rw [List.nodup_cons] at hA
    have ih := sub_len (A := A) (B := B.erase a) hA.2 (fun x hx => by
      have : x ≠ a := fun e => hA.1 (e ▸ hx)
      exact (List.mem_erase_of_ne this).2 (h x (by simp [hx])))
    have ha : a ∈ B := h a (by simp)
    rw [List.length_erase_of_mem ha] at ih
    have : 0 < B.length := List.length_pos_of_mem ha
    simp only [List.length_cons]
    omega
section
variable {α : Type} [BEq α] [LawfulBEq α]
theorem ofF_spec (ks : List α) (k : α) (h : ks.Nodup) : (ofF ks k).2.Nodup ∧ ks <+: (ofF ks k).2 ∧ (ofF ks k).2[(ofF ks k).1]? = some k := by
  unfold ofF
  split
  · rename_i hc
    have hm : k ∈ ks := by simpa using hc
    refine ⟨h, List.prefix_refl _, ?_⟩
    have hlt : ks.idxOf k < ks.length := List.idxOf_lt_length_of_mem hm
    rw [List.getElem?_eq_getElem hlt, List.getElem_idxOf hlt]
  · rename_i hc
    have hm : k ∉ ks := by simpa using hc
    refine ⟨?_, List.prefix_append _ _, by simp⟩
    rw [List.nodup_append]
    exact ⟨h, by simp, fun a ha b hb e => hm (by simp at hb; subst hb; exact e ▸ ha)⟩
theorem ofF_num (ks : List α) (k : α) : ((ofF ks k).1 < ks.length ∧ (ofF ks k).2.length = ks.length) ∨ ((ofF ks k).1 = ks.length ∧ (ofF ks k).2.length = ks.length + 1) := by
  unfold ofF
  split
  · rename_i hc
    have hm : k ∈ ks := by simpa using hc
    exact .inl ⟨List.idxOf_lt_length_of_mem hm, rfl⟩
  · exact .inr ⟨rfl, by simp⟩
omit [BEq α] [LawfulBEq α] in
theorem pre_get {ks ls : List α} {n : Nat} {k : α} (h : ks <+: ls) (hk : ks[n]? = some k) : ls[n]? = some k := by
  obtain ⟨t, rfl⟩ := h
  have : n < ks.length := by
    rcases Nat.lt_or_ge n ks.length with h | h
    · exact h
    · rw [List.getElem?_eq_none h] at hk; cases hk
  rw [List.getElem?_append_left this, hk]
omit [BEq α] [LawfulBEq α] in
theorem nod_inj {ks : List α} (h : ks.Nodup) {n m : Nat} {k : α} (h1 : ks[n]? = some k) (h2 : ks[m]? = some k) : n = m := by
  obtain ⟨hn, e1⟩ := List.getElem?_eq_some_iff.1 h1
  obtain ⟨hm, e2⟩ := List.getElem?_eq_some_iff.1 h2
  exact (List.getElem_inj h).1 (e1.trans e2.symm)
end
/-- From a start, link by link, to an end. -/
def chain (len : Nat) (old : List Nat) (F : List Link) : Int → List (Int × Int) → Int → Prop
  | a, [], b => b = a
  | a, x :: xs, b => ∃ n : Nat, F[n]? = some (a, refOf len old x) ∧ chain len old F n xs b
theorem chain_pre {len : Nat} {old : List Nat} {F G : List Link} (h : F <+: G) : ∀ {xs : List (Int × Int)} {a b : Int}, chain len old F a xs b → chain len old G a xs b
  | [], _, _, hc => hc
  | _ :: _, _, _, ⟨n, h1, h2⟩ => ⟨n, pre_get h h1, chain_pre h h2⟩
theorem chain_inj {len : Nat} {old : List Nat} {F : List Link} (hF : F.Nodup) : ∀ {xs ys : List (Int × Int)} {a a' b : Int}, xs.length = ys.length → chain len old F a xs b → chain len old F a' ys b → a = a' ∧ xs.map (refOf len old) = ys.map (refOf len old)
  | [], [], a, a', b, _, h1, h2 => ⟨h1.symm.trans h2, rfl⟩
  | x :: xs, y :: ys, a, a', b, hl, ⟨n, h1, h2⟩, ⟨m, h3, h4⟩ => by
    obtain ⟨e1, e2⟩ := chain_inj hF (by simpa using hl) h2 h4
    have e1 : n = m := by omega
    subst e1
    rw [h1] at h3
    injection h3 with h3
    injection h3 with h3 h5
    exact ⟨h3, by rw [List.map_cons, List.map_cons, h5, e2]⟩
  | [], _ :: _, _, _, _, hl, _, _ => by simp at hl
  | _ :: _, [], _, _, _, hl, _, _ => by simp at hl
theorem chain_det {len : Nat} {old : List Nat} {F : List Link} (hF : F.Nodup) : ∀ {xs ys : List (Int × Int)} {a b b' : Int}, xs.map (refOf len old) = ys.map (refOf len old) → chain len old F a xs b → chain len old F a ys b' → b = b'
  | [], [], a, b, b', _, h1, h2 => h1.trans h2.symm
  | x :: xs, y :: ys, a, b, b', hl, ⟨n, h1, h2⟩, ⟨m, h3, h4⟩ => by
    rw [List.map_cons, List.map_cons] at hl
    injection hl with e1 e2
    rw [e1] at h1
    have := nod_inj hF h1 h3
    subst this
    exact chain_det hF e2 h2 h4
  | [], _ :: _, _, _, _, hl, _, _ => by simp at hl
  | _ :: _, [], _, _, _, hl, _, _ => by simp at hl
theorem link_fold (len : Nat) (old : List Nat) : ∀ (xs : List (Int × Int)) (a : Int) (ls : List Link), ls.Nodup → (xs.foldl (linkF len old) (a, ls)).2.Nodup ∧ ls <+: (xs.foldl (linkF len old) (a, ls)).2 ∧ chain len old (xs.foldl (linkF len old) (a, ls)).2 a xs (xs.foldl (linkF len old) (a, ls)).1
  | [], a, ls, h => ⟨h, List.prefix_refl _, rfl⟩
  | x :: xs, a, ls, h => by
    obtain ⟨h1, h2, h3⟩ := ofF_spec ls (a, refOf len old x) h
    obtain ⟨h4, h5, h6⟩ := link_fold len old xs ((ofF ls (a, refOf len old x)).1 : Int) (ofF ls (a, refOf len old x)).2 h1
    exact ⟨h4, h2.trans h5, _, pre_get h5 h3, h6⟩
/-- What holds after some rows of a round. -/
structure RInv (l : List Row) (old : List Nat) (s : RS) (i : Nat) : Prop where
  n1 : s.starts.Nodup
  n2 : s.links.Nodup
  n3 : s.classes.Nodup
  len : s.out.length = i
  num : ∀ p, p ∈ s.out ↔ p < s.classes.length
  each : ∀ j, j < i → ∃ (f : Nat) (a : Int), s.starts[f]? = some ((old.getD j 0 : Int), (l.getD j default).c, ((l.getD j default).to.length : Int)) ∧ chain l.length old s.links (-1 - f) (l.getD j default).to a ∧ s.classes[s.out.getD j 0]? = some ((f : Int), a)
theorem rinv (l : List Row) (old : List Nat) (ho : old.length = l.length) : ∀ i, i ≤ l.length → RInv l old (roundTo l old i) i
  | 0, _ => ⟨by simp [roundTo], by simp [roundTo], by simp [roundTo], by simp [roundTo], by simp [roundTo], fun j h => absurd h (by omega)⟩
  | i + 1, h => by
    have ih := rinv l old ho i (by omega)
    have hi : i < l.length := by omega
    have hio : i < old.length := by omega
    rw [roundTo_succ l old i hi hio]
    generalize roundTo l old i = s at ih
    obtain ⟨f1, f2, f3⟩ := ofF_spec s.starts ((old[i] : Int), l[i].c, (l[i].to.length : Int)) ih.n1
    obtain ⟨g1, g2, g3⟩ := link_fold l.length old l[i].to (-1 - ((ofF s.starts ((old[i] : Int), l[i].c, (l[i].to.length : Int))).1 : Int)) s.links ih.n2
    simp only [rowF]
    generalize ofF s.starts ((old[i] : Int), l[i].c, (l[i].to.length : Int)) = f at *
    generalize l[i].to.foldl (linkF l.length old) (-1 - (f.1 : Int), s.links) = g at *
    obtain ⟨k1, k2, k3⟩ := ofF_spec s.classes ((f.1 : Int), g.1) ih.n3
    have k4 := ofF_num s.classes ((f.1 : Int), g.1)
    generalize ofF s.classes ((f.1 : Int), g.1) = q at *
    refine ⟨f1, g1, k1, by simp [ih.len], fun p => ?_, fun j hj => ?_⟩
    · simp only [List.mem_append, List.mem_singleton, ih.num p]
      omega
    · by_cases e : j = i
      · subst e
        refine ⟨f.1, g.1, ?_, ?_, ?_⟩
        · simpa [hi, hio] using f3
        · simpa [hi] using g3
        · have : (s.out ++ [q.1]).getD j 0 = q.1 := by rw [List.getD_eq_getElem?_getD, List.getElem?_append_right (by rw [ih.len]; exact Nat.le_refl _), ih.len]; simp
          simp only [this]
          exact k3
      · obtain ⟨f', a', h1, h2, h3⟩ := ih.each j (by omega)
        refine ⟨f', a', pre_get f2 h1, chain_pre g2 h2, ?_⟩
        have : (s.out ++ [q.1]).getD j 0 = s.out.getD j 0 := by rw [List.getD_eq_getElem?_getD, List.getElem?_append_left (by rw [ih.len]; omega), List.getD_eq_getElem?_getD]
        simp only [this]
        exact pre_get k2 h3
/-- Two things have one class behind a round, just if they had one ahead of it, one colour, and lead to the same. -/
theorem round_same (l : List Row) (old : List Nat) (ho : old.length = l.length) (i k : Nat) (hi : i < l.length) (hk : k < l.length) :
    (roundF l old).1.getD i 0 = (roundF l old).1.getD k 0 ↔ old.getD i 0 = old.getD k 0 ∧ (l.getD i default).c = (l.getD k default).c ∧ (l.getD i default).to.map (refOf l.length old) = (l.getD k default).to.map (refOf l.length old) := by
  have h := rinv l old ho l.length (Nat.le_refl _)
  unfold roundF
  generalize roundTo l old l.length = s at h
  obtain ⟨f, a, h1, h2, h3⟩ := h.each i hi
  obtain ⟨f', a', h1', h2', h3'⟩ := h.each k hk
  simp only
  constructor
  · intro e
    rw [e, h3'] at h3
    injection h3 with h3
    injection h3 with e1 e2
    have e1 : f' = f := by omega
    subst e1
    subst e2
    rw [h1'] at h1
    injection h1 with h1
    injection h1 with e3 e4
    injection e4 with e4 e5
    exact ⟨by omega, e4.symm, (chain_inj h.n2 (by omega) h2 h2').2⟩
  · rintro ⟨e1, e2, e3⟩
    have e4 : (l.getD i default).to.length = (l.getD k default).to.length := by simpa using congrArg List.length e3
    rw [e1, e2, e4] at h1
    have := nod_inj h.n1 h1 h1'
    subst this
    have := chain_det h.n2 e3 h2 h2'
    subst this
    exact nod_inj h.n3 h3 h3'
end Go.Proofs.Ytaefnggoempdlaa.M2

/- Refinement, in plain Lean. Part 2: rounds come to a rest. -/
namespace Go.Proofs.Ytaefnggoempdlaa.M2
open Go

/-- What is in the lists ahead of each place is a beginning of the numbers. -/
def Canon (ps : List Nat) : Prop := ∀ n, n ≤ ps.length → ∃ m, ∀ p, p ∈ ps.take n ↔ p < m
theorem roundTo_pre (l : List Row) (old : List Nat) (ho : old.length = l.length) : ∀ (n i : Nat), i ≤ n → n ≤ l.length → (roundTo l old i).out = (roundTo l old n).out.take i
  | n, i, hin, hn => by
    induction n with
    | zero =>
      have : i = 0 := by omega
      subst this
      simp [roundTo]
    | succ n ih =>
      by_cases e : i = n + 1
      · subst e
        rw [List.take_of_length_le (by rw [(roundTo_fits l old ho _ hn).2.1]; exact Nat.le_refl _)]
      · rw [ih (by omega) (by omega), roundTo_succ l old n (by omega) (by omega)]
        simp only [rowF]
        rw [List.take_append_of_le_length (by rw [(roundTo_fits l old ho n (by omega)).2.1]; omega)]
theorem cls_canon (l : List Row) : ∀ t, Canon (cls l (t + 1)) := by
  intro t n hn
  have ho := cls_len l t
  rw [cls_len] at hn
  refine ⟨(roundTo l (cls l t) n).classes.length, fun p => ?_⟩
  have : (cls l (t + 1)).take n = (roundTo l (cls l t) n).out := (roundTo_pre l (cls l t) ho l.length n hn (Nat.le_refl _)).symm
  rw [this]
  exact (rinv l (cls l t) ho n hn).num p
theorem cnt_mem (l : List Row) (t p : Nat) : p ∈ cls l (t + 1) ↔ p < cnt l (t + 1) := (rinv l (cls l t) (cls_len l t) l.length (Nat.le_refl _)).num p
theorem cls_ext (l : List Row) (t : Nat) {p : Nat} : p ∈ cls l t ↔ ∃ i, i < l.length ∧ (cls l t).getD i 0 = p := by
  rw [List.mem_iff_getElem]
  constructor
  · rintro ⟨i, h, e⟩
    exact ⟨i, by rw [cls_len] at h; exact h, by simp [h, e]⟩
  · rintro ⟨i, h, e⟩
    have h : i < (cls l t).length := by rw [cls_len]; exact h
    exact ⟨i, h, by simpa [h] using e⟩
theorem cls_finer (l : List Row) (t i k : Nat) (hi : i < l.length) (hk : k < l.length) (h : (cls l (t + 1)).getD i 0 = (cls l (t + 1)).getD k 0) : (cls l t).getD i 0 = (cls l t).getD k 0 :=
  ((round_same l (cls l t) (cls_len l t) i k hi hk).1 h).1
open Classical in
/-- Classes that get no more stay as they are. -/
theorem cls_rest (l : List Row) (t : Nat) : cnt l (t + 1) ≤ cnt l (t + 2) ∧ (cnt l (t + 1) = cnt l (t + 2) → ∀ i k, i < l.length → k < l.length → (cls l (t + 1)).getD i 0 = (cls l (t + 1)).getD k 0 → (cls l (t + 2)).getD i 0 = (cls l (t + 2)).getD k 0) := by
  -- one thing of each class
  have pick : ∀ p, p < cnt l (t + 1) → ∃ i, i < l.length ∧ (cls l (t + 1)).getD i 0 = p := fun p hp => (cls_ext l (t + 1)).1 ((cnt_mem l t p).2 hp)
  let g : Nat → Nat := fun p => if h : p < cnt l (t + 1) then (cls l (t + 2)).getD (Classical.choose (pick p h)) 0 else 0
  have hg : ∀ p (h : p < cnt l (t + 1)), ∃ i, i < l.length ∧ (cls l (t + 1)).getD i 0 = p ∧ g p = (cls l (t + 2)).getD i 0 := fun p h => by
    have := Classical.choose_spec (pick p h)
    exact ⟨_, this.1, this.2, by simp only [g, dif_pos h]⟩
  have ginj : ∀ p q, p < cnt l (t + 1) → q < cnt l (t + 1) → g p = g q → p = q := by
    intro p q hp hq e
    obtain ⟨i, hi, e1, e2⟩ := hg p hp
    obtain ⟨k, hk, e3, e4⟩ := hg q hq
    rw [← e1, ← e3]
    exact cls_finer l (t + 1) i k hi hk (by rw [← e2, ← e4, e])
  have gnod : ((List.range (cnt l (t + 1))).map g).Nodup := by
    rw [List.nodup_iff_pairwise_ne, List.pairwise_map]
    refine List.Pairwise.imp_of_mem ?_ (List.nodup_iff_pairwise_ne.1 List.nodup_range)
    intro a b ha hb hab e
    exact hab (ginj a b (List.mem_range.1 ha) (List.mem_range.1 hb) e)
  have gin : ∀ x ∈ (List.range (cnt l (t + 1))).map g, x ∈ List.range (cnt l (t + 2)) := by
    intro x hx
    obtain ⟨p, hp, rfl⟩ := List.mem_map.1 hx
    obtain ⟨i, hi, _, e⟩ := hg p (List.mem_range.1 hp)
    rw [List.mem_range, ← cnt_mem l (t + 1), e]
    exact (cls_ext l (t + 2)).2 ⟨i, hi, rfl⟩
  have le := sub_len gnod gin
  simp only [List.length_map, List.length_range] at le
  refine ⟨le, fun heq i k hi hk e => ?_⟩
  by_cases hne : (cls l (t + 2)).getD i 0 = (cls l (t + 2)).getD k 0
  · exact hne
  exfalso
  -- both are hit by g, as there are no more numbers than classes
  have hit : ∀ q, q < cnt l (t + 2) → ∃ p, p < cnt l (t + 1) ∧ g p = q := by
    intro q hq
    by_cases hc : ∃ p, p < cnt l (t + 1) ∧ g p = q
    · exact hc
    exfalso
    have := sub_len gnod (B := (List.range (cnt l (t + 2))).erase q) (fun x hx => by
      have hxq : x ≠ q := by
        rintro rfl
        obtain ⟨p, hp, e⟩ := List.mem_map.1 hx
        exact hc ⟨p, List.mem_range.1 hp, e⟩
      exact (List.mem_erase_of_ne hxq).2 (gin x hx))
    rw [List.length_erase_of_mem (List.mem_range.2 hq)] at this
    simp only [List.length_map, List.length_range] at this
    omega
  have q1 : (cls l (t + 2)).getD i 0 < cnt l (t + 2) := (cnt_mem l (t + 1) _).1 ((cls_ext l (t + 2)).2 ⟨i, hi, rfl⟩)
  have q2 : (cls l (t + 2)).getD k 0 < cnt l (t + 2) := (cnt_mem l (t + 1) _).1 ((cls_ext l (t + 2)).2 ⟨k, hk, rfl⟩)
  obtain ⟨p1, hp1, e1⟩ := hit _ q1
  obtain ⟨p2, hp2, e2⟩ := hit _ q2
  obtain ⟨a, ha, a1, a2⟩ := hg p1 hp1
  obtain ⟨b, hb, b1, b2⟩ := hg p2 hp2
  have c1 := cls_finer l (t + 1) i a hi ha (by rw [← a2, e1])
  have c2 := cls_finer l (t + 1) k b hk hb (by rw [← b2, e2])
  have : p1 = p2 := by rw [← a1, ← b1, ← c1, ← c2, e]
  subst this
  exact hne (by rw [← e1, ← e2])
theorem cnt_up (l : List Row) (t : Nat) : cnt l t ≤ cnt l (t + 1) := by
  cases t with
  | zero => exact Nat.zero_le _
  | succ t => exact (cls_rest l t).1
theorem cnt_le (l : List Row) (t : Nat) : cnt l t ≤ l.length := by
  cases t with
  | zero => exact Nat.zero_le _
  | succ t => exact (roundTo_fits l (cls l t) (cls_len l t) l.length (Nat.le_refl _)).2.2
/-- The rounds end. -/
theorem cnt_stop (l : List Row) : ∃ t, (∀ s, s < t → cnt l (s + 1) ≠ cnt l s) ∧ cnt l (t + 1) = cnt l t := by
  have up : ∀ n, (∀ s, s < n → cnt l (s + 1) ≠ cnt l s) → n ≤ cnt l n := by
    intro n
    induction n with
    | zero => intro _; exact Nat.zero_le _
    | succ n ih =>
      intro h
      have h1 := ih (fun s hs => h s (by omega))
      have h2 := h n (by omega)
      have h3 := cnt_up l n
      omega
  have key : ∀ n, (∃ t, t < n ∧ (∀ s, s < t → cnt l (s + 1) ≠ cnt l s) ∧ cnt l (t + 1) = cnt l t) ∨ ∀ s, s < n → cnt l (s + 1) ≠ cnt l s := by
    intro n
    induction n with
    | zero => exact .inr fun s hs => absurd hs (by omega)
    | succ n ih =>
      rcases ih with ⟨t, h1, h2⟩ | h
      · exact .inl ⟨t, by omega, h2⟩
      · by_cases e : cnt l (n + 1) = cnt l n
        · exact .inl ⟨n, by omega, h, e⟩
        · refine .inr fun s hs => ?_
          by_cases e2 : s = n
          · rw [e2]; exact e
          · exact h s (by omega)
  rcases key (l.length + 1) with ⟨t, _, h⟩ | h
  · exact ⟨t, h⟩
  · have := up _ h
    have := cnt_le l (l.length + 1)
    omega
/-- Do two references agree, by numbers of classes? -/
def refN (len : Nat) (c : List Nat) (x y : Int × Int) : Prop := if isThing len x && isThing len y then c.getD x.2.toNat 0 = c.getD y.2.toNat 0 else x = y
theorem refOf_same (len : Nat) (c : List Nat) (x y : Int × Int) : refOf len c x = refOf len c y ↔ refN len c x y := by
  unfold refOf refN
  cases hx : isThing len x <;> cases hy : isThing len y <;> simp
  · intro e
    subst e
    rw [hx] at hy
    cases hy
  · intro e
    subst e
    rw [hx] at hy
    cases hy
  · omega
theorem map_same {α β : Type} (f : α → β) (d : α) : ∀ {xs ys : List α}, xs.map f = ys.map f ↔ xs.length = ys.length ∧ ∀ m, m < xs.length → f (xs.getD m d) = f (ys.getD m d)
  | [], [] => by simp
  | [], y :: ys => by simp
  | x :: xs, [] => by simp
  | x :: xs, y :: ys => by
    rw [List.map_cons, List.map_cons, List.cons.injEq, map_same f d (xs := xs) (ys := ys)]
    constructor
    · rintro ⟨h1, h2, h3⟩
      refine ⟨by simp [h2], fun m hm => ?_⟩
      cases m with
      | zero => exact h1
      | succ m => exact h3 m (by simpa using hm)
    · rintro ⟨h1, h2⟩
      exact ⟨h2 0 (by simp), by simpa using h1, fun m hm => h2 (m + 1) (by simpa using hm)⟩
/-- The classes in the end: of one colour, and leading to the same; the fewest that are so; numbered as they are met. -/
structure Final (l : List Row) (C : List Nat) : Prop where
  len : C.length = l.length
  canon : Canon C
  leads : ∀ i k, i < l.length → k < l.length → C.getD i 0 = C.getD k 0 → (l.getD i default).c = (l.getD k default).c ∧ (l.getD i default).to.length = (l.getD k default).to.length ∧
    ∀ m, m < (l.getD i default).to.length → refN l.length C ((l.getD i default).to.getD m (0, 0)) ((l.getD k default).to.getD m (0, 0))
  fewest : ∀ Q : Nat → Nat → Prop, (∀ i k, i < l.length → k < l.length → Q i k → (l.getD i default).c = (l.getD k default).c ∧ (l.getD i default).to.length = (l.getD k default).to.length ∧
    ∀ m, m < (l.getD i default).to.length → (if isThing l.length ((l.getD i default).to.getD m (0, 0)) && isThing l.length ((l.getD k default).to.getD m (0, 0)) then Q ((l.getD i default).to.getD m (0, 0)).2.toNat ((l.getD k default).to.getD m (0, 0)).2.toNat
      else (l.getD i default).to.getD m (0, 0) = (l.getD k default).to.getD m (0, 0))) → ∀ i k, i < l.length → k < l.length → Q i k → C.getD i 0 = C.getD k 0
theorem isThing_lt {len : Nat} {x : Int × Int} (h : isThing len x = true) : x.2.toNat < len := by
  simp only [isThing, Bool.and_eq_true, decide_eq_true_eq] at h
  omega
theorem final (l : List Row) : ∃ C, Final l C ∧ ∃ t, (∀ s, s < t → cnt l (s + 1) ≠ cnt l s) ∧ cnt l (t + 1) = cnt l t ∧ C = cls l (t + 1) := by
  obtain ⟨t, h1, h2⟩ := cnt_stop l
  refine ⟨cls l (t + 1), ⟨cls_len l (t + 1), cls_canon l t, fun i k hi hk e => ?_, fun Q hQ => ?_⟩, t, h1, h2, rfl⟩
  · have r := (round_same l (cls l t) (cls_len l t) i k hi hk).1 e
    obtain ⟨r1, r2⟩ := (map_same (refOf l.length (cls l t)) (0, 0)).1 r.2.2
    refine ⟨r.2.1, r1, fun m hm => ?_⟩
    have r3 := (refOf_same l.length (cls l t) _ _).1 (r2 m hm)
    unfold refN at r3 ⊢
    split at r3
    · rename_i hth
      rw [if_pos hth]
      rw [Bool.and_eq_true] at hth
      cases t with
      | zero =>
        have : cnt l 1 = 0 := h2
        have hm : (cls l 1).getD i 0 < cnt l 1 := (cnt_mem l 0 ((cls l 1).getD i 0)).1 ((cls_ext l 1).2 ⟨i, hi, rfl⟩)
        rw [this] at hm
        omega
      | succ t => exact (cls_rest l t).2 h2.symm _ _ (isThing_lt hth.1) (isThing_lt hth.2) r3
    · rename_i hth
      rw [if_neg hth]
      exact r3
  · have : ∀ t i k, i < l.length → k < l.length → Q i k → (cls l t).getD i 0 = (cls l t).getD k 0 := by
      intro t
      induction t with
      | zero => intro i k hi hk _; simp [cls, hi, hk]
      | succ t ih =>
        intro i k hi hk hq
        obtain ⟨q1, q2, q3⟩ := hQ i k hi hk hq
        refine (round_same l (cls l t) (cls_len l t) i k hi hk).2 ⟨ih i k hi hk hq, q1, (map_same (refOf l.length (cls l t)) (0, 0)).2 ⟨q2, fun m hm => ?_⟩⟩
        rw [refOf_same]
        have q4 := q3 m hm
        unfold refN
        split at q4
        · rename_i hth
          rw [if_pos hth]
          rw [Bool.and_eq_true] at hth
          exact ih _ _ (isThing_lt hth.1) (isThing_lt hth.2) q4
        · rename_i hth
          rw [if_neg hth]
          exact q4
    exact this (t + 1)
end Go.Proofs.Ytaefnggoempdlaa.M2

/- Refinement, in plain Lean. Part 3: the document's table and classes are those of the rounds. -/
namespace Go.Proofs.Ytaefnggoempdlaa.M2
open Go

theorem cGo_many (M : List (List Bool)) (out : List Nat) (i many : Nat) : ∀ d, d ≤ i → (∀ k, i - d ≤ k → k < i → look2 M i k = true) → cGo M out i many d = many
  | 0, _, _ => rfl
  | d + 1, hd, h => by
    rw [cGo, h (i - 1 - d) (by omega) (by omega), if_pos rfl]
    exact cGo_many M out i many d (by omega) (fun k h1 h2 => h k (by omega) h2)
theorem cGo_hit (M : List (List Bool)) (out : List Nat) (i many p : Nat) : ∀ d, d ≤ i → (∀ k, i - d ≤ k → k < i → look2 M i k = false → out.getD k 0 = p) → (∃ k, i - d ≤ k ∧ k < i ∧ look2 M i k = false) → cGo M out i many d = p
  | 0, _, _, ⟨k, h1, h2, _⟩ => by omega
  | d + 1, hd, h, ⟨k, h1, h2, h3⟩ => by
    rw [cGo]
    cases hb : look2 M i (i - 1 - d) with
    | true =>
      rw [if_pos rfl]
      refine cGo_hit M out i many p d (by omega) (fun k h1 h2 => h k (by omega) h2) ⟨k, ?_, h2, h3⟩
      rcases Nat.lt_or_ge k (i - d) with hk | hk
      · have : k = i - 1 - d := by omega
        subst this
        rw [h3] at hb
        cases hb
      · exact hk
    | false =>
      rw [if_neg (by simp)]
      exact h _ (by omega) (by omega) hb
theorem refTo_canon (C : List Nat) (hC : Canon C) (M : List (List Bool)) (hp : ∀ i k, k < i → i < C.length → (look2 M i k = false ↔ C.getD i 0 = C.getD k 0)) :
    ∀ n, n ≤ C.length → (refTo M n).1 = C.take n ∧ ∀ p, p ∈ C.take n ↔ p < (refTo M n).2
  | 0, _ => by simp [refTo]
  | n + 1, hn => by
    obtain ⟨ih1, ih2⟩ := refTo_canon C hC M hp n (by omega)
    have hlt : n < C.length := by omega
    have hlen : (C.take n).length = n := by rw [List.length_take]; omega
    obtain ⟨m', hm'⟩ := hC (n + 1) hn
    rw [refTo, refStep, ih1, hlen, List.take_succ_eq_append_getElem hlt]
    rw [List.take_succ_eq_append_getElem hlt] at hm'
    generalize (refTo M n).2 = m at *
    have hget : ∀ k, k < n → (C.take n).getD k 0 = C.getD k 0 := fun k hk => by
      rw [List.getD_eq_getElem?_getD, List.getD_eq_getElem?_getD, List.getElem?_take, if_pos hk]
    have hmem : ∀ k, k < n → C.getD k 0 ∈ C.take n := fun k hk => by
      rw [← hget k hk]
      have : k < (C.take n).length := by omega
      rw [List.getD_eq_getElem?_getD, List.getElem?_eq_getElem this]
      exact List.getElem_mem this
    have hgn : C.getD n 0 = C[n] := by simp [hlt]
    have hm2 := hm' m
    have hmn := hm' C[n]
    simp only [List.mem_append, List.mem_singleton, ih2 m, or_true, true_iff] at hm2 hmn
    rcases Nat.lt_or_ge C[n] m with h | h
    · -- a class that was met
      obtain ⟨k, hk, e⟩ : ∃ k, k < n ∧ C.getD k 0 = C[n] := by
        obtain ⟨k, hk, e⟩ := List.mem_iff_getElem.1 ((ih2 C[n]).2 h)
        refine ⟨k, by omega, ?_⟩
        rw [← hget k (by omega), List.getD_eq_getElem?_getD, List.getElem?_eq_getElem hk, ← e]
        rfl
      have hc : cGo M (C.take n) n m n = C[n] := by
        refine cGo_hit M _ n m C[n] n (Nat.le_refl _) (fun j h1 h2 h3 => ?_) ⟨k, by omega, hk, (hp n k hk hlt).2 (by rw [hgn, e])⟩
        rw [hget j h2, ← hgn]
        exact ((hp n j h2 hlt).1 h3).symm
      refine ⟨by rw [hc], fun p => ?_⟩
      rw [hc, if_neg (by omega), List.mem_append, ih2 p, List.mem_singleton]
      omega
    · have hno : ∀ k, k < n → C.getD k 0 ≠ C[n] := fun k hk e => by
        have := (ih2 C[n]).1 (e ▸ hmem k hk)
        omega
      have hpm : C[n] = m := by
        have h1 : ¬ (m < m) := by omega
        simp only [h1, false_or] at hm2
        rcases Nat.lt_or_ge m C[n] with h3 | h3
        · have : m < m' := by omega
          exact (hm2.2 this).symm
        · omega
      have hc : cGo M (C.take n) n m n = m := by
        refine cGo_many M _ n m n (Nat.le_refl _) (fun k _ hk => ?_)
        cases hb : look2 M n k with
        | true => rfl
        | false => exact absurd ((hp n k hk hlt).1 hb).symm (by rw [hgn]; exact hno k hk)
      refine ⟨by rw [hc, hpm], fun p => ?_⟩
      rw [hc, if_pos rfl, List.mem_append, ih2 p, List.mem_singleton, hpm]
      omega
/-- What can be told apart, by the classes in the end. -/
def apartA (C : List Nat) (i k : Nat) : Prop := C.getD i 0 ≠ C.getD k 0
theorem permD {l : List Row} {i : Nat} (h : i < l.length) : (l.map perm).getD i default = perm (l.getD i default) := by simp [h]
theorem nowF_perm (len : Nat) (M : List (List Bool)) (a b : Row) : nowF len M (perm a) (perm b) = nowF len M a b := rfl
theorem nowF_false {len : Nat} {M : List (List Bool)} {a b : Row} (h : nowF len M a b = false) : a.c = b.c ∧ a.to.length = b.to.length ∧ ∀ m, m < a.to.length → nowAt len M (a.to.getD m (0, 0)) (b.to.getD m (0, 0)) = false := by
  simp only [nowF, Bool.or_eq_false_iff, decide_eq_false_iff_not, Decidable.not_not, List.any_eq_false] at h
  refine ⟨h.1.1, h.1.2, fun m hm => ?_⟩
  have h1 : m < (a.to.zip b.to).length := by rw [List.length_zip]; omega
  have := h.2 _ (List.getElem_mem h1)
  rw [List.getElem_zip] at this
  rw [getRef hm, getRef (show m < b.to.length by omega)]
  simpa using this
theorem nowF_true {len : Nat} {M : List (List Bool)} {a b : Row} (h : nowF len M a b = true) (h1 : a.c = b.c) (h2 : a.to.length = b.to.length) : ∃ m, m < a.to.length ∧ nowAt len M (a.to.getD m (0, 0)) (b.to.getD m (0, 0)) = true := by
  simp only [nowF, h1, h2, ne_eq, not_true_eq_false, decide_false, Bool.false_or, List.any_eq_true] at h
  obtain ⟨xy, hin, hx⟩ := h
  obtain ⟨m, hm, rfl⟩ := List.mem_iff_getElem.1 hin
  rw [List.length_zip] at hm
  rw [List.getElem_zip] at hx
  exact ⟨m, by omega, by rw [getRef (show m < a.to.length by omega), getRef (show m < b.to.length by omega)]; exact hx⟩
theorem table_hA {l : List Row} {C : List Nat} (hC : Final l C) : ∀ M i k, i < (l.map perm).length → k < (l.map perm).length → inA (apartA C) (l.map perm).length M → nowF (l.map perm).length M ((l.map perm).getD i default) ((l.map perm).getD k default) = true → apartA C i k := by
  intro M i k hi hk hM hn e
  rw [List.length_map] at *
  rw [permD hi, permD hk, nowF_perm] at hn
  obtain ⟨c1, c2, c3⟩ := hC.leads i k hi hk e
  obtain ⟨m, hm, h⟩ := nowF_true hn c1 c2
  have := c3 m hm
  unfold nowAt at h
  unfold refN at this
  split at h
  · rename_i hth
    rw [if_pos hth] at this
    exact hM.2 _ _ h this
  · rename_i hth
    rw [if_neg hth] at this
    rw [this] at h
    simp at h
theorem table_final {l : List Row} {C : List Nat} (hC : Final l C) {M : List (List Bool)} (hM : inA (apartA C) (l.map perm).length M) (hs : stable (l.map perm) M) (i k : Nat) (hi : i < l.length) (hk : k < l.length) : look2 M i k = false ↔ C.getD i 0 = C.getD k 0 := by
  constructor
  · refine hC.fewest (fun i k => look2 M i k = false) (fun i k hi hk hq => ?_) i k hi hk
    rcases hs i k (by simpa using hi) (by simpa using hk) with h | h
    · rw [hq] at h; cases h
    rw [permD hi, permD hk, nowF_perm, List.length_map] at h
    obtain ⟨h1, h2, h3⟩ := nowF_false h
    refine ⟨h1, h2, fun m hm => ?_⟩
    have h4 := h3 m hm
    unfold nowAt at h4
    split at h4
    · rename_i hth
      rw [if_pos hth]
      exact h4
    · rename_i hth
      rw [if_neg hth]
      simpa using h4
  · intro e
    cases hb : look2 M i k with
    | false => rfl
    | true => exact absurd e (hM.2 i k hb)
theorem ref_final {l : List Row} {C : List Nat} (hC : Final l C) {M : List (List Bool)} (hM : inA (apartA C) (l.map perm).length M) (hs : stable (l.map perm) M) : (refTo M (l.map perm).length).1 = C := by
  rw [List.length_map, ← hC.len]
  have := (refTo_canon C hC.canon M (fun i k hk hi => table_final hC hM hs i k (by rw [← hC.len]; exact hi) (by rw [← hC.len]; omega)) C.length (Nat.le_refl _)).1
  rw [this, List.take_length]
end Go.Proofs.Ytaefnggoempdlaa.M2

/- Typed arguments, as this chapter's data. -/
namespace Go.Proofs.Ytaefnggoempdlaa.M2
open Go

theorem map_of {α : Type} {P : List U → Prop} (f : α → List U) : ∀ {xs : List (List U)}, (∀ x ∈ xs, ∃ r, x = f r ∧ P (f r)) → ∃ l : List α, xs = l.map f
  | [], _ => ⟨[], rfl⟩
  | x :: xs, h => by
    obtain ⟨r, e, _⟩ := h x (by simp)
    obtain ⟨l, hl⟩ := map_of f (xs := xs) (fun y hy => h y (by simp [hy]))
    exact ⟨r :: l, by rw [List.map_cons, e, hl]⟩
theorem typed_int {d : Nat} {us : List U} (h : Typed Try.prog (d + 1) 3 us) : ∃ n, us = [i64 n] ∧ -9223372036854775808 ≤ n ∧ n < 9223372036854775808 := by
  simp only [Typed, Try.underlying3] at h
  obtain ⟨n, e, hw⟩ := h
  refine ⟨n, e, ?_⟩
  simp [Lit.wf, IntKind.min, IntKind.max, IntKind.bits, IntKind.signed] at hw
  omega
theorem typed_int2 {d : Nat} {us : List U} (h : Typed Try.prog (d + 1) 2 us) : ∃ n, us = [i64 n] ∧ -9223372036854775808 ≤ n ∧ n < 9223372036854775808 := by
  simp only [Typed, Try.underlying2] at h
  obtain ⟨n, e, hw⟩ := h
  refine ⟨n, e, ?_⟩
  simp [Lit.wf, IntKind.min, IntKind.max, IntKind.bits, IntKind.signed] at hw
  omega
theorem cells38 : Try.prog.cellsOf 38 = 2 := by kernel_rfl
theorem cells40 : Try.prog.cellsOf 40 = 2 := by kernel_rfl
theorem cells36 : Try.prog.cellsOf 36 = 1 := by kernel_rfl
theorem cells3 : Try.prog.cellsOf 3 = 1 := by kernel_rfl
theorem cells2 : Try.prog.cellsOf 2 = 1 := by kernel_rfl
theorem typed_ref {d : Nat} {us : List U} (h : Typed Try.prog (d + 2) 40 us) : ∃ x : Int × Int, us = refU x := by
  rw [Typed] at h
  simp only [Try.underlying40, cells40] at h
  obtain ⟨hl, h⟩ := h
  match us, hl with
  | [a, b], _ =>
    have h1 := h _ (by simp; exact .inl rfl)
    have h2 := h _ (by simp; exact .inr rfl)
    simp only [cells3, cells2, List.drop, List.take] at h1 h2
    obtain ⟨n, e1, _⟩ := typed_int h1
    obtain ⟨m, e2, _⟩ := typed_int2 h2
    injection e1 with e1
    injection e2 with e2
    exact ⟨(n, m), by rw [e1, e2]; rfl⟩
theorem typed_row {d : Nat} {us : List U} (h : Typed Try.prog (d + 4) 38 us) : ∃ r : Row, us = rowU r ∧ r.q = false := by
  rw [Typed] at h
  simp only [Try.underlying38, cells38] at h
  obtain ⟨hl, h⟩ := h
  match us, hl with
  | [a, b], _ =>
    have h1 := h _ (by simp; exact .inl rfl)
    have h2 := h _ (by simp; exact .inr rfl)
    simp only [cells3, cells36, List.drop, List.take] at h1 h2
    obtain ⟨n, e1, _⟩ := typed_int h1
    rw [Typed] at h2
    simp only [Try.underlying36] at h2
    obtain ⟨xs, e2, _, h3⟩ := h2
    injection e1 with e1
    injection e2 with e2
    obtain ⟨l, hl⟩ := map_of (P := fun _ => True) refU (xs := xs) (fun x hx => by
      obtain ⟨y, e⟩ := typed_ref (h3 x hx).1
      exact ⟨y, e, trivial⟩)
    exact ⟨⟨false, n, l⟩, by rw [e1, e2, hl]; rfl, rfl⟩
theorem typed_rows {u : U} (h : Typed Try.prog 8 22 [u]) : ∃ l : List Row, u = rowsU false l ∧ l.length < 9223372036854775808 := by
  rw [Typed] at h
  simp only [Try.underlying22] at h
  obtain ⟨xs, e, hm, h⟩ := h
  obtain ⟨l, hl⟩ := map_of (P := fun _ => True) rowU (xs := xs) (fun x hx => by
    obtain ⟨y, e, _⟩ := typed_row (h x hx).1
    exact ⟨y, e, trivial⟩)
  injection e with e
  refine ⟨l, by rw [e, hl]; rfl, ?_⟩
  rw [hl, List.length_map] at hm
  simp only [maxLen] at hm
  omega
theorem typed_intA {u : U} (h : Typed Try.prog 8 3 [u]) : ∃ n, u = i64 n ∧ -9223372036854775808 ≤ n ∧ n < 9223372036854775808 := by
  obtain ⟨n, e, hn⟩ := typed_int h
  injection e with e
  exact ⟨n, e, hn⟩
theorem typed_ints {u : U} (h : Typed Try.prog 8 25 [u]) : ∃ l : List Int, u = .sl false (l.map fun n => [i64 n]) ∧ l.length < 9223372036854775808 := by
  rw [Typed] at h
  simp only [Try.underlying25] at h
  obtain ⟨xs, e, hm, h⟩ := h
  obtain ⟨l, hl⟩ := map_of (P := fun _ => True) (fun n : Int => [i64 n]) (xs := xs) (fun x hx => by
    obtain ⟨y, e, _⟩ := typed_int (h x hx).1
    exact ⟨y, e, trivial⟩)
  injection e with e
  refine ⟨l, by rw [e, hl], ?_⟩
  rw [hl, List.length_map] at hm
  simp only [maxLen] at hm
  omega
end Go.Proofs.Ytaefnggoempdlaa.M2
