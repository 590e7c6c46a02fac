/- Plain: which places are cut, round by round. -/
import Derived.Test.YtcehbpimdngjfaaDoorCi
import Derived.Test.YtcehbpimdngjfaaDoorCg
set_option linter.unusedSimpArgs false
set_option linter.unusedVariables false
set_option linter.unusedSectionVars false
namespace Go.Proofs.YtcehbpimdngjfaaDoor.M2
open Go
theorem skel_same {l : List Ins} {cut : List Bool} (hr : rightF l = true) : (pNodes l cut).map rN = (rPlaces l cut).map (rNode l cut (rPlaces l cut)) := by
  obtain ⟨h1, _⟩ := nodes_spec (cut := cut) hr
  rw [h1, List.map_map]
  refine List.map_congr_left fun i _ => ?_
  simp only [Function.comp, rN, rNode, rOuts, fsC]
  split <;> rfl
theorem skel_facts {l : List Ins} {cut : List Bool} (hr : rightF l = true) : (pNodes l cut).length ≤ 200 ∧ (∀ x ∈ pNodes l cut, (x.2.getD []).length ≤ 2 ∧ ∀ o ∈ x.2.getD [], o.2.length = 24) ∧ (pEntry l).2.length = 24 := by
  obtain ⟨h1, h2, h3, h4, h5, h6⟩ := nodes_spec (cut := cut) hr
  have h200 := (right_facts hr).1
  refine ⟨by rw [h1, List.length_map]; omega, fun x hx => ?_, by rw [h2]; exact wq_t hr (right_facts hr).2.1 _⟩
  rw [h1] at hx
  obtain ⟨i, hi, rfl⟩ := List.mem_map.1 hx
  obtain ⟨k1, k2⟩ := h5 i hi
  simp only
  split
  · simp
  · simp only [Option.getD_some, List.length_map]
    refine ⟨fs_len l i, fun o ho => ?_⟩
    obtain ⟨a, ha, rfl⟩ := List.mem_map.1 ho
    exact wq_t hr ((fsAt_ok hr k1 k2).1 a ha) _
theorem nodeEs_from (n : Nat) : ∀ (k : Nat) (os : List Way), ∀ e ∈ nodeEs n k os, e.2.1 = (n : Int)
  | _, [], e, he => by simp [nodeEs] at he
  | k, o :: os, e, he => by
    rw [nodeEs] at he
    rcases List.mem_cons.1 he with rfl | he
    · rfl
    · exact nodeEs_from n (k + 1) os e he
theorem nodeEs_hit (n : Nat) (j : Int) : ∀ (k : Nat) (os : List Way), (∃ o ∈ os, o.1 = j) → hits j (nodeEs n k os) ≠ []
  | _, [], h => by obtain ⟨o, ho, _⟩ := h; cases ho
  | k, o :: os, h => by
    unfold hits
    rw [nodeEs, List.filter_cons]
    by_cases hj : o.1 = j
    · simp [hj]
    · rw [if_neg (by simpa using hj)]
      obtain ⟨o', ho, h2⟩ := h
      rcases List.mem_cons.1 ho with rfl | ho
      · exact absurd h2 hj
      · exact nodeEs_hit n j (k + 1) os ⟨o', ho, h2⟩
theorem hits_from {j : Int} {es : List (Int × Edge)} {n : Int} (h : ∀ e ∈ es, e.2.1 = n) : ∀ e ∈ hits j es, e.1 = n := by
  intro e he
  obtain ⟨x, hx, rfl⟩ := List.mem_map.1 he
  exact h x ((List.mem_filter.1 hx).1)
theorem hits_first (j : Int) : ∀ (rn : List RNode) (k m : Nat), (∃ x, rn[m]? = some x ∧ ∃ o ∈ x.2, o.1 = j) → ∃ e t, hits j (allEs k rn) = e :: t ∧ e.1 ≤ ((k + m : Nat) : Int)
  | [], k, m, h => by obtain ⟨x, hx, _⟩ := h; simp at hx
  | x :: rn, k, m, h => by
    rw [allEs, hits_app]
    cases hh : hits j (nodeEs k 0 x.2) with
    | cons e t =>
      refine ⟨e, t ++ hits j (allEs (k + 1) rn), rfl, ?_⟩
      have := hits_from (j := j) (nodeEs_from k 0 x.2) e (by rw [hh]; simp)
      omega
    | nil =>
      obtain ⟨y, hy, o, ho, h2⟩ := h
      cases m with
      | zero =>
        simp only [List.getElem?_cons_zero, Option.some.injEq] at hy
        subst hy
        exact absurd hh (nodeEs_hit k j 0 x.2 ⟨o, ho, h2⟩)
      | succ m =>
        obtain ⟨e, t, h3, h4⟩ := hits_first j rn (k + 1) m ⟨y, by simpa using hy, o, ho, h2⟩
        exact ⟨e, t, by simpa using h3, by omega⟩
theorem idxOf_at {ps : List Nat} (hn : ps.Nodup) {j p : Nat} (h : ps[j]? = some p) : ps.idxOf p = j := by
  obtain ⟨hj, rfl⟩ := List.getElem?_eq_some_iff.1 h
  exact hn.idxOf_getElem j hj
theorem to_first {l : List Ins} {cut : List Bool} (hr : rightF l = true) {n : Nat} (hn : n < (pNodes l cut).length) : ∃ e t, toF (pEntry l) ((pNodes l cut).map rN) n = e :: t ∧ e.1 < n := by
  obtain ⟨h1, h2, h3, h4, h5, h6⟩ := nodes_spec (cut := cut) hr
  rw [skel_same (cut := cut) hr, h2]
  have hlen : n < (rPlaces l cut).length := by rw [h1, List.length_map] at hn; exact hn
  have hout : ∀ a, ¬ (wq l a).1 < 0 → (rPlaces l cut)[n]? = some (wq l a).1.toNat → (outP l (rPlaces l cut) a).1 = n := fun a ha hp => by
    unfold outP
    rw [if_neg ha, idxOf_at h4 hp]
  unfold toF
  rcases places_found (l := l) (cut := cut) n hlen with ⟨k1, k2⟩ | ⟨m, i, k1, k2, a, k3, k4, k5⟩
  · have := hout 0 k1 k2
    refine ⟨(-1, 0), hits n (allEs 0 ((rPlaces l cut).map (rNode l cut (rPlaces l cut)))), ?_, by simp only; omega⟩
    unfold hits
    rw [List.filter_cons, if_pos (by simpa using this)]
    rfl
  · have := hout a k4 k5
    by_cases he : (outP l (rPlaces l cut) 0).1 = (n : Int)
    · refine ⟨(-1, 0), hits n (allEs 0 ((rPlaces l cut).map (rNode l cut (rPlaces l cut)))), ?_, by simp only; omega⟩
      unfold hits
      rw [List.filter_cons, if_pos (by simpa using he)]
      rfl
    · obtain ⟨e, t, h7, h8⟩ := hits_first (n : Int) ((rPlaces l cut).map (rNode l cut (rPlaces l cut))) 0 m ⟨_, by rw [List.getElem?_map, k2]; rfl, outP l (rPlaces l cut) a, List.mem_map.2 ⟨a, k3, rfl⟩, this⟩
      refine ⟨e, t, ?_, by omega⟩
      rw [← h7]
      unfold hits
      rw [List.filter_cons, if_neg (by simpa using he)]
abbrev FS := Int × Int
abbrev fsO : FS := (-1, 0)
def cstF (c : FS) : Prop := c.1 = 2 ∨ c.1 = 0
def get2 (F : List (List FS)) (n p : Nat) : FS := (F.getD n []).getD p fsO
def set2 (F : List (List FS)) (n p : Nat) (x : FS) : List (List FS) := F.set n ((F.getD n []).set p x)
def sub2 (F : List (List FS)) (e : Edge) (x : FS) : FS := if x.1 = 4 then get2 F e.1.toNat x.2.toNat else x
def meetGo (own : FS) : List FS → FS → FS
  | [], now => now
  | x :: xs, now => if x = fsO then meetGo own xs now else if (¬ x.1 = 2 ∧ ¬ x.1 = 0) ∨ (¬ now = fsO ∧ ¬ now = x) then own else meetGo own xs x
theorem meetGo_spec (own : FS) : ∀ (xs : List FS) (now : FS), now = fsO ∨ cstF now →
    meetGo own xs now = own ∨ (meetGo own xs now = now ∧ ∀ x ∈ xs, x = fsO ∨ x = now) ∨ (now = fsO ∧ cstF (meetGo own xs now) ∧ meetGo own xs now ∈ xs ∧ ∀ x ∈ xs, x = fsO ∨ x = meetGo own xs now)
  | [], now, _ => .inr (.inl ⟨rfl, by simp⟩)
  | x :: xs, now, hn => by
    rw [meetGo]
    split
    · rename_i hx
      rcases meetGo_spec own xs now hn with h | ⟨h1, h2⟩ | ⟨h1, h2, h3, h4⟩
      · exact .inl h
      · refine .inr (.inl ⟨h1, fun y hy => ?_⟩)
        rcases List.mem_cons.1 hy with rfl | hy
        · exact .inl hx
        · exact h2 y hy
      · refine .inr (.inr ⟨h1, h2, List.mem_cons_of_mem _ h3, fun y hy => ?_⟩)
        rcases List.mem_cons.1 hy with rfl | hy
        · exact .inl hx
        · exact h4 y hy
    · rename_i hx
      split
      · exact .inl rfl
      · rename_i hc
        have hcx : cstF x := by
          unfold cstF
          by_cases h2 : x.1 = 2
          · exact .inl h2
          · by_cases h0 : x.1 = 0
            · exact .inr h0
            · exact absurd (.inl ⟨h2, h0⟩) hc
        have hnx : now = fsO ∨ now = x := by
          by_cases h1 : now = fsO
          · exact .inl h1
          · by_cases h2 : now = x
            · exact .inr h2
            · exact absurd (.inr ⟨h1, h2⟩) hc
        rcases meetGo_spec own xs x (.inr hcx) with h | ⟨h1, h2⟩ | ⟨h1, _⟩
        · exact .inl h
        · rcases hnx with rfl | rfl
          · refine .inr (.inr ⟨rfl, by rw [h1]; exact hcx, by rw [h1]; simp, fun y hy => ?_⟩)
            rw [h1]
            rcases List.mem_cons.1 hy with rfl | hy
            · exact .inr rfl
            · exact h2 y hy
          · refine .inr (.inl ⟨h1, fun y hy => ?_⟩)
            rcases List.mem_cons.1 hy with rfl | hy
            · exact .inr rfl
            · exact h2 y hy
        · exact absurd h1 hx
theorem meetGo_good (own c : FS) (hc : cstF c) : ∀ (xs : List FS) (now : FS), now = fsO ∨ now = c → (∀ x ∈ xs, x = fsO ∨ x = c) → meetGo own xs now = fsO ∨ meetGo own xs now = c
  | [], now, hn, _ => hn
  | x :: xs, now, hn, h => by
    rw [meetGo]
    split
    · exact meetGo_good own c hc xs now hn (fun y hy => h y (List.mem_cons_of_mem _ hy))
    · rename_i hx
      have hxc : x = c := (h x (by simp)).resolve_left hx
      subst hxc
      rw [if_neg]
      · exact meetGo_good own x hc xs x (.inr rfl) (fun y hy => h y (List.mem_cons_of_mem _ hy))
      · rintro (⟨h1, h2⟩ | ⟨h1, h2⟩)
        · exact hc.elim h1 h2
        · exact hn.elim h1 h2
theorem meetGo_open (own : FS) : ∀ (xs : List FS), (∀ x ∈ xs, x = fsO) → meetGo own xs fsO = fsO
  | [], _ => rfl
  | x :: xs, h => by
    rw [meetGo, if_pos (h x (by simp))]
    exact meetGo_open own xs (fun y hy => h y (List.mem_cons_of_mem _ hy))
theorem cst_open : ¬ cstF fsO := by unfold cstF; simp
theorem cst_own {p : Int} : ¬ cstF (4, p) := by unfold cstF; simp
theorem meetGo_mono {α : Type} (p : Int) (f g : α → FS) (es : List α) (h : ∀ e ∈ es, f e = fsO ∨ f e = g e ∨ (g e).1 = 4) :
    meetGo (4, p) (es.map f) fsO = fsO ∨ meetGo (4, p) (es.map f) fsO = meetGo (4, p) (es.map g) fsO ∨ meetGo (4, p) (es.map g) fsO = (4, p) := by
  rcases meetGo_spec (4, p) (es.map g) fsO (.inl rfl) with k | ⟨k1, k2⟩ | ⟨_, k2, k3, k4⟩
  · exact .inr (.inr k)
  · refine .inl (meetGo_open _ _ fun x hx => ?_)
    obtain ⟨e, he, rfl⟩ := List.mem_map.1 hx
    have hg : g e = fsO := (k2 _ (List.mem_map.2 ⟨e, he, rfl⟩)).elim id id
    rcases h e he with h1 | h1 | h1
    · exact h1
    · rw [h1, hg]
    · rw [hg] at h1; simp at h1
  · have := meetGo_good (4, p) _ k2 (es.map f) fsO (.inl rfl) (fun x hx => by
      obtain ⟨e, he, rfl⟩ := List.mem_map.1 hx
      have hg := k4 _ (List.mem_map.2 ⟨e, he, rfl⟩)
      rcases h e he with h1 | h1 | h1
      · exact .inl h1
      · rw [h1]; exact hg
      · rcases hg with hg | hg
        · rw [hg] at h1; simp at h1
        · rw [hg] at h1
          exact absurd k2 (fun h => by unfold cstF at h; omega))
    exact this.elim .inl fun h => .inr (.inl h)
theorem get2_set {F : List (List FS)} {n p : Nat} (hn : n < F.length) (hp : p < (F.getD n []).length) (x : FS) (m q : Nat) : get2 (set2 F n p x) m q = if m = n ∧ q = p then x else get2 F m q := by
  unfold get2 set2
  simp only [List.getD_eq_getElem?_getD, List.getElem?_set]
  by_cases hm : n = m
  · subst hm
    rw [if_pos rfl, if_pos hn, Option.getD_some, List.getElem?_set]
    by_cases hq : p = q
    · subst hq
      rw [if_pos rfl, if_pos (by simpa [List.getD_eq_getElem?_getD] using hp)]
      simp
    · rw [if_neg hq, if_neg (fun h => hq h.2.symm)]
  · rw [if_neg hm, if_neg (fun h => hm h.1.symm)]
section
variable (N : Nat) (to : Nat → List Edge) (b : Edge → Nat → FS)
structure ByOK : Prop where
  frm : ∀ n, n < N → ∀ e ∈ to n, ∀ p, p < 24 → (b e p).1 = 4 → e.1.toNat < N ∧ (b e p).2.toNat < 24 ∧ 0 ≤ e.1
  opn : ∀ n, n < N → ∀ e ∈ to n, ∀ p, p < 24 → ¬ b e p = fsO
  zero : ∀ n, n < N → ∀ e ∈ to n, ∀ p, p < 24 → (b e p).1 = 0 → b e p = (0, 0)
  first : ∀ n, n < N → ∃ e t, to n = e :: t ∧ e.1 < n
  pos : ∀ n, n < N → ∀ e ∈ to n, ∀ p, p < 24 → (b e p).1 = 4 → 0 ≤ (b e p).2
def Post (c : FS) (S : Nat → Nat → Prop) : Prop := ∀ n p, S n p → n < N ∧ p < 24 ∧ ∀ e ∈ to n, b e p = c ∨ (b e p).1 = 4 ∧ S e.1.toNat (b e p).2.toNat
def gfp (c : FS) (n p : Nat) : Prop := ∃ S, Post N to b c S ∧ S n p
def meetF (F : List (List FS)) (n p : Nat) : FS := meetGo (4, (p : Int)) ((to n).map fun e => sub2 F e (b e p)) fsO
variable {N to b}
theorem gfp_step {c : FS} {n p : Nat} (h : gfp N to b c n p) : n < N ∧ p < 24 ∧ ∀ e ∈ to n, b e p = c ∨ (b e p).1 = 4 ∧ gfp N to b c e.1.toNat (b e p).2.toNat := by
  obtain ⟨S, hS, h⟩ := h
  obtain ⟨h1, h2, h3⟩ := hS n p h
  exact ⟨h1, h2, fun e he => (h3 e he).imp id fun h4 => ⟨h4.1, S, hS, h4.2⟩⟩
theorem gfp_one (ok : ByOK N to b) {c d : FS} (hc : cstF c) (hd : cstF d) : ∀ (n p : Nat), gfp N to b c n p → gfp N to b d n p → c = d := by
  intro n
  induction n using Nat.strongRecOn with
  | _ n ih =>
    intro p h1 h2
    obtain ⟨hn, hp, k1⟩ := gfp_step h1
    obtain ⟨_, _, k2⟩ := gfp_step h2
    obtain ⟨e, t, he, hlt⟩ := ok.first n hn
    have hm : e ∈ to n := by rw [he]; simp
    rcases k1 e hm with k1 | ⟨k1, k3⟩
    · rcases k2 e hm with k2 | ⟨k2, k4⟩
      · rw [← k1, ← k2]
      · rw [k1] at k2
        unfold cstF at hc
        omega
    · rcases k2 e hm with k2 | ⟨k2, k4⟩
      · rw [k2] at k1
        unfold cstF at hd
        omega
      · have h0 := (ok.frm n hn e hm p hp k1).2.2
        exact ih e.1.toNat (by omega) _ k3 k4
structure FInv (N : Nat) (to : Nat → List Edge) (b : Edge → Nat → FS) (F : List (List FS)) : Prop where
  len : F.length = N
  row : ∀ n, n < N → (F.getD n []).length = 24
  val : ∀ n p, n < N → p < 24 → get2 F n p = fsO ∨ cstF (get2 F n p) ∨ get2 F n p = (4, (p : Int))
  up : ∀ n p, n < N → p < 24 → get2 F n p = fsO ∨ get2 F n p = meetF to b F n p ∨ meetF to b F n p = (4, (p : Int))
  src : ∀ n p, n < N → p < 24 → cstF (get2 F n p) → ∃ m e q, m < N ∧ q < 24 ∧ e ∈ to m ∧ b e q = get2 F n p
  post : ∀ c n p, cstF c → gfp N to b c n p → get2 F n p = fsO ∨ get2 F n p = c
theorem meet_val (F : List (List FS)) (n p : Nat) : meetF to b F n p = fsO ∨ cstF (meetF to b F n p) ∨ meetF to b F n p = (4, (p : Int)) := by
  rcases meetGo_spec (4, (p : Int)) ((to n).map fun e => sub2 F e (b e p)) fsO (.inl rfl) with h | ⟨h, _⟩ | ⟨_, h, _⟩
  · exact .inr (.inr h)
  · exact .inl h
  · exact .inr (.inl h)
theorem meet_src {F : List (List FS)} (ok : ByOK N to b) (h : FInv N to b F) {n p : Nat} (hn : n < N) (hp : p < 24) (hc : cstF (meetF to b F n p)) : ∃ m e q, m < N ∧ q < 24 ∧ e ∈ to m ∧ b e q = meetF to b F n p := by
  rcases meetGo_spec (4, (p : Int)) ((to n).map fun e => sub2 F e (b e p)) fsO (.inl rfl) with k | ⟨k, _⟩ | ⟨_, _, k, _⟩
  · have k : meetF to b F n p = (4, (p : Int)) := k
    rw [k] at hc
    exact absurd hc cst_own
  · have k : meetF to b F n p = fsO := k
    rw [k] at hc
    exact absurd hc cst_open
  · obtain ⟨e, he, k⟩ := List.mem_map.1 k
    have k : sub2 F e (b e p) = meetF to b F n p := k
    unfold sub2 at k
    split at k
    · rename_i h4
      obtain ⟨k1, k2, _⟩ := ok.frm n hn e he p hp h4
      rw [← k] at hc ⊢
      exact h.src _ _ k1 k2 hc
    · exact ⟨n, e, p, hn, hp, he, k⟩
theorem FInv.set {F : List (List FS)} (ok : ByOK N to b) (h : FInv N to b F) {n p : Nat} (hn : n < N) (hp : p < 24) : FInv N to b (set2 F n p (meetF to b F n p)) := by
  have hnF : n < F.length := by rw [h.len]; exact hn
  have hpF : p < (F.getD n []).length := by rw [h.row n hn]; exact hp
  have hg := get2_set hnF hpF (meetF to b F n p)
  have hup : ∀ m q, m < N → q < 24 → get2 F m q = fsO ∨ get2 F m q = get2 (set2 F n p (meetF to b F n p)) m q ∨ get2 (set2 F n p (meetF to b F n p)) m q = (4, (q : Int)) := by
    intro m q hm hq
    rw [hg]
    by_cases hmq : m = n ∧ q = p
    · rw [if_pos hmq]
      obtain ⟨rfl, rfl⟩ := hmq
      exact h.up m q hm hq
    · rw [if_neg hmq]
      exact .inr (.inl rfl)
  have hmono : ∀ m q, m < N → q < 24 → meetF to b F m q = fsO ∨ meetF to b F m q = meetF to b (set2 F n p (meetF to b F n p)) m q ∨ meetF to b (set2 F n p (meetF to b F n p)) m q = (4, (q : Int)) := by
    intro m q hm hq
    refine meetGo_mono (q : Int) _ _ (to m) (fun e he => ?_)
    unfold sub2
    by_cases h4 : (b e q).1 = 4
    · rw [if_pos h4, if_pos h4]
      obtain ⟨k1, k2, _⟩ := ok.frm m hm e he q hq h4
      rcases hup _ _ k1 k2 with k | k | k
      · exact .inl k
      · exact .inr (.inl k)
      · exact .inr (.inr (by rw [k]))
    · rw [if_neg h4, if_neg h4]
      exact .inr (.inl rfl)
  have hrow : ∀ m, m < N → ((set2 F n p (meetF to b F n p)).getD m []).length = 24 := by
    intro m hm
    unfold set2
    rw [List.getD_eq_getElem?_getD, List.getElem?_set]
    by_cases hmn : n = m
    · subst hmn
      rw [if_pos rfl, if_pos hnF, Option.getD_some, List.length_set]
      exact h.row n hn
    · rw [if_neg hmn, ← List.getD_eq_getElem?_getD]
      exact h.row m hm
  refine ⟨by unfold set2; rw [List.length_set]; exact h.len, hrow, fun m q hm hq => ?_, fun m q hm hq => ?_, fun m q hm hq => ?_, fun c m q hc hgf => ?_⟩
  · rw [hg]
    split
    · rename_i hmq
      obtain ⟨rfl, rfl⟩ := hmq
      exact meet_val F m q
    · exact h.val m q hm hq
  · have hm1 := hmono m q hm hq
    rw [hg]
    split
    · rename_i hmq
      obtain ⟨rfl, rfl⟩ := hmq
      exact hm1
    · rcases h.up m q hm hq with k | k | k
      · exact .inl k
      · rw [k]
        exact hm1
      · rw [k] at hm1
        rcases hm1 with hm1 | hm1 | hm1
        · simp at hm1
        · exact .inr (.inr hm1.symm)
        · exact .inr (.inr hm1)
  · rw [hg]
    split
    · rename_i hmq
      obtain ⟨rfl, rfl⟩ := hmq
      exact meet_src ok h hm hq
    · exact h.src m q hm hq
  · rw [hg]
    split
    · rename_i hmq
      obtain ⟨rfl, rfl⟩ := hmq
      obtain ⟨_, _, k⟩ := gfp_step hgf
      refine meetGo_good _ c hc _ _ (.inl rfl) (fun x hx => ?_)
      obtain ⟨e, he, rfl⟩ := List.mem_map.1 hx
      unfold sub2
      rcases k e he with k | ⟨k1, k2⟩
      · rw [k, if_neg]
        · exact .inr rfl
        · intro h4
          unfold cstF at hc
          omega
      · rw [if_pos k1]
        exact h.post c _ _ hc k2
    · exact h.post c m q hc hgf
theorem FInv.done {F : List (List FS)} (ok : ByOK N to b) (h : FInv N to b F) (hfix : ∀ n p, n < N → p < 24 → meetF to b F n p = get2 F n p) : ∀ n p, n < N → p < 24 → (cstF (get2 F n p) ∧ gfp N to b (get2 F n p) n p) ∨ (get2 F n p = (4, (p : Int)) ∧ ∀ c, cstF c → ¬ gfp N to b c n p) := by
  have hno : ∀ n, ∀ p, n < N → p < 24 → ¬ get2 F n p = fsO := by
    intro n
    induction n using Nat.strongRecOn with
    | _ n ih =>
      intro p hn hp hO
      obtain ⟨e, t, he, hlt⟩ := ok.first n hn
      have hm : e ∈ to n := by rw [he]; simp
      have hf := hfix n p hn hp
      rw [hO] at hf
      have hall : ∀ x ∈ (to n).map (fun e => sub2 F e (b e p)), x = fsO := by
        rcases meetGo_spec (4, (p : Int)) ((to n).map fun e => sub2 F e (b e p)) fsO (.inl rfl) with k | ⟨_, k⟩ | ⟨_, k, _⟩
        · have : meetF to b F n p = (4, (p : Int)) := k
          rw [hf] at this
          simp at this
        · exact fun x hx => (k x hx).elim id id
        · have : cstF (meetF to b F n p) := k
          rw [hf] at this
          exact absurd this cst_open
      have hx := hall _ (List.mem_map.2 ⟨e, hm, rfl⟩)
      unfold sub2 at hx
      split at hx
      · rename_i h4
        obtain ⟨k1, k2, k3⟩ := ok.frm n hn e hm p hp h4
        exact ih e.1.toNat (by omega) _ k1 k2 hx
      · exact ok.opn n hn e hm p hp hx
  intro n p hn hp
  rcases h.val n p hn hp with k | k | k
  · exact absurd k (hno n p hn hp)
  · refine .inl ⟨k, fun m q => m < N ∧ q < 24 ∧ get2 F m q = get2 F n p, fun m q hmq => ?_, hn, hp, rfl⟩
    obtain ⟨hm, hq, hv⟩ := hmq
    refine ⟨hm, hq, fun e he => ?_⟩
    have hf := hfix m q hm hq
    rw [hv] at hf
    have hx : sub2 F e (b e q) = fsO ∨ sub2 F e (b e q) = get2 F n p := by
      rcases meetGo_spec (4, (q : Int)) ((to m).map fun e => sub2 F e (b e q)) fsO (.inl rfl) with j | ⟨j, _⟩ | ⟨_, _, _, j⟩
      · have j : meetF to b F m q = (4, (q : Int)) := j
        rw [← hf, j] at k
        exact absurd k cst_own
      · have j : meetF to b F m q = fsO := j
        rw [← hf, j] at k
        exact absurd k cst_open
      · have := j _ (List.mem_map.2 ⟨e, he, rfl⟩)
        rw [show meetGo (4, (q : Int)) ((to m).map fun e => sub2 F e (b e q)) fsO = get2 F n p from hf] at this
        exact this
    unfold sub2 at hx
    split at hx
    · rename_i h4
      obtain ⟨k1, k2, _⟩ := ok.frm m hm e he q hq h4
      exact .inr ⟨h4, k1, k2, hx.resolve_left (hno _ _ k1 k2)⟩
    · exact .inl (hx.resolve_left (ok.opn m hm e he q hq))
  · refine .inr ⟨k, fun c hc hg => ?_⟩
    rcases h.post c n p hc hg with j | j
    · exact hno n p hn hp j
    · rw [← j, k] at hc
      exact cst_own hc
end
end Go.Proofs.YtcehbpimdngjfaaDoor.M2
namespace Go.Proofs.YtcehbpimdngjfaaDoor.M2
open Go
attribute [local simp] ev1 M2.get put A.ev ld sub part elems bin arith un opt idx fillC cellsO splice over newOb sto fillR laidOwn appTo appRow touch touchN touchM touchE touchA plainU flatU plainAs allM rowAt stoRow accM_nil accM_cons accMM_nil accMM_cons frz_int frz_bool frz_str frz_slt frz_nils frz_nilI frz_nilF frz_own frzRow_row frzRow_frow Ob.blw blw_bool blw_int blw_str blw_nils blw_nilI blw_nilF blw_nilp blw_nilm blw_sl blw_own blw_bp blw_rp blw_mp blw_it params
attribute [local simp] frz_agg frz_tup frz_iface frzS_agg frzS_iface accMS_cons frzS_int frzS_bool frzS_str frzS_slt frzS_nils frzS_nilI beq_dec bne_dec
def setsF (x : Ins) : Option Int := if 4 ≤ x.op ∧ x.op ≤ 15 ∧ ¬ x.op = 14 then some x.d else none
def setsT (x : Ins) : U := .tup [i64 ((setsF x).getD 0), .bool (setsF x).isSome]
theorem sets_call (x : Ins) (st : List Ob) : Cl T n_ins_Sets [.agg (insU x)] st (setsT x) st := by
  refine Wp.pure (fn := c_ins_Sets) rfl rfl rfl («as» := [.agg (insU x)]) rfl ?_
  obtain ⟨op, d, a, b, n, to⟩ := x
  unfold setsT
  by_cases c1 : 4 ≤ op
  · by_cases c2 : op ≤ 15
    · by_cases c3 : op = 14
      · have e : setsF ⟨op, d, a, b, n, to⟩ = none := if_neg (by simp only; omega)
        rw [e]
        subst c3
        (all_goals have := fa @insU.eq_1; repeat' first | refine Wp.v ?_ | (refine Wp.c ?_ ?_ <;> intro))
        (all_goals refine Wp.ret ?_); (all_goals (try simp_all [Res, resU, res1, c_ins_Sets])); (all_goals (try omega))
      · have e : setsF ⟨op, d, a, b, n, to⟩ = some d := if_pos (by simp only; omega)
        rw [e]
        (all_goals have := fa (a4 @insU.eq_1 c1 c2 c3); repeat' first | refine Wp.v ?_ | (refine Wp.c ?_ ?_ <;> intro))
        (all_goals refine Wp.ret ?_); (all_goals (try simp_all [Res, resU, res1, c_ins_Sets])); (all_goals (try omega))
    · have e : setsF ⟨op, d, a, b, n, to⟩ = none := if_neg (by simp only; omega)
      rw [e]
      (all_goals have := fa (a3 @insU.eq_1 c1 c2); repeat' first | refine Wp.v ?_ | (refine Wp.c ?_ ?_ <;> intro))
      (all_goals refine Wp.ret ?_); (all_goals (try simp_all [Res, resU, res1, c_ins_Sets])); (all_goals (try omega))
  · have e : setsF ⟨op, d, a, b, n, to⟩ = none := if_neg (by simp only; omega)
    rw [e]
    (all_goals have := fa (a2 @insU.eq_1 c1); repeat' first | refine Wp.v ?_ | (refine Wp.c ?_ ?_ <;> intro))
    (all_goals refine Wp.ret ?_); (all_goals (try simp_all [Res, resU, res1, c_ins_Sets])); (all_goals (try omega))
end Go.Proofs.YtcehbpimdngjfaaDoor.M2
namespace Go.Proofs.YtcehbpimdngjfaaDoor.M2
open Go
def byS (frm : Int) (sets : Option Int) : Src → FS
  | .is n => (2, n)
  | .was L => if frm < 0 then (if locF 8 L then (1, L) else (0, 0)) else if sets = some L then (3, 0) else (4, L)
  | .no => (0, 0)
def wayOf (w : Way) (rn : List RNode) (e : Edge) : Way := if e.1 < 0 then w else (rn.getD e.1.toNat (0, [])).2.getD e.2.toNat (0, [])
def byF (l : List Ins) (w : Way) (rn : List RNode) (e : Edge) (p : Nat) : FS := byS e.1 (setsF (l.getD (rn.getD e.1.toNat (0, [])).1 default)) ((wayOf w rn e).2.getD p .no)
theorem byS_was (frm : Int) (sets : Option Int) (L : Int) : byS frm sets (.was L) = if frm < 0 then (if locF 8 L then (1, L) else (0, 0)) else if sets = some L then (3, 0) else (4, L) := rfl
theorem byS_kind (frm : Int) (sets : Option Int) (s : Src) : byS frm sets s = (0, 0) ∨ (byS frm sets s).1 = 1 ∨ (byS frm sets s).1 = 2 ∨ (byS frm sets s).1 = 3 ∨ ((byS frm sets s).1 = 4 ∧ 0 ≤ frm ∧ s = .was (byS frm sets s).2) := by
  cases s with
  | is n => simp [byS]
  | no => simp [byS]
  | was L =>
    have e : byS frm sets (.was L) = if frm < 0 then (if locF 8 L then (1, L) else (0, 0)) else if sets = some L then (3, 0) else (4, L) := rfl
    rw [e]
    split
    · split <;> simp
    · split
      · simp
      · simp
        omega
/-! Ways that are there. -/
theorem nodeEs_mem (n : Nat) : ∀ (k : Nat) (os : List Way) (e : Int × Edge), e ∈ nodeEs n k os → ∃ (i : Nat) (o : Way), os[i]? = some o ∧ e = (o.1, ((n : Int), ((k + i : Nat) : Int)))
  | _, [], e, h => by simp [nodeEs] at h
  | k, o :: os, e, h => by
    rw [nodeEs] at h
    rcases List.mem_cons.1 h with rfl | h
    · exact ⟨0, o, rfl, rfl⟩
    · obtain ⟨i, o', h1, h2⟩ := nodeEs_mem n (k + 1) os e h
      exact ⟨i + 1, o', by simpa using h1, by rw [h2, show k + 1 + i = k + (i + 1) by omega]⟩
theorem allEs_mem : ∀ (n : Nat) (rn : List RNode) (e : Int × Edge), e ∈ allEs n rn → ∃ (i j : Nat) (x : RNode) (o : Way), rn[i]? = some x ∧ x.2[j]? = some o ∧ e = (o.1, (((n + i : Nat) : Int), (j : Int)))
  | _, [], e, h => by simp [allEs] at h
  | n, x :: rn, e, h => by
    rw [allEs] at h
    rcases List.mem_append.1 h with h | h
    · obtain ⟨j, o, h1, h2⟩ := nodeEs_mem n 0 x.2 e h
      exact ⟨0, j, x, o, rfl, h1, by rw [h2, Nat.zero_add]; rfl⟩
    · obtain ⟨i, j, y, o, h1, h2, h3⟩ := allEs_mem (n + 1) rn e h
      exact ⟨i + 1, j, y, o, by simpa using h1, h2, by rw [h3, show n + 1 + i = n + (i + 1) by omega]⟩
theorem toF_mem {w : Way} {rn : List RNode} {n : Nat} {e : Edge} (h : e ∈ toF w rn n) : e = (-1, 0) ∨ ∃ (m k : Nat) (x : RNode) (o : Way), rn[m]? = some x ∧ x.2[k]? = some o ∧ e = ((m : Int), (k : Int)) := by
  unfold toF hits at h
  obtain ⟨y, hy, rfl⟩ := List.mem_map.1 h
  rcases List.mem_cons.1 (List.mem_filter.1 hy).1 with rfl | hy
  · exact .inl rfl
  · obtain ⟨i, j, x, o, h1, h2, rfl⟩ := allEs_mem 0 rn y hy
    exact .inr ⟨i, j, x, o, h1, h2, by rw [Nat.zero_add]⟩
/-! Tables that paths have. -/
theorem wq_good {l : List Ins} (hr : rightF l = true) {a : Nat} (ha : a < l.length) : GoodT (wq l a).2.1 := by
  unfold wq
  rw [fair_run hr ha]
  cases h : refRun l (l.length + 1) ⟨a, newT, 0⟩ with
  | none => exact newT_ok
  | some s => exact refRun_good (s := ⟨a, newT, 0⟩) newT_ok h
theorem afterF_all {P : Nat → Src → Prop} {t : List Src} (ht : GoodT t) {x : Ins} (h : ∀ p, p < 24 → P p (t.getD p .no)) (hi : x.op = 1 → locF 24 x.d = true → P x.d.toNat (.is x.n))
    (hm : locF 24 x.d = true → locF 24 x.a = true → movesF x = true → (x.op = 2 ∨ x.op = 3) → P x.d.toNat (t.getD x.a.toNat .no) ∧ (x.op = 3 → P x.a.toNat (t.getD x.d.toNat .no))) : ∀ p, p < 24 → P p ((afterF t x).getD p .no) := by
  have hset : ∀ (t : List Src) (d : Nat) (s : Src), t.length = 24 → (∀ p, p < 24 → P p (t.getD p .no)) → P d s → ∀ p, p < 24 → P p ((t.set d s).getD p .no) := by
    intro t d s hl h hs p hp
    rw [List.getD_eq_getElem?_getD, List.getElem?_set]
    by_cases hd : d = p
    · subst hd
      rw [if_pos rfl, if_pos (by omega)]
      exact hs
    · rw [if_neg hd, ← List.getD_eq_getElem?_getD]
      exact h p hp
  unfold afterF
  rw [ht.eq]
  split
  · rename_i hc
    simp only [Bool.and_eq_true] at hc
    split
    · rename_i h1
      exact hset _ _ _ ht.len h (hi h1 hc.1.2)
    · split
      · rename_i h2
        exact hset _ _ _ ht.len h (hm hc.1.2 hc.2 hc.1.1 (.inl h2)).1
      · split
        · rename_i h3
          have := hm hc.1.2 hc.2 hc.1.1 (.inr h3)
          exact hset _ _ _ (by rw [List.length_set]; exact ht.len) (hset _ _ _ ht.len h this.1) (this.2 h3)
        · exact h
  · exact h
theorem refRun_all {l : List Ins} {P : Nat → Src → Prop} (hstep : ∀ x ∈ l, ∀ t, GoodT t → (∀ p, p < 24 → P p (t.getD p .no)) → ∀ p, p < 24 → P p ((afterF t x).getD p .no)) : ∀ (n : Nat) (s s' : RP), GoodT s.t → (∀ p, p < 24 → P p (s.t.getD p .no)) → refRun l n s = some s' → ∀ p, p < 24 → P p (s'.t.getD p .no)
  | 0, _, _, _, _, h => by cases h
  | n + 1, s, s', hg, hs, h => by
    rw [refRun] at h
    split at h
    · rename_i hm
      have hx : l.getD s.to default ∈ l := by
        rw [List.getD_eq_getElem?_getD] at hm ⊢
        cases he : l[s.to]? with
        | none => rw [he] at hm; exact absurd hm (by decide)
        | some x => exact List.mem_of_getElem? he
      exact refRun_all hstep n (refStep l s) s' (hg.after _) (hstep _ hx _ hg hs) h
    · simp only [Option.some.injEq] at h
      subst h
      exact hs
theorem wq_all {l : List Ins} (hr : rightF l = true) {P : Nat → Src → Prop} (h0 : ∀ p : Nat, p < 24 → P p (.was p)) (hstep : ∀ x ∈ l, ∀ t, GoodT t → (∀ p, p < 24 → P p (t.getD p .no)) → ∀ p, p < 24 → P p ((afterF t x).getD p .no)) {a : Nat} (ha : a < l.length) : ∀ p, p < 24 → P p ((wq l a).2.1.getD p .no) := by
  have hn : ∀ p, p < 24 → P p (newT.getD p .no) := by
    intro p hp
    have : newT.getD p .no = .was p := by
      rw [List.getD_eq_getElem?_getD]
      simp [newT, hp]
    rw [this]
    exact h0 p hp
  unfold wq
  rw [fair_run hr ha]
  cases h : refRun l (l.length + 1) ⟨a, newT, 0⟩ with
  | none => exact hn
  | some s => exact refRun_all hstep _ ⟨a, newT, 0⟩ s newT_ok hn h
def numsF (l : List Ins) : List Int := l.foldl (fun out x => if x.op = 1 ∧ x.n ∉ out then out ++ [x.n] else out) []
theorem nums_keep : ∀ (l : List Ins) (out : List Int) (v : Int), v ∈ out → v ∈ l.foldl (fun out x => if x.op = 1 ∧ x.n ∉ out then out ++ [x.n] else out) out
  | [], _, _, h => h
  | x :: l, out, v, h => by
    rw [List.foldl_cons]
    refine nums_keep l _ v ?_
    split
    · exact List.mem_append_left _ h
    · exact h
theorem nums_all : ∀ (l : List Ins) (out : List Int) (x : Ins), x ∈ l → x.op = 1 → x.n ∈ l.foldl (fun out x => if x.op = 1 ∧ x.n ∉ out then out ++ [x.n] else out) out
  | [], _, _, h, _ => by cases h
  | y :: l, out, x, h, h1 => by
    rw [List.foldl_cons]
    rcases List.mem_cons.1 h with rfl | h
    · refine nums_keep l _ _ ?_
      by_cases hm : x.n ∈ out
      · rw [if_neg (fun h => h.2 hm)]
        exact hm
      · rw [if_pos ⟨h1, hm⟩]
        simp
    · exact nums_all l _ x h h1
def tryF (l : List Ins) : List FS := (0, 0) :: (numsF l).map fun n => (2, n)
theorem try_cst {l : List Ins} : ∀ c ∈ tryF l, cstF c := by
  intro c hc
  rcases List.mem_cons.1 hc with rfl | hc
  · exact .inr rfl
  · obtain ⟨n, _, rfl⟩ := List.mem_map.1 hc
    exact .inl rfl
/-! A function's own. -/
abbrev wE (l : List Ins) : Way := pEntry l
abbrev rnE (l : List Ins) (cut : List Bool) : List RNode := (pNodes l cut).map rN
theorem way_src {l : List Ins} (hr : rightF l = true) {cut : List Bool} {P : Nat → Src → Prop} (hP : ∀ a, a < l.length → ∀ p, p < 24 → P p ((wq l a).2.1.getD p .no)) {n : Nat} {e : Edge} (he : e ∈ toF (wE l) (rnE l cut) n) {p : Nat} (hp : p < 24) : P p ((wayOf (wE l) (rnE l cut) e).2.getD p .no) := by
  obtain ⟨h1, h2, h3, h4, h5, h6⟩ := nodes_spec (cut := cut) hr
  have hout : ∀ a, a < l.length → P p ((outP l (rPlaces l cut) a).2.getD p .no) := fun a ha => by
    rw [pOuts_t]
    exact hP a ha p hp
  rcases toF_mem he with rfl | ⟨m, k, x, o, k1, k2, rfl⟩
  · unfold wayOf
    rw [if_pos (by simp)]
    show P p ((pEntry l).2.getD p .no)
    rw [h2]
    exact hout 0 (right_facts hr).2.1
  · unfold wayOf
    rw [if_neg (by simp only; omega)]
    have e1 : (rnE l cut).getD ((m : Int), (k : Int)).1.toNat (0, []) = x := by
      simp only [Int.toNat_natCast]
      rw [List.getD_eq_getElem?_getD, k1]
      rfl
    have e2 : x.2.getD ((m : Int), (k : Int)).2.toNat (0, []) = o := by
      simp only [Int.toNat_natCast]
      rw [List.getD_eq_getElem?_getD, k2]
      rfl
    rw [e1, e2]
    have hx : x ∈ rnE l cut := List.mem_of_getElem? k1
    have ho := List.mem_of_getElem? k2
    rw [show rnE l cut = (rPlaces l cut).map (rNode l cut (rPlaces l cut)) from skel_same (cut := cut) hr] at hx
    obtain ⟨i, hi, rfl⟩ := List.mem_map.1 hx
    have ho : o ∈ (fsC l cut i).map (outP l (rPlaces l cut)) := ho
    obtain ⟨a, ha, rfl⟩ := List.mem_map.1 ho
    refine hout a ?_
    unfold fsC at ha
    split at ha
    · cases ha
    · exact (fsAt_ok hr (h5 i hi).1 (h5 i hi).2).1 a ha
theorem by_ok {l : List Ins} (hr : rightF l = true) (cut : List Bool) : ByOK (rnE l cut).length (toF (wE l) (rnE l cut)) (byF l (wE l) (rnE l cut)) := by
  refine ⟨fun n hn e he p hp h4 => ?_, fun n hn e he p hp hO => ?_, fun n hn e he p hp h0 => ?_, fun n hn => ?_, fun n hn e he p hp h4 => ?_⟩
  · have hk := byS_kind e.1 (setsF (l.getD ((rnE l cut).getD e.1.toNat (0, [])).1 default)) ((wayOf (wE l) (rnE l cut) e).2.getD p .no)
    have hb : byF l (wE l) (rnE l cut) e p = byS e.1 (setsF (l.getD ((rnE l cut).getD e.1.toNat (0, [])).1 default)) ((wayOf (wE l) (rnE l cut) e).2.getD p .no) := rfl
    rw [← hb] at hk
    rcases hk with hk | hk | hk | hk | ⟨_, hk, hw⟩
    · rw [hk] at h4; simp at h4
    · omega
    · omega
    · omega
    · have hmay := way_src (P := fun _ s => mayF s = true) hr (cut := cut) (fun a ha p hp => (wq_good hr ha).get hp) he hp
      rw [hw] at hmay
      refine ⟨?_, loc_lt hmay, hk⟩
      rcases toF_mem he with rfl | ⟨m, k, x, o, k1, k2, rfl⟩
      · simp at hk
      · simpa using (List.getElem?_eq_some_iff.1 k1).1
  · have hk := byS_kind e.1 (setsF (l.getD ((rnE l cut).getD e.1.toNat (0, [])).1 default)) ((wayOf (wE l) (rnE l cut) e).2.getD p .no)
    have hb : byF l (wE l) (rnE l cut) e p = byS e.1 (setsF (l.getD ((rnE l cut).getD e.1.toNat (0, [])).1 default)) ((wayOf (wE l) (rnE l cut) e).2.getD p .no) := rfl
    rw [← hb, hO] at hk
    simp at hk
  · have hk := byS_kind e.1 (setsF (l.getD ((rnE l cut).getD e.1.toNat (0, [])).1 default)) ((wayOf (wE l) (rnE l cut) e).2.getD p .no)
    have hb : byF l (wE l) (rnE l cut) e p = byS e.1 (setsF (l.getD ((rnE l cut).getD e.1.toNat (0, [])).1 default)) ((wayOf (wE l) (rnE l cut) e).2.getD p .no) := rfl
    rw [← hb] at hk
    rcases hk with hk | hk | hk | hk | ⟨hk, _⟩
    · exact hk
    all_goals omega
  · exact to_first (cut := cut) hr (by simpa using hn)
  · have hk := byS_kind e.1 (setsF (l.getD ((rnE l cut).getD e.1.toNat (0, [])).1 default)) ((wayOf (wE l) (rnE l cut) e).2.getD p .no)
    have hb : byF l (wE l) (rnE l cut) e p = byS e.1 (setsF (l.getD ((rnE l cut).getD e.1.toNat (0, [])).1 default)) ((wayOf (wE l) (rnE l cut) e).2.getD p .no) := rfl
    rw [← hb] at hk
    rcases hk with hk | hk | hk | hk | ⟨_, _, hw⟩
    · rw [hk] at h4; simp at h4
    · omega
    · omega
    · omega
    · have hmay := way_src (P := fun _ s => mayF s = true) hr (cut := cut) (fun a ha p hp => (wq_good hr ha).get hp) he hp
      rw [hw] at hmay
      simp only [mayF, locF, Bool.and_eq_true, decide_eq_true_eq] at hmay
      exact hmay.1
theorem by_try {l : List Ins} (hr : rightF l = true) {cut : List Bool} {n : Nat} {e : Edge} (he : e ∈ toF (wE l) (rnE l cut) n) {p : Nat} (hp : p < 24) (hc : cstF (byF l (wE l) (rnE l cut) e p)) : byF l (wE l) (rnE l cut) e p ∈ tryF l := by
  have hsrc := way_src (P := fun _ s => ∀ v, s = .is v → v ∈ numsF l) hr (cut := cut) (fun a ha => wq_all hr (P := fun _ s => ∀ v, s = .is v → v ∈ numsF l) (fun p _ v h => by cases h) (fun x hx t ht h => by
    refine afterF_all (P := fun _ s => ∀ v, s = .is v → v ∈ numsF l) ht h (fun h1 _ v hv => ?_) (fun hd ha _ _ => ⟨h _ (loc_lt ha), fun _ => h _ (loc_lt hd)⟩)
    cases hv
    exact nums_all l [] x hx h1) ha) he hp
  have hb : byF l (wE l) (rnE l cut) e p = byS e.1 (setsF (l.getD ((rnE l cut).getD e.1.toNat (0, [])).1 default)) ((wayOf (wE l) (rnE l cut) e).2.getD p .no) := rfl
  rw [hb] at hc ⊢
  cases hs : (wayOf (wE l) (rnE l cut) e).2.getD p .no with
  | is v =>
    rw [hs] at hsrc
    refine List.mem_cons_of_mem _ (List.mem_map.2 ⟨v, hsrc v rfl, rfl⟩)
  | no => exact List.mem_cons_self ..
  | was L =>
    rw [hs] at hc
    rw [byS_was] at hc ⊢
    unfold cstF at hc
    by_cases hf : e.1 < 0
    · rw [if_pos hf] at hc ⊢
      by_cases h8 : locF 8 L = true
      · rw [if_pos h8] at hc
        simp at hc
      · rw [if_neg h8]
        exact List.mem_cons_self ..
    · rw [if_neg hf] at hc
      split at hc <;> simp at hc
open Classical in
noncomputable def factF (l : List Ins) (cut : List Bool) (n p : Nat) : FS := if h : ∃ c, c ∈ tryF l ∧ gfp (rnE l cut).length (toF (wE l) (rnE l cut)) (byF l (wE l) (rnE l cut)) c n p then h.choose else (4, (p : Int))
theorem fact_val (l : List Ins) (cut : List Bool) (n p : Nat) : (factF l cut n p = (4, (p : Int)) ∧ ∀ c ∈ tryF l, ¬ gfp (rnE l cut).length (toF (wE l) (rnE l cut)) (byF l (wE l) (rnE l cut)) c n p) ∨ (factF l cut n p ∈ tryF l ∧ gfp (rnE l cut).length (toF (wE l) (rnE l cut)) (byF l (wE l) (rnE l cut)) (factF l cut n p) n p) := by
  unfold factF
  split
  · rename_i h
    exact .inr h.choose_spec
  · rename_i h
    exact .inl ⟨rfl, fun c hc hg => h ⟨c, hc, hg⟩⟩
theorem fact_eq {l : List Ins} (hr : rightF l = true) {cut : List Bool} {n p : Nat} {c : FS} (hc : c ∈ tryF l) (hg : gfp (rnE l cut).length (toF (wE l) (rnE l cut)) (byF l (wE l) (rnE l cut)) c n p) : factF l cut n p = c := by
  rcases fact_val l cut n p with ⟨_, h⟩ | ⟨h1, h2⟩
  · exact absurd hg (h c hc)
  · exact gfp_one (by_ok hr cut) (try_cst _ h1) (try_cst _ hc) n p h2 hg
theorem facts_done {l : List Ins} (hr : rightF l = true) {cut : List Bool} {F : List (List FS)} (h : FInv (rnE l cut).length (toF (wE l) (rnE l cut)) (byF l (wE l) (rnE l cut)) F) (hfix : ∀ n p, n < (rnE l cut).length → p < 24 → meetF (toF (wE l) (rnE l cut)) (byF l (wE l) (rnE l cut)) F n p = get2 F n p) :
    F = (List.range (rnE l cut).length).map fun n => (List.range 24).map (factF l cut n) := by
  refine List.ext_getElem (by rw [h.len]; simp) fun n h1 h2 => ?_
  have hn : n < (rnE l cut).length := by rw [← h.len]; exact h1
  have hrow := h.row n hn
  have e : F.getD n [] = F[n] := by simp [h1]
  rw [e] at hrow
  rw [List.getElem_map, List.getElem_range]
  refine List.ext_getElem (by rw [hrow]; simp) fun p k1 k2 => ?_
  have hp : p < 24 := by omega
  have hg : get2 F n p = F[n][p] := by unfold get2; rw [e]; simp [k1]
  rw [List.getElem_map, List.getElem_range, ← hg]
  rcases h.done (by_ok hr cut) hfix n p hn hp with ⟨d1, d2⟩ | ⟨d1, d2⟩
  · obtain ⟨m, e, q, hm, hq, he, hb⟩ := h.src n p hn hp d1
    have := by_try hr (cut := cut) he hq (by rw [hb]; exact d1)
    rw [hb] at this
    exact (fact_eq hr this d2).symm
  · rcases fact_val l cut n p with ⟨f1, _⟩ | ⟨f1, f2⟩
    · rw [d1, f1]
    · exact absurd f2 (d2 _ (try_cst _ f1))
theorem fact_low {l : List Ins} (hr : rightF l = true) (hlow : ∀ x ∈ l, x.d ≤ 7 ∧ x.a ≤ 7) (cut : List Bool) : ∀ n p, p < 8 → ¬ (factF l cut n p).1 = 0 := by
  have hsrc : ∀ {n : Nat} {e : Edge}, e ∈ toF (wE l) (rnE l cut) n → ∀ {p : Nat}, p < 24 → p < 8 → ∀ L, (wayOf (wE l) (rnE l cut) e).2.getD p .no = .was L → 0 ≤ L ∧ L < 8 := fun {n e} he {p} hp =>
    way_src (P := fun p s => p < 8 → ∀ L, s = .was L → 0 ≤ L ∧ L < 8) hr (cut := cut) (fun a ha => wq_all hr (P := fun p s => p < 8 → ∀ L, s = .was L → 0 ≤ L ∧ L < 8) (fun p _ hp L h => by cases h; omega) (fun x hx t ht h => by
      have := hlow x hx
      refine afterF_all (P := fun p s => p < 8 → ∀ L, s = .was L → 0 ≤ L ∧ L < 8) ht h (fun _ _ _ L hL => by cases hL) (fun hd ha _ _ => ?_)
      have h1 : x.a.toNat < 8 := by omega
      have h2 : x.d.toNat < 8 := by omega
      exact ⟨fun _ => h _ (loc_lt ha) h1, fun _ _ => h _ (loc_lt hd) h2⟩) ha) he hp
  have hno : ∀ n, ∀ p, p < 8 → ¬ gfp (rnE l cut).length (toF (wE l) (rnE l cut)) (byF l (wE l) (rnE l cut)) (0, 0) n p := by
    intro n
    induction n using Nat.strongRecOn with
    | _ n ih =>
      intro p hp8 hg
      obtain ⟨hn, hp, k⟩ := gfp_step hg
      obtain ⟨e, t, he, hlt⟩ := (by_ok hr cut).first n hn
      have hm : e ∈ toF (wE l) (rnE l cut) n := by rw [he]; simp
      have hs := hsrc hm hp hp8
      have hmay := way_src (P := fun _ s => mayF s = true) hr (cut := cut) (fun a ha p hp => (wq_good hr ha).get hp) hm hp
      have hb : byF l (wE l) (rnE l cut) e p = byS e.1 (setsF (l.getD ((rnE l cut).getD e.1.toNat (0, [])).1 default)) ((wayOf (wE l) (rnE l cut) e).2.getD p .no) := rfl
      have k := k e hm
      cases hw : (wayOf (wE l) (rnE l cut) e).2.getD p .no with
      | is v =>
        rw [hb, hw] at k
        simp [byS] at k
      | no => rw [hw] at hmay; cases hmay
      | was L =>
        have hL := hs L hw
        rw [hb, hw] at k
        rw [byS_was] at k
        by_cases hf : e.1 < 0
        · have h8 : locF 8 L = true := by simp [locF]; omega
          rw [if_pos hf, if_pos h8] at k
          simp at k
        · rw [if_neg hf] at k
          by_cases h3 : setsF (l.getD ((rnE l cut).getD e.1.toNat (0, [])).1 default) = some L
          · rw [if_pos h3] at k
            simp at k
          · rw [if_neg h3] at k
            rcases k with k | ⟨_, k⟩
            · simp at k
            · exact ih e.1.toNat (by omega) L.toNat (by omega) k
  intro n p hp h0
  rcases fact_val l cut n p with ⟨f1, _⟩ | ⟨f1, f2⟩
  · rw [f1] at h0
    simp at h0
  · rcases List.mem_cons.1 f1 with f1 | f1
    · rw [f1] at f2
      exact hno n p hp f2
    · obtain ⟨v, _, hv⟩ := List.mem_map.1 f1
      rw [← hv] at h0
      simp at h0
def showF (m : Nat) (ns : List Node) : List Bool := ns.foldl (fun c x => c.set x.1 (decide (x.2.getD [] = []))) (List.replicate m false)
theorem show_len (ns : List Node) (c : List Bool) : (ns.foldl (fun (c : List Bool) (x : Node) => c.set x.1 (decide (x.2.getD [] = []))) c).length = c.length := by
  induction ns generalizing c with
  | nil => rfl
  | cons x ns ih => rw [List.foldl_cons, ih, List.length_set]
theorem show_get : ∀ (ns : List Node) (c : List Bool) (i : Nat), (ns.map (·.1)).Nodup → (∀ x ∈ ns, x.1 < c.length) →
    (ns.foldl (fun (c : List Bool) (x : Node) => c.set x.1 (decide (x.2.getD [] = []))) c).getD i false = match ns.find? (fun x => x.1 == i) with | some x => decide (x.2.getD [] = []) | none => c.getD i false
  | [], _, _, _, _ => rfl
  | x :: ns, c, i, hn, hl => by
    rw [List.map_cons, List.nodup_cons] at hn
    rw [List.foldl_cons, show_get ns _ i hn.2 (fun y hy => by rw [List.length_set]; exact hl y (by simp [hy]))]
    by_cases hx : x.1 = i
    · subst hx
      have hnf : ns.find? (fun y => y.1 == x.1) = none := by
        rw [List.find?_eq_none]
        intro y hy h
        refine hn.1 (List.mem_map.2 ⟨y, hy, ?_⟩)
        simpa using h
      rw [hnf]
      simp only [List.find?_cons, beq_self_eq_true]
      rw [List.getD_eq_getElem?_getD, List.getElem?_set_self (hl x (by simp))]
      rfl
    · rw [List.find?_cons, show (x.1 == i) = false by simpa using hx]
      simp only
      cases ns.find? (fun x => x.1 == i) with
      | some y => rfl
      | none =>
        simp only
        rw [List.getD_eq_getElem?_getD, List.getElem?_set_ne hx, ← List.getD_eq_getElem?_getD]
theorem rRun_same {l : List Ins} {c d : List Bool} : ∀ (k n : Nat) (ps : List Nat), (∀ p ∈ rRun l c k n ps, fsC l d p = fsC l c p) → rRun l d k n ps = rRun l c k n ps
  | 0, _, _, _ => rfl
  | k + 1, n, ps, h => by
    rw [rRun, rRun]
    rw [rRun] at h
    split
    · rename_i hn
      rw [if_pos hn] at h
      have hm : ps.getD n 0 ∈ rRun l c k (n + 1) ((fsC l c (ps.getD n 0)).foldl (addP l) ps) := by
        obtain ⟨qs, h1⟩ := rRun_pre (l := l) (cut := c) k (n + 1) ((fsC l c (ps.getD n 0)).foldl (addP l) ps)
        obtain ⟨⟨rs, h2⟩, _⟩ := fold_spec l (fsC l c (ps.getD n 0)) ps
        rw [h1, h2]
        refine List.mem_append_left _ (List.mem_append_left _ ?_)
        have : ps.getD n 0 = ps[n] := by simp [hn]
        rw [this]
        exact List.getElem_mem hn
      rw [h _ hm]
      exact rRun_same k (n + 1) _ h
    · rfl
theorem find_node {f : Nat → Option (List Way)} (ps : List Nat) (i : Nat) : (ps.map fun i => ((i, f i) : Node)).find? (fun x => x.1 == i) = if i ∈ ps then some (i, f i) else none := by
  induction ps with
  | nil => rfl
  | cons p ps ih =>
    rw [List.map_cons, List.find?_cons]
    by_cases h : p = i
    · subst h
      simp
    · rw [show (p == i) = false by simpa using h]
      simp only [ih, List.mem_cons]
      have : ¬ i = p := fun h' => h h'.symm
      simp [this]
theorem show_same {l : List Ins} (hr : rightF l = true) (cut : List Bool) : (pNodes l (showF l.length (pNodes l cut))).map rN = (pNodes l cut).map rN := by
  obtain ⟨h1, h2, h3, h4, h5, h6⟩ := nodes_spec (cut := cut) hr
  have hmap : (pNodes l cut).map (·.1) = rPlaces l cut := by rw [h1, List.map_map]; simp [Function.comp_def]
  have hget : ∀ i ∈ rPlaces l cut, fsC l (showF l.length (pNodes l cut)) i = fsC l cut i := by
    intro i hi
    have hg := show_get (pNodes l cut) (List.replicate l.length false) i (by rw [hmap]; exact h4) (fun x hx => by
      rw [List.length_replicate]
      exact (h5 x.1 (by rw [← hmap]; exact List.mem_map.2 ⟨x, hx, rfl⟩)).1)
    have hf : (pNodes l cut).find? (fun x => x.1 == i) = some (i, if cutF cut i then none else some ((fsAt l i).map (outP l (rPlaces l cut)))) := by
      rw [h1, find_node, if_pos hi]
    rw [hf] at hg
    simp only at hg
    have hc : cutF (showF l.length (pNodes l cut)) i = decide ((if cutF cut i then none else some ((fsAt l i).map (outP l (rPlaces l cut)))).getD [] = []) := hg
    unfold fsC
    rw [hc]
    cases cutF cut i with
    | true => simp
    | false =>
      by_cases he : fsAt l i = [] <;> simp [he]
  have hpl : rPlaces l (showF l.length (pNodes l cut)) = rPlaces l cut := rRun_same 201 0 _ hget
  rw [skel_same hr, skel_same hr, hpl]
  refine List.map_congr_left fun i hi => ?_
  unfold rNode rOuts
  rw [hget i hi]
theorem rN_at {ns ms : List Node} (h : ns.map rN = ms.map rN) : ns.map (·.1) = ms.map (·.1) := by
  have := congrArg (List.map (fun x : RNode => x.1)) h
  simpa [Function.comp_def, rN] using this
/-! How far facts have come. -/
def rkF (x : FS) : Nat := if x = fsO then 0 else if x.1 = 4 then 2 else 1
def totF (F : List (List FS)) : Nat := (F.map fun r => (r.map rkF).sum).sum
theorem sum_set : ∀ (r : List Nat) (p : Nat) (x : Nat) (h : p < r.length), (r.set p x).sum + r[p] = r.sum + x
  | y :: r, 0, x, _ => by simp; omega
  | y :: r, p + 1, x, h => by
    have := sum_set r p x (by simpa using h)
    simp only [List.set_cons_succ, List.sum_cons, List.getElem_cons_succ]
    omega
theorem tot_set {F : List (List FS)} {n p : Nat} (hn : n < F.length) (hp : p < (F.getD n []).length) (x : FS) : totF (set2 F n p x) + rkF (get2 F n p) = totF F + rkF x := by
  have e : F.getD n [] = F[n] := by simp [hn]
  unfold get2 set2 totF
  rw [e] at hp ⊢
  have e2 : F[n].getD p fsO = F[n][p] := by simp [hp]
  rw [e2, List.map_set, List.map_set]
  have h1 := sum_set (F.map fun r => (r.map rkF).sum) n ((F[n].map rkF).set p (rkF x)).sum (by simpa using hn)
  have h2 := sum_set (F[n].map rkF) p (rkF x) (by simpa using hp)
  rw [List.getElem_map] at h1 h2
  omega
theorem sum_le {k : Nat} : ∀ r : List Nat, (∀ x ∈ r, x ≤ k) → r.sum ≤ k * r.length
  | [], _ => by simp
  | x :: r, h => by
    have h1 := sum_le r (fun y hy => h y (by simp [hy]))
    have h2 := h x (by simp)
    rw [List.sum_cons, List.length_cons, Nat.mul_add]
    omega
theorem tot_le {F : List (List FS)} {N : Nat} (h1 : F.length = N) (h2 : ∀ n, n < N → (F.getD n []).length = 24) : totF F ≤ 48 * N := by
  have := sum_le (k := 48) (F.map fun r => (r.map rkF).sum) (fun x hx => by
    obtain ⟨r, hr, rfl⟩ := List.mem_map.1 hx
    obtain ⟨n, hn, rfl⟩ := List.mem_iff_getElem.1 hr
    have e : F.getD n [] = F[n] := by simp [hn]
    have h3 := h2 n (by omega)
    rw [e] at h3
    have := sum_le (k := 2) (F[n].map rkF) (fun y hy => by
      obtain ⟨z, _, rfl⟩ := List.mem_map.1 hy
      unfold rkF
      split
      · omega
      · split <;> omega)
    rw [List.length_map, h3] at this
    exact this)
  rw [List.length_map, h1] at this
  exact this
theorem FInv.grow {N : Nat} {to : Nat → List Edge} {b : Edge → Nat → FS} {F : List (List FS)} (h : FInv N to b F) {n p : Nat} (hn : n < N) (hp : p < 24) (hne : ¬ meetF to b F n p = get2 F n p) : totF F < totF (set2 F n p (meetF to b F n p)) := by
  have ht := tot_set (F := F) (n := n) (p := p) (by rw [h.len]; exact hn) (by rw [h.row n hn]; exact hp) (meetF to b F n p)
  have hv := meet_val (to := to) (b := b) F n p
  have hu := h.up n p hn hp
  have hw := h.val n p hn hp
  have hlt : rkF (get2 F n p) < rkF (meetF to b F n p) := by
    generalize meetF to b F n p = x at *
    generalize get2 F n p = y at *
    rcases hu with rfl | hu | rfl
    · unfold rkF
      rw [if_pos rfl, if_neg hne]
      split <;> omega
    · exact absurd hu.symm hne
    · rcases hw with rfl | hw | rfl
      · simp [rkF]
      · have h1 : ¬ y = fsO := fun h => cst_open (by rw [← h]; exact hw)
        have h2 : ¬ y.1 = 4 := by unfold cstF at hw; omega
        unfold rkF
        rw [if_neg h1, if_neg h2]
        simp
      · exact absurd rfl hne
  omega
def facStep (to : Nat → List Edge) (b : Edge → Nat → FS) (x : List (List FS) × Bool) (n p : Nat) : List (List FS) × Bool := if meetF to b x.1 n p = get2 x.1 n p then x else (set2 x.1 n p (meetF to b x.1 n p), true)
structure SInv (N : Nat) (to : Nat → List Edge) (b : Edge → Nat → FS) (F0 : List (List FS)) (x : List (List FS) × Bool) (n p : Nat) : Prop where
  inv : FInv N to b x.1
  more : x.2 = true → totF F0 < totF x.1
  still : x.2 = false → x.1 = F0 ∧ ∀ m q, (m < n ∧ q < 24 ∨ m = n ∧ q < p) → meetF to b F0 m q = get2 F0 m q
theorem SInv.step {N : Nat} {to : Nat → List Edge} {b : Edge → Nat → FS} (ok : ByOK N to b) {F0 : List (List FS)} {x : List (List FS) × Bool} {n p : Nat} (h : SInv N to b F0 x n p) (hn : n < N) (hp : p < 24) : SInv N to b F0 (facStep to b x n p) n (p + 1) := by
  obtain ⟨F, m⟩ := x
  unfold facStep
  simp only
  split
  · rename_i he
    refine ⟨h.inv, h.more, fun hm => ?_⟩
    obtain ⟨h1, h2⟩ := h.still hm
    refine ⟨h1, fun a q haq => ?_⟩
    simp only at h1
    by_cases hq : a = n ∧ q = p
    · obtain ⟨rfl, rfl⟩ := hq
      rw [← h1]
      exact he
    · exact h2 a q (by omega)
  · rename_i he
    have hg := h.inv.grow hn hp he
    refine ⟨h.inv.set ok hn hp, fun _ => ?_, fun hm => by cases hm⟩
    simp only
    cases m with
    | true => exact Nat.lt_trans (h.more rfl) hg
    | false =>
      have := (h.still rfl).1
      simp only at this
      rw [← this]
      exact hg
theorem SInv.next {N : Nat} {to : Nat → List Edge} {b : Edge → Nat → FS} {F0 : List (List FS)} {x : List (List FS) × Bool} {n : Nat} (h : SInv N to b F0 x n 24) : SInv N to b F0 x (n + 1) 0 :=
  ⟨h.inv, h.more, fun hm => ⟨(h.still hm).1, fun a q haq => (h.still hm).2 a q (by omega)⟩⟩
theorem finv0 {N : Nat} {to : Nat → List Edge} {b : Edge → Nat → FS} : FInv N to b (List.replicate N (List.replicate 24 fsO)) := by
  have hg : ∀ n p, get2 (List.replicate N (List.replicate 24 fsO)) n p = fsO := by
    intro n p
    unfold get2
    simp only [List.getD_eq_getElem?_getD, List.getElem?_replicate]
    split
    · simp only [Option.getD_some, List.getElem?_replicate]
      split <;> rfl
    · rfl
  refine ⟨by simp, fun n hn => by simp [hn], fun n p _ _ => .inl (hg n p), fun n p _ _ => .inl (hg n p), fun n p _ _ hc => ?_, fun c n p _ _ => .inl (hg n p)⟩
  rw [hg] at hc
  exact absurd hc cst_open
def getB (B : List (List Bool)) (n p : Nat) : Bool := (B.getD n []).getD p false
def setB (B : List (List Bool)) (n p : Nat) : List (List Bool) := B.set n ((B.getD n []).set p false)
theorem getB_set {B : List (List Bool)} {n p : Nat} (hn : n < B.length) (hp : p < (B.getD n []).length) (m q : Nat) : getB (setB B n p) m q = if m = n ∧ q = p then false else getB B m q := by
  unfold getB setB
  simp only [List.getD_eq_getElem?_getD, List.getElem?_set]
  by_cases hm : n = m
  · subst hm
    rw [if_pos rfl, if_pos hn, Option.getD_some, List.getElem?_set]
    by_cases hq : p = q
    · subst hq
      rw [if_pos rfl, if_pos (by simpa [List.getD_eq_getElem?_getD] using hp)]
      simp
    · rw [if_neg hq, if_neg (fun h => hq h.2.symm)]
  · rw [if_neg hm, if_neg (fun h => hm h.1.symm)]
def bitF (x : Bool) : Nat := if x then 1 else 0
def cntB (B : List (List Bool)) : Nat := (B.map fun r => (r.map bitF).sum).sum
theorem cnt_set {B : List (List Bool)} {n p : Nat} (hn : n < B.length) (hp : p < (B.getD n []).length) (h : getB B n p = true) : cntB (setB B n p) < cntB B := by
  have e : B.getD n [] = B[n] := by simp [hn]
  unfold getB at h
  unfold setB cntB
  rw [e] at hp h ⊢
  have e2 : B[n].getD p false = B[n][p] := by simp [hp]
  rw [e2] at h
  rw [List.map_set, List.map_set]
  have h1 := sum_set (B.map fun r => (r.map bitF).sum) n ((B[n].map bitF).set p (bitF false)).sum (by simpa using hn)
  have h2 := sum_set (B[n].map bitF) p (bitF false) (by simpa using hp)
  rw [List.getElem_map] at h1 h2
  have h3 : bitF B[n][p] = 1 := by rw [h]; rfl
  have h4 : bitF false = 0 := rfl
  omega
section
variable {N : Nat} {to : Nat → List Edge} {b : Edge → Nat → FS} {c : FS}
def holdsF (to : Nat → List Edge) (b : Edge → Nat → FS) (c : FS) (B : List (List Bool)) (n p : Nat) : Bool := (to n).all fun e => if (b e p).1 = 4 then getB B e.1.toNat (b e p).2.toNat else decide (b e p = c)
structure BInv (N : Nat) (to : Nat → List Edge) (b : Edge → Nat → FS) (c : FS) (B : List (List Bool)) : Prop where
  len : B.length = N
  row : ∀ n, n < N → (B.getD n []).length = 24
  post : ∀ n p, gfp N to b c n p → getB B n p = true
def sdStep (to : Nat → List Edge) (b : Edge → Nat → FS) (c : FS) (x : List (List Bool) × Bool) (n p : Nat) : List (List Bool) × Bool := if getB x.1 n p = true ∧ holdsF to b c x.1 n p = false then (setB x.1 n p, true) else x
structure TInv (N : Nat) (to : Nat → List Edge) (b : Edge → Nat → FS) (c : FS) (B0 : List (List Bool)) (x : List (List Bool) × Bool) (n p : Nat) : Prop where
  inv : BInv N to b c x.1
  more : x.2 = true → cntB x.1 < cntB B0
  still : x.2 = false → x.1 = B0 ∧ ∀ m q, (m < n ∧ q < 24 ∨ m = n ∧ q < p) → getB B0 m q = true → holdsF to b c B0 m q = true
theorem BInv.set (hc : cstF c) {B : List (List Bool)} (h : BInv N to b c B) {n p : Nat} (hn : n < N) (hp : p < 24) (hh : holdsF to b c B n p = false) : BInv N to b c (setB B n p) := by
  have hg := getB_set (B := B) (n := n) (p := p) (by rw [h.len]; exact hn) (by rw [h.row n hn]; exact hp)
  refine ⟨by unfold setB; rw [List.length_set]; exact h.len, fun m hm => ?_, fun m q hgf => ?_⟩
  · unfold setB
    rw [List.getD_eq_getElem?_getD, List.getElem?_set]
    by_cases hmn : n = m
    · subst hmn
      rw [if_pos rfl, if_pos (by rw [h.len]; exact hn), Option.getD_some, List.length_set]
      exact h.row n hn
    · rw [if_neg hmn, ← List.getD_eq_getElem?_getD]
      exact h.row m hm
  · rw [hg]
    split
    · rename_i hmq
      obtain ⟨rfl, rfl⟩ := hmq
      obtain ⟨_, _, k⟩ := gfp_step hgf
      exfalso
      have : holdsF to b c B m q = true := by
        unfold holdsF
        rw [List.all_eq_true]
        intro e he
        rcases k e he with k | ⟨k1, k2⟩
        · rw [k, if_neg]
          · simp
          · intro h4
            unfold cstF at hc
            omega
        · rw [if_pos k1]
          exact h.post _ _ k2
      rw [this] at hh
      cases hh
    · exact h.post m q hgf
theorem TInv.step (hc : cstF c) {B0 : List (List Bool)} {x : List (List Bool) × Bool} {n p : Nat} (h : TInv N to b c B0 x n p) (hn : n < N) (hp : p < 24) : TInv N to b c B0 (sdStep to b c x n p) n (p + 1) := by
  obtain ⟨B, m⟩ := x
  unfold sdStep
  simp only
  split
  · rename_i he
    have hg := cnt_set (B := B) (n := n) (p := p) (by have := h.inv.len; simp only at this; omega) (by have := h.inv.row n hn; simp only at this; omega) he.1
    refine ⟨h.inv.set hc hn hp he.2, fun _ => ?_, fun hm => by cases hm⟩
    simp only
    cases m with
    | true => exact Nat.lt_trans hg (h.more rfl)
    | false =>
      have := (h.still rfl).1
      simp only at this
      rw [← this]
      exact hg
  · rename_i he
    refine ⟨h.inv, h.more, fun hm => ?_⟩
    obtain ⟨h1, h2⟩ := h.still hm
    refine ⟨h1, fun a q haq hb => ?_⟩
    simp only at h1
    by_cases hq : a = n ∧ q = p
    · obtain ⟨rfl, rfl⟩ := hq
      rw [← h1] at hb ⊢
      cases hh : holdsF to b c B a q with
      | true => rfl
      | false => exact absurd ⟨hb, hh⟩ he
    · exact h2 a q (by omega) hb
theorem TInv.next {B0 : List (List Bool)} {x : List (List Bool) × Bool} {n : Nat} (h : TInv N to b c B0 x n 24) : TInv N to b c B0 x (n + 1) 0 :=
  ⟨h.inv, h.more, fun hm => ⟨(h.still hm).1, fun a q haq => (h.still hm).2 a q (by omega)⟩⟩
theorem binv0 : BInv N to b c (List.replicate N (List.replicate 24 true)) := by
  refine ⟨by simp, fun n hn => by simp [hn], fun n p hg => ?_⟩
  obtain ⟨hn, hp, _⟩ := gfp_step hg
  unfold getB
  simp only [List.getD_eq_getElem?_getD, List.getElem?_replicate, hn, hp, if_true, Option.getD_some]
theorem BInv.done (ok : ByOK N to b) {B : List (List Bool)} (h : BInv N to b c B) (hfix : ∀ n p, n < N → p < 24 → getB B n p = true → holdsF to b c B n p = true) : ∀ n p, getB B n p = true ↔ gfp N to b c n p := by
  intro n p
  refine ⟨fun hb => ⟨fun n p => getB B n p = true, fun n p hb => ?_, hb⟩, h.post n p⟩
  have hb : getB B n p = true := hb
  have hn : n < N := by
    rcases Nat.lt_or_ge n N with k | k
    · exact k
    · unfold getB at hb
      rw [List.getD_eq_getElem?_getD (l := B), List.getElem?_eq_none (by rw [h.len]; exact k)] at hb
      simp at hb
  have hp : p < 24 := by
    rcases Nat.lt_or_ge p 24 with k | k
    · exact k
    · unfold getB at hb
      rw [List.getD_eq_getElem?_getD, List.getElem?_eq_none (by rw [h.row n hn]; exact k)] at hb
      simp at hb
  refine ⟨hn, hp, fun e he => ?_⟩
  have := hfix n p hn hp hb
  unfold holdsF at this
  have := List.all_eq_true.1 this e he
  split at this
  · rename_i h4
    exact .inr ⟨h4, this⟩
  · exact .inl (by simpa using this)
def OI (N : Nat) (to : Nat → List Edge) (b : Edge → Nat → FS) (cs : List FS) (out : List (List FS)) (n p : Nat) : Prop := ((∀ c ∈ cs, ¬ gfp N to b c n p) ∧ get2 out n p = (4, (p : Int))) ∨ ∃ c ∈ cs, gfp N to b c n p ∧ get2 out n p = c
def ofStep (B : List (List Bool)) (c : FS) (out : List (List FS)) (n p : Nat) : List (List FS) := if getB B n p = true then set2 out n p c else out
structure OInv (N : Nat) (to : Nat → List Edge) (b : Edge → Nat → FS) (cs : List FS) (c : FS) (out : List (List FS)) (n p : Nat) : Prop where
  len : out.length = N
  row : ∀ n, n < N → (out.getD n []).length = 24
  new : ∀ m q, m < N → q < 24 → (m < n ∨ m = n ∧ q < p) → OI N to b (cs ++ [c]) out m q
  old : ∀ m q, m < N → q < 24 → ¬ (m < n ∨ m = n ∧ q < p) → OI N to b cs out m q
theorem OInv.step {cs : List FS} {B : List (List Bool)} {out : List (List FS)} {n p : Nat} (hB : ∀ n p, getB B n p = true ↔ gfp N to b c n p) (h : OInv N to b cs c out n p) (hn : n < N) (hp : p < 24) : OInv N to b cs c (ofStep B c out n p) n (p + 1) := by
  unfold ofStep
  split
  · rename_i hb
    have hg := get2_set (F := out) (n := n) (p := p) (by rw [h.len]; exact hn) (by rw [h.row n hn]; exact hp) c
    refine ⟨by unfold set2; rw [List.length_set]; exact h.len, fun m hm => ?_, fun m q hm hq hmq => ?_, fun m q hm hq hmq => ?_⟩
    · unfold set2
      rw [List.getD_eq_getElem?_getD, List.getElem?_set]
      by_cases hmn : n = m
      · subst hmn
        rw [if_pos rfl, if_pos (by rw [h.len]; exact hn), Option.getD_some, List.length_set]
        exact h.row n hn
      · rw [if_neg hmn, ← List.getD_eq_getElem?_getD]
        exact h.row m hm
    · unfold OI
      rw [hg]
      by_cases he : m = n ∧ q = p
      · rw [if_pos he]
        obtain ⟨rfl, rfl⟩ := he
        exact .inr ⟨c, by simp, (hB m q).1 hb, rfl⟩
      · rw [if_neg he]
        exact h.new m q hm hq (by omega)
    · unfold OI
      rw [hg, if_neg (by omega)]
      exact h.old m q hm hq (by omega)
  · rename_i hb
    refine ⟨h.len, h.row, fun m q hm hq hmq => ?_, fun m q hm hq hmq => h.old m q hm hq (by omega)⟩
    by_cases he : m = n ∧ q = p
    · obtain ⟨rfl, rfl⟩ := he
      have hng : ¬ gfp N to b c m q := fun hg => hb ((hB m q).2 hg)
      rcases h.old m q hm hq (by omega) with ⟨k1, k2⟩ | ⟨d, k1, k2, k3⟩
      · refine .inl ⟨fun d hd => ?_, k2⟩
        rcases List.mem_append.1 hd with hd | hd
        · exact k1 d hd
        · simp only [List.mem_singleton] at hd
          subst hd
          exact hng
      · exact .inr ⟨d, List.mem_append_left _ k1, k2, k3⟩
    · exact h.new m q hm hq (by omega)
theorem OInv.next {cs : List FS} {out : List (List FS)} {n : Nat} (h : OInv N to b cs c out n 24) : OInv N to b cs c out (n + 1) 0 :=
  ⟨h.len, h.row, fun m q hm hq hmq => h.new m q hm hq (by omega), fun m q hm hq hmq => h.old m q hm hq (by omega)⟩
theorem OInv.turn {cs : List FS} {out : List (List FS)} (h : OInv N to b cs c out N 0) (d : FS) : OInv N to b (cs ++ [c]) d out 0 0 :=
  ⟨h.len, h.row, fun m q hm hq hmq => by omega, fun m q hm hq _ => h.new m q hm hq (by omega)⟩
theorem oinv0 : OInv N to b [] c ((List.range N).map fun _ => (List.range 24).map fun p : Nat => ((4, (p : Int)) : FS)) 0 0 := by
  refine ⟨by simp, fun n hn => by simp [hn], fun m q hm hq hmq => by omega, fun m q hm hq _ => .inl ⟨by simp, ?_⟩⟩
  unfold get2
  simp [hm, hq]
end
theorem outs_done {l : List Ins} (hr : rightF l = true) {cut : List Bool} {out : List (List FS)} (hlen : out.length = (rnE l cut).length) (hrow : ∀ n, n < (rnE l cut).length → (out.getD n []).length = 24)
    (h : ∀ n p, n < (rnE l cut).length → p < 24 → OI (rnE l cut).length (toF (wE l) (rnE l cut)) (byF l (wE l) (rnE l cut)) (tryF l) out n p) : out = (List.range (rnE l cut).length).map fun n => (List.range 24).map (factF l cut n) := by
  refine List.ext_getElem (by rw [hlen]; simp) fun n h1 h2 => ?_
  have hn : n < (rnE l cut).length := by rw [← hlen]; exact h1
  have hr' := hrow n hn
  have e : out.getD n [] = out[n] := by simp [h1]
  rw [e] at hr'
  rw [List.getElem_map, List.getElem_range]
  refine List.ext_getElem (by rw [hr']; simp) fun p k1 k2 => ?_
  have hp : p < 24 := by omega
  have hg : get2 out n p = out[n][p] := by unfold get2; rw [e]; simp [k1]
  rw [List.getElem_map, List.getElem_range, ← hg]
  rcases h n p hn hp with ⟨d1, d2⟩ | ⟨c, d1, d2, d3⟩
  · rcases fact_val l cut n p with ⟨f1, _⟩ | ⟨f1, f2⟩
    · rw [d2, f1]
    · exact absurd f2 (d1 _ f1)
  · rw [d3]
    exact (fact_eq hr d1 d2).symm
def useF (f : Nat → Nat → FS) (n at_ : Nat) (x : List Bool × Bool) (u : Int) : List Bool × Bool := if x.1.getD at_ false = false ∧ (f n u.toNat).1 = 0 then (x.1.set at_ true, true) else x
def roundF (f : Nat → Nat → FS) (l : List Ins) : Nat → List Nat → List Bool × Bool → List Bool × Bool
  | _, [], x => x
  | n, p :: ps, x => roundF f l (n + 1) ps ((usesF (l.getD p default)).foldl (useF f n p) x)
noncomputable def cutRound (l : List Ins) (c : List Bool) : List Bool × Bool := roundF (factF l c) l 0 ((rnE l c).map (·.1)) (c, false)
noncomputable def cutRun (l : List Ins) : Nat → List Bool → List Bool
  | 0, c => c
  | k + 1, c => if (cutRound l c).2 then cutRun l k (cutRound l c).1 else (cutRound l c).1
noncomputable def cutsF (l : List Ins) : List Bool := cutRun l (l.length + 1) (List.replicate l.length false)
structure XInv (c0 : List Bool) (x : List Bool × Bool) : Prop where
  len : x.1.length = c0.length
  more : x.2 = true → frees x.1 < frees c0
  still : x.2 = false → x.1 = c0
theorem XInv.use {c0 : List Bool} {x : List Bool × Bool} (h : XInv c0 x) {at_ : Nat} (ha : at_ < c0.length) (f : Nat → Nat → FS) (n : Nat) (u : Int) : XInv c0 (useF f n at_ x u) := by
  obtain ⟨c, m⟩ := x
  unfold useF
  simp only
  split
  · rename_i hc
    have hl := h.len
    simp only at hl
    have hac : at_ < c.length := by omega
    have hf := frees_set c at_ hac (by have h1 := hc.1; rwa [List.getD_eq_getElem?_getD, List.getElem?_eq_getElem hac, Option.getD_some] at h1)
    refine ⟨by simpa using hl, fun _ => ?_, fun hm => by cases hm⟩
    simp only
    cases m with
    | true => have := h.more rfl; simp only at this; omega
    | false => have := h.still rfl; simp only at this; rw [← this]; omega
  · exact h
theorem XInv.uses {c0 : List Bool} {at_ : Nat} (ha : at_ < c0.length) (f : Nat → Nat → FS) (n : Nat) : ∀ (us : List Int) {x : List Bool × Bool}, XInv c0 x → XInv c0 (us.foldl (useF f n at_) x)
  | [], _, h => h
  | u :: us, _, h => XInv.uses ha f n us (h.use ha f n u)
theorem XInv.round {c0 : List Bool} (f : Nat → Nat → FS) (l : List Ins) : ∀ (ps : List Nat) (n : Nat) {x : List Bool × Bool}, (∀ p ∈ ps, p < c0.length) → XInv c0 x → XInv c0 (roundF f l n ps x)
  | [], _, _, _, h => h
  | p :: ps, n, _, hp, h => XInv.round f l ps (n + 1) (fun q hq => hp q (by simp [hq])) (h.uses (hp p (by simp)) f n _)
theorem rnE_at {l : List Ins} (hr : rightF l = true) (c : List Bool) : ∀ p ∈ (rnE l c).map (·.1), p < l.length ∧ movesF (l.getD p default) = false := by
  intro p hp
  obtain ⟨h1, _, _, _, h5, _⟩ := nodes_spec (cut := c) hr
  have e : (rnE l c).map (·.1) = rPlaces l c := by rw [show rnE l c = (rPlaces l c).map (rNode l c (rPlaces l c)) from skel_same hr, List.map_map]; simp [Function.comp_def, rNode]
  rw [e] at hp
  exact h5 p hp
theorem cutRound_inv {l : List Ins} (hr : rightF l = true) {c : List Bool} (hc : c.length = l.length) : XInv c (cutRound l c) :=
  XInv.round _ l _ 0 (fun p hp => by rw [hc]; exact (rnE_at hr c p hp).1) ⟨rfl, (by intro h; cases h), fun _ => rfl⟩
theorem use_still (f : Nat → Nat → FS) (n at_ : Nat) (c : List Bool) : ∀ us : List Int, (∀ u ∈ us, ¬ (f n u.toNat).1 = 0) → us.foldl (useF f n at_) (c, false) = (c, false)
  | [], _ => rfl
  | u :: us, h => by
    have : useF f n at_ (c, false) u = (c, false) := by
      unfold useF
      rw [if_neg]
      rintro ⟨_, h0⟩
      exact h u (by simp) h0
    rw [List.foldl_cons, this]
    exact use_still f n at_ c us (fun v hv => h v (by simp [hv]))
theorem round_still (f : Nat → Nat → FS) (l : List Ins) (c : List Bool) (h : ∀ n p, p < 8 → ¬ (f n p).1 = 0) (hu : ∀ x ∈ l, ∀ u ∈ usesF x, 0 ≤ u ∧ u < 8) : ∀ (ps : List Nat) (n : Nat), (∀ p ∈ ps, p < l.length) → roundF f l n ps (c, false) = (c, false)
  | [], _, _ => rfl
  | p :: ps, n, hp => by
    rw [roundF, use_still f n p c _ (fun u hu' => h n _ ?_)]
    · exact round_still f l c h hu ps (n + 1) (fun q hq => hp q (by simp [hq]))
    · have hpl := hp p (by simp)
      have e : l.getD p default = l[p] := by simp [hpl]
      rw [e] at hu'
      have := hu _ (List.getElem_mem hpl) u hu'
      omega
theorem check_uses {x : Ins} {m : Int} (h : checkF x m = 0) : ∀ u ∈ usesF x, 0 ≤ u ∧ u < 8 := by
  unfold checkF at h
  split at h
  · simp at h
  · split at h
    · simp at h
    · rename_i h6
      unfold bad6 at h6
      unfold usesF
      intro u hu
      by_cases h3 : x.op ≤ 3
      · rw [if_neg (by omega), if_neg (by omega)] at hu
        cases hu
      · rw [if_neg h3] at h6
        simp only [locF, Bool.and_eq_false_iff, decide_eq_false_iff_not, not_or, Decidable.not_not] at h6
        split at hu
        · simp only [List.mem_cons, List.not_mem_nil, or_false] at hu
          omega
        · split at hu
          · simp only [List.mem_cons, List.not_mem_nil, or_false] at hu
            omega
          · cases hu
theorem cuts_none {l : List Ins} (hr : rightF l = true) (hlow : ∀ x ∈ l, x.d ≤ 7 ∧ x.a ≤ 7) : cutsF l = List.replicate l.length false := by
  obtain ⟨_, _, h3, _⟩ := right_facts hr
  have : cutRound l (List.replicate l.length false) = (List.replicate l.length false, false) :=
    round_still _ l _ (fact_low hr hlow _) (fun x hx => check_uses (h3 x hx)) _ 0 (fun p hp => (rnE_at hr _ p hp).1)
  unfold cutsF
  rw [cutRun, this, if_neg (by simp)]
end Go.Proofs.YtcehbpimdngjfaaDoor.M2
