/- What the functions answer in M2. Part 23: the document's skeleton. -/
import Derived.Test.YtapibckmdpdljaaDoorCh
set_option linter.unusedSimpArgs false
set_option linter.unusedVariables false
set_option linter.unusedSectionVars false
/- Plain: skeletons. -/
namespace Go.Proofs.YtapibckmdpdljaaDoor.M2
open Go

/-- What is told of the path from a place: where it leads, its table, its steps. -/
def wq (l : List Ins) (a : Nat) : Int × List Src × Int := (fromF l a).1
abbrev Way := Int × List Src
/-- Places with the one to which a way from a place leads. -/
def addP (l : List Ins) (ps : List Nat) (a : Nat) : List Nat := if (wq l a).1 < 0 ∨ (wq l a).1.toNat ∈ ps then ps else ps ++ [(wq l a).1.toNat]
/-- The way from a place, among places. -/
def outP (l : List Ins) (ps : List Nat) (a : Nat) : Way := if (wq l a).1 < 0 then (-1, (wq l a).2.1) else (((ps.idxOf (wq l a).1.toNat : Nat) : Int), (wq l a).2.1)
/-- From where a node's ways go. -/
def fsN (x : Ins) (i : Nat) : List Nat := if x.op = 18 then [] else if x.op = 17 then [x.to.toNat, i + 1] else [i + 1]
def cutF (cut : List Bool) (i : Nat) : Bool := cut.getD i false
/-! The program's skeleton. -/
abbrev Node := Nat × Option (List Way)
def pAdd (l : List Ins) (ns : List Node) (a : Nat) : List Node := if (wq l a).1 < 0 ∨ (wq l a).1.toNat ∈ ns.map (·.1) then ns else ns ++ [((wq l a).1.toNat, none)]
def pOuts (l : List Ins) : List Nat → List Node → List Way → List Node × List Way
  | [], ns, os => (ns, os)
  | a :: ls, ns, os => pOuts l ls (pAdd l ns a) (os ++ [outP l ((pAdd l ns a).map (·.1)) a])
def atN (ns : List Node) (n : Nat) : Nat := (ns.getD n (0, none)).1
def fsAt (l : List Ins) (i : Nat) : List Nat := fsN (l.getD i default) i
def pStep (l : List Ins) (cut : List Bool) (n : Nat) (ns : List Node) : List Node :=
  if cutF cut (atN ns n) then ns else (pOuts l (fsAt l (atN ns n)) ns []).1.set n (atN ns n, some (pOuts l (fsAt l (atN ns n)) ns []).2)
def pRun (l : List Ins) (cut : List Bool) : Nat → Nat → List Node → List Node
  | 0, _, ns => ns
  | k + 1, n, ns => if n < ns.length then pRun l cut k (n + 1) (pStep l cut n ns) else ns
def pNodes (l : List Ins) (cut : List Bool) : List Node := pRun l cut 201 0 (pAdd l [] 0)
def pEntry (l : List Ins) : Way := outP l ((pAdd l [] 0).map (·.1)) 0
/-! The document's. -/
def fsC (l : List Ins) (cut : List Bool) (i : Nat) : List Nat := if cutF cut i then [] else fsAt l i
def rRun (l : List Ins) (cut : List Bool) : Nat → Nat → List Nat → List Nat
  | 0, _, ps => ps
  | k + 1, n, ps => if n < ps.length then rRun l cut k (n + 1) ((fsC l cut (ps.getD n 0)).foldl (addP l) ps) else ps
def rPlaces (l : List Ins) (cut : List Bool) : List Nat := rRun l cut 201 0 (addP l [] 0)
def rOuts (l : List Ins) (cut : List Bool) (ps : List Nat) (i : Nat) : List Way := (fsC l cut i).map (outP l ps)
/-! The same. -/
def Has (l : List Ins) (ps : List Nat) (a : Nat) : Prop := (wq l a).1 < 0 ∨ (wq l a).1.toNat ∈ ps
theorem Has.app {l : List Ins} {ps : List Nat} {a : Nat} (h : Has l ps a) (qs : List Nat) : Has l (ps ++ qs) a := h.imp id fun h => List.mem_append_left _ h
theorem Has.out {l : List Ins} {ps : List Nat} {a : Nat} (h : Has l ps a) (qs : List Nat) : outP l (ps ++ qs) a = outP l ps a := by
  unfold outP
  split
  · rfl
  · rename_i hn
    rw [List.idxOf_append, if_pos (h.resolve_left hn)]
theorem addP_spec (l : List Ins) (ps : List Nat) (a : Nat) : Has l (addP l ps a) a ∧ ∃ qs, addP l ps a = ps ++ qs := by
  unfold addP Has
  split
  · rename_i h
    exact ⟨h, [], by simp⟩
  · exact ⟨.inr (by simp), _, rfl⟩
theorem addP_has {l : List Ins} {ps : List Nat} {a : Nat} (h : Has l ps a) : addP l ps a = ps := by unfold addP; exact if_pos h
theorem pAdd_places (l : List Ins) (ns : List Node) (a : Nat) : (pAdd l ns a).map (·.1) = addP l (ns.map (·.1)) a ∧ ∃ qs : List Nat, pAdd l ns a = ns ++ qs.map fun p => (p, none) := by
  unfold pAdd addP
  split
  · exact ⟨rfl, [], by simp⟩
  · exact ⟨by simp, [(wq l a).1.toNat], rfl⟩
theorem fold_spec (l : List Ins) : ∀ (ls : List Nat) (ps : List Nat), (∃ qs, ls.foldl (addP l) ps = ps ++ qs) ∧ ∀ a ∈ ls, Has l (ls.foldl (addP l) ps) a
  | [], ps => ⟨⟨[], by simp⟩, by simp⟩
  | a :: ls, ps => by
    obtain ⟨h1, qs, h2⟩ := addP_spec l ps a
    obtain ⟨⟨rs, h3⟩, h4⟩ := fold_spec l ls (addP l ps a)
    rw [List.foldl_cons]
    refine ⟨⟨qs ++ rs, by rw [h3, h2, List.append_assoc]⟩, fun b hb => ?_⟩
    rcases List.mem_cons.1 hb with rfl | hb
    · rw [h3]; exact h1.app _
    · exact h4 b hb
theorem pOuts_spec (l : List Ins) : ∀ (ls : List Nat) (ns : List Node) (os : List Way), (pOuts l ls ns os).1.map (·.1) = ls.foldl (addP l) (ns.map (·.1)) ∧ (∃ qs : List Nat, (pOuts l ls ns os).1 = ns ++ qs.map fun p => (p, none)) ∧
    (pOuts l ls ns os).2 = os ++ ls.map (outP l (ls.foldl (addP l) (ns.map (·.1))))
  | [], ns, os => ⟨rfl, ⟨[], by simp [pOuts]⟩, by simp [pOuts]⟩
  | a :: ls, ns, os => by
    obtain ⟨h1, qs, h2⟩ := pAdd_places l ns a
    obtain ⟨h3, ⟨rs, h4⟩, h5⟩ := pOuts_spec l ls (pAdd l ns a) (os ++ [outP l ((pAdd l ns a).map (·.1)) a])
    rw [pOuts, List.foldl_cons]
    rw [h1] at h3 h4 h5
    refine ⟨by rw [h1]; exact h3, ⟨qs ++ rs, by rw [h1, h4, h2, List.map_append, List.append_assoc]⟩, ?_⟩
    rw [h1, h5, List.map_cons, List.append_assoc, List.singleton_append]
    obtain ⟨⟨ts, h6⟩, _⟩ := fold_spec l ls (addP l (ns.map (·.1)) a)
    rw [h6, (addP_spec l (ns.map (·.1)) a).1.out]
/-- The nodes so far: those ahead of n are done. -/
structure NInv (l : List Ins) (cut : List Bool) (n : Nat) (ns : List Node) : Prop where
  le : n ≤ ns.length
  nodup : (ns.map (·.1)).Nodup
  lt : ∀ p ∈ ns.map (·.1), p < l.length ∧ movesF (l.getD p default) = false
  done : ∀ i x, i < n → ns[i]? = some x → x.2 = (if cutF cut x.1 then none else some ((fsAt l x.1).map (outP l (ns.map (·.1))))) ∧ ∀ a ∈ fsC l cut x.1, Has l (ns.map (·.1)) a
  new : ∀ i x, n ≤ i → ns[i]? = some x → x.2 = none
theorem wq_ok {l : List Ins} (hr : rightF l = true) {a : Nat} (ha : a < l.length) : (wq l a).1 < 0 ∨ (0 ≤ (wq l a).1 ∧ (wq l a).1.toNat < l.length ∧ movesF (l.getD (wq l a).1.toNat default) = false) := by
  obtain ⟨t, _, e⟩ := fair_pr hr ha
  unfold wq
  rw [e]
  cases h : pr l (l.length + 1) a with
  | none => left; simp [prI]
  | some r =>
    right
    have h1 := pr_to hr ha h
    have h2 := pr_end h
    simp only [prI, Int.toNat_natCast]
    exact ⟨by omega, h1, h2⟩
theorem addP_ok {l : List Ins} (hr : rightF l = true) {a : Nat} (ha : a < l.length) {ps : List Nat} (h1 : ps.Nodup) (h2 : ∀ p ∈ ps, p < l.length ∧ movesF (l.getD p default) = false) : (addP l ps a).Nodup ∧ ∀ p ∈ addP l ps a, p < l.length ∧ movesF (l.getD p default) = false := by
  unfold addP
  split
  · exact ⟨h1, h2⟩
  · rename_i hn
    have hn1 : ¬ (wq l a).1 < 0 := fun h => hn (.inl h)
    have hn2 : (wq l a).1.toNat ∉ ps := fun h => hn (.inr h)
    have := (wq_ok hr ha).resolve_left hn1
    refine ⟨?_, ?_⟩
    · rw [List.nodup_append]
      refine ⟨h1, by simp, ?_⟩
      intro x hx y hy
      simp only [List.mem_singleton] at hy
      subst hy
      rintro rfl
      exact hn2 hx
    · intro p hp
      rcases List.mem_append.1 hp with hp | hp
      · exact h2 p hp
      · simp only [List.mem_singleton] at hp
        subst hp
        exact this.2
theorem fold_ok {l : List Ins} (hr : rightF l = true) : ∀ (ls : List Nat) (ps : List Nat), (∀ a ∈ ls, a < l.length) → ps.Nodup → (∀ p ∈ ps, p < l.length ∧ movesF (l.getD p default) = false) → (ls.foldl (addP l) ps).Nodup ∧ ∀ p ∈ ls.foldl (addP l) ps, p < l.length ∧ movesF (l.getD p default) = false
  | [], _, _, h1, h2 => ⟨h1, h2⟩
  | a :: ls, ps, ha, h1, h2 => by
    obtain ⟨k1, k2⟩ := addP_ok hr (ha a (by simp)) h1 h2
    exact fold_ok hr ls _ (fun b hb => ha b (by simp [hb])) k1 k2
theorem check_to17 {x : Ins} {m : Int} (h : checkF x m = 0) (ho : x.op = 17) : 0 ≤ x.to ∧ x.to < m := by
  unfold checkF at h
  split at h
  · simp at h
  · split at h
    · simp at h
    · split at h
      · simp at h
      · rename_i h4
        unfold bad4 at h4
        simp only [ho, or_true, true_and] at h4
        omega
theorem fsAt_ok {l : List Ins} (hr : rightF l = true) {i : Nat} (hi : i < l.length) (hm : movesF (l.getD i default) = false) : (∀ a ∈ fsAt l i, a < l.length) ∧ ((l.getD i default).op = 17 → 0 ≤ (l.getD i default).to) := by
  obtain ⟨h1, h2, h3, h4⟩ := right_facts hr
  have hx : l.getD i default = l[i] := by simp [hi]
  have hc := h3 l[i] (List.getElem_mem hi)
  have h5 : lastOp l = (l.getD (l.length - 1) default).op := rfl
  unfold fsAt fsN
  rw [hx] at hm ⊢
  have hlast : l[i].op ≠ 18 → i + 1 < l.length := by
    intro h18
    rcases Nat.lt_or_ge (i + 1) l.length with h | h
    · exact h
    · have he : i = l.length - 1 := by omega
      rw [← he, hx] at h5
      have h16 : l[i].op = 16 := by omega
      rw [movesF, h16] at hm
      simp at hm
  refine ⟨?_, fun h => (check_to17 hc h).1⟩
  split
  · simp
  · rename_i h18
    split
    · rename_i h17
      have := check_to17 hc h17
      intro a ha
      simp only [List.mem_cons, List.not_mem_nil, or_false] at ha
      rcases ha with rfl | rfl
      · omega
      · exact hlast h18
    · intro a ha
      simp only [List.mem_cons, List.not_mem_nil, or_false] at ha
      subst ha
      exact hlast h18
theorem atN_get {ns : List Node} {n : Nat} (h : n < ns.length) : (ns.map (·.1))[n]? = some (atN ns n) ∧ ∃ o, ns[n]? = some (atN ns n, o) := by
  have e : ns.getD n (0, none) = ns[n] := by simp [h]
  unfold atN
  rw [e]
  exact ⟨by simp [h], ns[n].2, by simp [h]⟩
theorem NInv.step {l : List Ins} {cut : List Bool} (hr : rightF l = true) {n : Nat} {ns : List Node} (h : NInv l cut n ns) (hn : n < ns.length) :
    NInv l cut (n + 1) (pStep l cut n ns) ∧ (pStep l cut n ns).map (·.1) = (fsC l cut (atN ns n)).foldl (addP l) (ns.map (·.1)) ∧ ∃ qs, (pStep l cut n ns).map (·.1) = ns.map (·.1) ++ qs := by
  unfold pStep
  obtain ⟨hg, o, hg2⟩ := atN_get hn
  have hold := h.new n _ (Nat.le_refl _) hg2
  simp only at hold
  subst hold
  generalize atN ns n = at_ at *
  have hat := h.lt at_ (List.mem_of_getElem? hg)
  cases hc : cutF cut at_ with
  | true =>
    have e : fsC l cut at_ = [] := by unfold fsC; rw [if_pos hc]
    rw [if_pos rfl, e]
    refine ⟨⟨hn, h.nodup, h.lt, fun i x hi hx => ?_, fun i x hi hx => h.new i x (by omega) hx⟩, rfl, [], by simp⟩
    by_cases hin : i = n
    · subst hin
      rw [hg2] at hx
      cases hx
      simp only [hc, if_true, e]
      exact ⟨trivial, by simp⟩
    · exact h.done i x (by omega) hx
  | false =>
    have e : fsC l cut at_ = fsAt l at_ := by unfold fsC; rw [if_neg (by simp [hc])]
    rw [if_neg (by simp), e]
    obtain ⟨k1, ⟨qs, k2⟩, k3⟩ := pOuts_spec l (fsAt l at_) ns []
    obtain ⟨_, k4⟩ := fold_spec l (fsAt l at_) (ns.map (·.1))
    obtain ⟨k5, k6⟩ := fold_ok hr (fsAt l at_) (ns.map (·.1)) (fsAt_ok hr hat.1 hat.2).1 h.nodup h.lt
    rw [← k1] at k3 k4 k5 k6
    have hmap : ((pOuts l (fsAt l at_) ns []).1.set n (at_, some (pOuts l (fsAt l at_) ns []).2)).map (·.1) = (pOuts l (fsAt l at_) ns []).1.map (·.1) := by
      apply List.ext_getElem?
      intro i
      rw [List.getElem?_map, List.getElem?_map, List.getElem?_set]
      split
      · rename_i hi
        subst hi
        rw [k2, List.getElem?_append_left hn, hg2]
        simp only [Option.map_some]
        rw [if_pos (by rw [List.length_append]; omega)]
        rfl
      · rfl
    have hext : (pOuts l (fsAt l at_) ns []).1.map (·.1) = ns.map (·.1) ++ qs := by
      rw [k2, List.map_append, List.map_map]
      congr 1
      exact List.map_id' qs
    rw [hmap]
    have hlen : n < (pOuts l (fsAt l at_) ns []).1.length := by rw [k2, List.length_append]; omega
    refine ⟨⟨?_, by rw [hmap]; exact k5, by rw [hmap]; exact k6, fun i x hi hx => ?_, fun i x hi hx => ?_⟩, k1, qs, hext⟩
    · rw [List.length_set]; exact hlen
    · rw [hmap]
      by_cases hin : i = n
      · subst hin
        rw [List.getElem?_set_self hlen] at hx
        cases hx
        simp only [hc]
        refine ⟨by rw [k3]; simp, by rw [e]; exact k4⟩
      · rw [List.getElem?_set_ne (Ne.symm hin), k2, List.getElem?_append_left (by omega)] at hx
        obtain ⟨d1, d2⟩ := h.done i x (by omega) hx
        rw [hext]
        refine ⟨?_, fun a ha => (d2 a ha).app _⟩
        rw [d1]
        cases hcx : cutF cut x.1 with
        | true => rfl
        | false =>
          simp only [Bool.false_eq_true, if_false]
          congr 1
          refine List.map_congr_left fun a ha => ((d2 a ?_).out qs).symm
          unfold fsC
          rw [if_neg (by simp [hcx])]
          exact ha
    · have hin : n ≠ i := by omega
      rw [List.getElem?_set_ne hin, k2] at hx
      rcases Nat.lt_or_ge i ns.length with hl | hl
      · rw [List.getElem?_append_left hl] at hx
        exact h.new i x (by omega) hx
      · rw [List.getElem?_append_right hl, List.getElem?_map] at hx
        obtain ⟨p, _, rfl⟩ := Option.map_eq_some_iff.1 hx
        rfl
theorem NInv.few {l : List Ins} {cut : List Bool} {n : Nat} {ns : List Node} (h : NInv l cut n ns) : ns.length ≤ l.length := by
  have := List.Nodup.length_le_of_subset h.nodup (l₂ := List.range l.length) (fun p hp => by rw [List.mem_range]; exact (h.lt p hp).1)
  simpa using this
/-- All nodes. -/
theorem pRun_spec {l : List Ins} {cut : List Bool} (hr : rightF l = true) : ∀ (k n : Nat) (ns : List Node), NInv l cut n ns → l.length < k + n →
    NInv l cut (pRun l cut k n ns).length (pRun l cut k n ns) ∧ (pRun l cut k n ns).map (·.1) = rRun l cut k n (ns.map (·.1)) ∧ ∃ qs, (pRun l cut k n ns).map (·.1) = ns.map (·.1) ++ qs
  | 0, n, ns, h, hk => by
    have := h.le
    have := h.few
    omega
  | k + 1, n, ns, h, hk => by
    rw [pRun, rRun, List.length_map]
    split
    · rename_i hn
      obtain ⟨h1, h2, qs, h3⟩ := h.step hr hn
      obtain ⟨k1, k2, rs, k3⟩ := pRun_spec hr k (n + 1) _ h1 (by omega)
      refine ⟨k1, ?_, qs ++ rs, by rw [k3, h3, List.append_assoc]⟩
      rw [k2, h2]
      have e : (ns.map (·.1)).getD n 0 = atN ns n := by rw [List.getD_eq_getElem?_getD, (atN_get hn).1]; rfl
      rw [e]
    · have hn : n = ns.length := by have := h.le; omega
      subst hn
      exact ⟨h, rfl, [], by simp⟩
theorem ninv0 {l : List Ins} {cut : List Bool} (hr : rightF l = true) : NInv l cut 0 (pAdd l [] 0) := by
  have hpos := (right_facts hr).2.1
  obtain ⟨h1, qs, h2⟩ := pAdd_places l [] 0
  obtain ⟨h3, h4⟩ := addP_ok hr hpos (ps := []) List.nodup_nil (by simp)
  exact ⟨Nat.zero_le _, by rw [h1]; exact h3, by rw [h1]; exact h4, fun i x hi => by omega, fun i x _ hx => by
    rw [h2, List.nil_append, List.getElem?_map] at hx
    obtain ⟨p, _, rfl⟩ := Option.map_eq_some_iff.1 hx
    rfl⟩
/-- The program's skeleton is the document's. -/
theorem nodes_spec {l : List Ins} {cut : List Bool} (hr : rightF l = true) :
    pNodes l cut = (rPlaces l cut).map (fun i => (i, if cutF cut i then none else some ((fsAt l i).map (outP l (rPlaces l cut))))) ∧ pEntry l = outP l (rPlaces l cut) 0 ∧ (rPlaces l cut).length ≤ l.length ∧ (rPlaces l cut).Nodup ∧ (∀ p ∈ rPlaces l cut, p < l.length ∧ movesF (l.getD p default) = false) ∧ (∀ p ∈ rPlaces l cut, ∀ a ∈ fsC l cut p, Has l (rPlaces l cut) a) := by
  have h200 := (right_facts hr).1
  have hpos := (right_facts hr).2.1
  have h1 := (pAdd_places l [] 0).1
  have h0 := ninv0 (cut := cut) hr
  obtain ⟨k1, k2, rs, k3⟩ := pRun_spec hr 201 0 _ h0 (by omega)
  have hp : (pNodes l cut).map (·.1) = rPlaces l cut := by
    unfold pNodes rPlaces
    rw [k2, h1]
    rfl
  have hN : NInv l cut (pNodes l cut).length (pNodes l cut) := k1
  refine ⟨?_, ?_, by rw [← hp, List.length_map]; exact hN.few, by rw [← hp]; exact hN.nodup, by rw [← hp]; exact hN.lt, ?_⟩
  · apply List.ext_getElem?
    intro i
    rw [← hp, List.map_map, List.getElem?_map]
    cases hx : (pNodes l cut)[i]? with
    | none => rfl
    | some x =>
      have := (hN.done i x (List.getElem?_eq_some_iff.1 hx).1 hx).1
      simp only [Option.map_some, Function.comp]
      rw [← this]
  · unfold pEntry
    rw [← hp]
    have e : (pNodes l cut).map (·.1) = (pAdd l [] 0).map (·.1) ++ rs := k3
    rw [e, Has.out]
    rw [h1]
    exact (addP_spec l [] 0).1
  · intro p hp' a ha
    rw [← hp] at hp' ⊢
    obtain ⟨x, hx, rfl⟩ := List.mem_map.1 hp'
    obtain ⟨i, hi, rfl⟩ := List.mem_iff_getElem.1 hx
    exact (hN.done i _ hi (List.getElem?_eq_getElem hi)).2 a ha
end Go.Proofs.YtapibckmdpdljaaDoor.M2

/- What the functions answer in M2. Part 20: from where ways go, and where a place is. -/
namespace Go.Proofs.YtapibckmdpdljaaDoor.M2
open Go
attribute [local simp] ev1 M2.get put A.ev ld sub part elems bin arith un opt idx fillC cellsO splice over newOb sto fillR laidOwn appTo appRow touch touchN touchM touchE touchA plainU flatU plainAs allM rowAt stoRow accM_nil accM_cons accMM_nil accMM_cons frz_int frz_bool frz_str frz_slt frz_nils frz_nilI frz_nilF frz_own frzRow_row frzRow_frow Ob.blw blw_bool blw_int blw_str blw_nils blw_nilI blw_nilF blw_nilp blw_nilm blw_sl blw_own blw_bp blw_rp blw_mp blw_it params
attribute [local simp] frz_agg frz_tup frz_iface frzS_agg frzS_iface accMS_cons frzS_int frzS_bool frzS_str frzS_slt frzS_nils frzS_nilI beq_dec bne_dec

/-- A row of numbers. -/
def natU (p : Bool) (ps : List Nat) : U := .sl p (ps.map fun (n : Nat) => [i64 (n : Int)])
def boolU (p : Bool) (bs : List Bool) : U := .sl p (bs.map fun b => [.bool b])
theorem nexts_call (x : Ins) (i : Nat) (hi : i < 1000) (hto : x.op = 17 → 0 ≤ x.to) (st : List Ob) : Cl T 46 [.agg (insU x), i64 i] st (natU true (fsN x i)) st := by
  refine Wp.pure (fn := c_skel_nexts) rfl rfl rfl («as» := [.agg (insU x), i64 i]) rfl ?_
  unfold fsN
  obtain ⟨op, d, a, b, n, to⟩ := x
  simp only at hto ⊢
  by_cases h18 : op = 18
  · subst h18
    repeat' (first | apply Wp.seq | apply Wp.skip | apply Wp.block | (apply Wp.op0; ((simp [M2.keep]) <;> rfl)) | ((first | (apply Wp.pickT; (exact rfl); (first | exact rfl | assumption)) | (apply Wp.pickF; (exact rfl); (first | exact rfl | assumption))); ((simp) <;> exact rfl)) | ((first | apply Wp.op | apply Wp.opN); (apply Evt.all; intro; (simp [insU, natU]) <;> (try simp (disch := omega) only [wrap_id]) <;> first | exact ⟨rfl, rfl⟩ | exact rfl)) | (first | (apply Wp.ung; (exact rfl); (first | exact rfl | assumption)) | (apply Wp.opSt; (exact rfl); (first | exact rfl | assumption)) | (apply Wp.opSf; (exact rfl); (first | exact rfl | assumption))) | (apply Wp.opS0; (exact rfl)) | (first | (apply Wp.condT; (exact rfl); (first | exact rfl | assumption)) | (apply Wp.condF; (exact rfl); (first | exact rfl | assumption))) | ((first | apply Wp.grdT | apply Wp.grdF | apply Wp.cond); (exact rfl); (intro); rotate_left 1; (intro); rotate_right 1))
    refine Wp.ret ?_
    simp [Res, resU, res1, c_skel_nexts, natU]
  · rw [if_neg h18]
    have d18 : decide (op = 18) = false := decide_eq_false h18
    by_cases h17 : op = 17
    · subst h17
      obtain ⟨N, rfl⟩ := Int.eq_ofNat_of_zero_le (hto rfl)
      repeat' (first | apply Wp.seq | apply Wp.skip | apply Wp.block | (apply Wp.op0; ((simp [M2.keep]) <;> rfl)) | ((first | (apply Wp.pickT; (exact rfl); (first | exact rfl | assumption)) | (apply Wp.pickF; (exact rfl); (first | exact rfl | assumption))); ((simp) <;> exact rfl)) | ((first | apply Wp.op | apply Wp.opN); (apply Evt.all; intro; (simp [insU, natU, wrap_id]) <;> (try simp (disch := omega) only [wrap_id]) <;> first | exact ⟨rfl, rfl⟩ | exact rfl)) | (first | (apply Wp.ung; (exact rfl); (first | exact rfl | assumption)) | (apply Wp.opSt; (exact rfl); (first | exact rfl | assumption)) | (apply Wp.opSf; (exact rfl); (first | exact rfl | assumption))) | (apply Wp.opS0; (exact rfl)) | (first | (apply Wp.condT; (exact rfl); (first | exact rfl | assumption)) | (apply Wp.condF; (exact rfl); (first | exact rfl | assumption))) | ((first | apply Wp.grdT | apply Wp.grdF | apply Wp.cond); (exact rfl); (intro); rotate_left 1; (intro); rotate_right 1))
      refine Wp.ret ?_
      simp [Res, resU, res1, c_skel_nexts, natU]
    · rw [if_neg h17]
      have d17 : decide (op = 17) = false := decide_eq_false h17
      repeat' (first | apply Wp.seq | apply Wp.skip | apply Wp.block | (apply Wp.op0; ((simp [M2.keep]) <;> rfl)) | ((first | (apply Wp.pickT; (exact rfl); (first | exact rfl | assumption)) | (apply Wp.pickF; (exact rfl); (first | exact rfl | assumption))); ((simp) <;> exact rfl)) | ((first | apply Wp.op | apply Wp.opN); (apply Evt.all; intro; (simp [insU, natU, wrap_id, h17, h18]) <;> (try simp (disch := omega) only [wrap_id]) <;> first | exact ⟨rfl, rfl⟩ | exact rfl)) | (first | (apply Wp.ung; (exact rfl); (first | exact rfl | assumption)) | (apply Wp.opSt; (exact rfl); (first | exact rfl | assumption)) | (apply Wp.opSf; (exact rfl); (first | exact rfl | assumption))) | (apply Wp.opS0; (exact rfl)) | (first | (apply Wp.condT; (exact rfl); (first | exact rfl | assumption)) | (apply Wp.condF; (exact rfl); (first | exact rfl | assumption))) | ((first | apply Wp.grdT | apply Wp.grdF | apply Wp.cond); (exact rfl); (intro); rotate_left 1; (intro); rotate_right 1))
      refine Wp.ret ?_
      simp [Res, resU, res1, c_skel_nexts, natU]
theorem froms_call (p : Bool) (l : List Ins) (q : Bool) (cut : List Bool) (i : Nat) (hi : i < l.length) (hl : l.length < 1000) (hto : (l.getD i default).op = 17 → 0 ≤ (l.getD i default).to) (st : List Ob) : Cl T 52 [insL p l, boolU q cut, i64 i] st (natU true (fsC l cut i)) st := by
  refine Wp.pure (fn := c_joineryref10_froms) rfl rfl rfl («as» := [insL p l, boolU q cut, i64 i]) rfl ?_
  unfold fsC fsAt
  have hx : l.getD i default = l[i] := by simp [hi]
  rw [hx] at hto ⊢
  unfold fsN
  by_cases h18 : l[i].op = 18
  · have d18 : decide (l[i].op = 18) = true := decide_eq_true h18
    have e : (if cutF cut i = true then [] else if l[i].op = 18 then [] else if l[i].op = 17 then [l[i].to.toNat, i + 1] else [i + 1]) = ([] : List Nat) := by simp [h18]
    rw [e]
    repeat' (first | apply Wp.seq | apply Wp.skip | apply Wp.block | (apply Wp.op0; ((simp [M2.keep]) <;> rfl)) | ((first | (apply Wp.pickT; (exact rfl); (first | exact rfl | assumption)) | (apply Wp.pickF; (exact rfl); (first | exact rfl | assumption))); ((simp) <;> exact rfl)) | ((first | apply Wp.op | apply Wp.opN); (apply Evt.all; intro; (simp [insL, insU, natU, boolU, hi]) <;> (try simp (disch := omega) only [wrap_id]) <;> first | exact ⟨rfl, rfl⟩ | exact rfl)) | (first | (apply Wp.ung; (exact rfl); (first | exact rfl | assumption)) | (apply Wp.opSt; (exact rfl); (first | exact rfl | assumption)) | (apply Wp.opSf; (exact rfl); (first | exact rfl | assumption))) | (apply Wp.opS0; (exact rfl)) | (first | (apply Wp.condT; (exact rfl); (first | exact rfl | assumption)) | (apply Wp.condF; (exact rfl); (first | exact rfl | assumption))) | ((first | apply Wp.grdT | apply Wp.grdF | apply Wp.cond); (exact rfl); (intro); rotate_left 1; (intro); rotate_right 1))
    refine Wp.ret ?_
    simp [Res, resU, res1, c_joineryref10_froms, natU]
  · have d18 : decide (l[i].op = 18) = false := decide_eq_false h18
    rw [if_neg h18]
    by_cases hc : i < cut.length
    · have dc : decide (i < cut.length) = true := decide_eq_true hc
      have hcg : cutF cut i = cut[i] := by simp [cutF, hc]
      rw [hcg]
      have hcl : (i : Int) < cut.length := by omega
      cases hb : cut[i] with
      | true =>
        have eb : cut[i]? = some true := by rw [List.getElem?_eq_getElem hc, hb]
        repeat' (first | apply Wp.seq | apply Wp.skip | apply Wp.block | (apply Wp.op0; ((simp [M2.keep]) <;> rfl)) | ((first | (apply Wp.pickT; (exact rfl); (first | exact rfl | assumption)) | (apply Wp.pickF; (exact rfl); (first | exact rfl | assumption))); ((simp) <;> exact rfl)) | ((first | apply Wp.op | apply Wp.opN); (apply Evt.all; intro; (simp [insL, insU, natU, boolU, hi, hcl, eb]) <;> (try simp (disch := omega) only [wrap_id]) <;> first | exact ⟨rfl, rfl⟩ | exact rfl)) | (first | (apply Wp.ung; (exact rfl); (first | exact rfl | assumption)) | (apply Wp.opSt; (exact rfl); (first | exact rfl | assumption)) | (apply Wp.opSf; (exact rfl); (first | exact rfl | assumption))) | (apply Wp.opS0; (exact rfl)) | (first | (apply Wp.condT; (exact rfl); (first | exact rfl | assumption)) | (apply Wp.condF; (exact rfl); (first | exact rfl | assumption))) | ((first | apply Wp.grdT | apply Wp.grdF | apply Wp.cond); (exact rfl); (intro); rotate_left 1; (intro); rotate_right 1))
        refine Wp.ret ?_
        simp [Res, resU, res1, c_joineryref10_froms, natU]
      | false =>
        have eb : cut[i]? = some false := by rw [List.getElem?_eq_getElem hc, hb]
        by_cases h17 : l[i].op = 17
        · have d17 : decide (l[i].op = 17) = true := decide_eq_true h17
          obtain ⟨N, hN⟩ := Int.eq_ofNat_of_zero_le (hto h17)
          repeat' (first | apply Wp.seq | apply Wp.skip | apply Wp.block | (apply Wp.op0; ((simp [M2.keep]) <;> rfl)) | ((first | (apply Wp.pickT; (exact rfl); (first | exact rfl | assumption)) | (apply Wp.pickF; (exact rfl); (first | exact rfl | assumption))); ((simp) <;> exact rfl)) | ((first | apply Wp.op | apply Wp.opN); (apply Evt.all; intro; (simp [insL, insU, natU, boolU, hi, hcl, eb]) <;> (try simp (disch := omega) only [wrap_id]) <;> first | exact ⟨rfl, rfl⟩ | exact rfl)) | (first | (apply Wp.ung; (exact rfl); (first | exact rfl | assumption)) | (apply Wp.opSt; (exact rfl); (first | exact rfl | assumption)) | (apply Wp.opSf; (exact rfl); (first | exact rfl | assumption))) | (apply Wp.opS0; (exact rfl)) | (first | (apply Wp.condT; (exact rfl); (first | exact rfl | assumption)) | (apply Wp.condF; (exact rfl); (first | exact rfl | assumption))) | ((first | apply Wp.grdT | apply Wp.grdF | apply Wp.cond); (exact rfl); (intro); rotate_left 1; (intro); rotate_right 1))
          refine Wp.ret ?_
          simp [Res, resU, res1, c_joineryref10_froms, natU, h17, hN]
        · have d17 : decide (l[i].op = 17) = false := decide_eq_false h17
          repeat' (first | apply Wp.seq | apply Wp.skip | apply Wp.block | (apply Wp.op0; ((simp [M2.keep]) <;> rfl)) | ((first | (apply Wp.pickT; (exact rfl); (first | exact rfl | assumption)) | (apply Wp.pickF; (exact rfl); (first | exact rfl | assumption))); ((simp) <;> exact rfl)) | ((first | apply Wp.op | apply Wp.opN); (apply Evt.all; intro; (simp [insL, insU, natU, boolU, hi, hcl, eb]) <;> (try simp (disch := omega) only [wrap_id]) <;> first | exact ⟨rfl, rfl⟩ | exact rfl)) | (first | (apply Wp.ung; (exact rfl); (first | exact rfl | assumption)) | (apply Wp.opSt; (exact rfl); (first | exact rfl | assumption)) | (apply Wp.opSf; (exact rfl); (first | exact rfl | assumption))) | (apply Wp.opS0; (exact rfl)) | (first | (apply Wp.condT; (exact rfl); (first | exact rfl | assumption)) | (apply Wp.condF; (exact rfl); (first | exact rfl | assumption))) | ((first | apply Wp.grdT | apply Wp.grdF | apply Wp.cond); (exact rfl); (intro); rotate_left 1; (intro); rotate_right 1))
          refine Wp.ret ?_
          simp [Res, resU, res1, c_joineryref10_froms, natU, h17]
    · have dc : decide (i < cut.length) = false := decide_eq_false hc
      have hcg : cutF cut i = false := by simp [cutF, List.getElem?_eq_none (Nat.le_of_not_lt hc)]
      rw [hcg]
      by_cases h17 : l[i].op = 17
      · have d17 : decide (l[i].op = 17) = true := decide_eq_true h17
        obtain ⟨N, hN⟩ := Int.eq_ofNat_of_zero_le (hto h17)
        repeat' (first | apply Wp.seq | apply Wp.skip | apply Wp.block | (apply Wp.op0; ((simp [M2.keep]) <;> rfl)) | ((first | (apply Wp.pickT; (exact rfl); (first | exact rfl | assumption)) | (apply Wp.pickF; (exact rfl); (first | exact rfl | assumption))); ((simp) <;> exact rfl)) | ((first | apply Wp.op | apply Wp.opN); (apply Evt.all; intro; (simp [insL, insU, natU, boolU, hi]) <;> (try simp (disch := omega) only [wrap_id]) <;> first | exact ⟨rfl, rfl⟩ | exact rfl)) | (first | (apply Wp.ung; (exact rfl); (first | exact rfl | assumption)) | (apply Wp.opSt; (exact rfl); (first | exact rfl | assumption)) | (apply Wp.opSf; (exact rfl); (first | exact rfl | assumption))) | (apply Wp.opS0; (exact rfl)) | (first | (apply Wp.condT; (exact rfl); (first | exact rfl | assumption)) | (apply Wp.condF; (exact rfl); (first | exact rfl | assumption))) | ((first | apply Wp.grdT | apply Wp.grdF | apply Wp.cond); (exact rfl); (intro); rotate_left 1; (intro); rotate_right 1))
        refine Wp.ret ?_
        simp [Res, resU, res1, c_joineryref10_froms, natU, h17, hN]
      · have d17 : decide (l[i].op = 17) = false := decide_eq_false h17
        repeat' (first | apply Wp.seq | apply Wp.skip | apply Wp.block | (apply Wp.op0; ((simp [M2.keep]) <;> rfl)) | ((first | (apply Wp.pickT; (exact rfl); (first | exact rfl | assumption)) | (apply Wp.pickF; (exact rfl); (first | exact rfl | assumption))); ((simp) <;> exact rfl)) | ((first | apply Wp.op | apply Wp.opN); (apply Evt.all; intro; (simp [insL, insU, natU, boolU, hi]) <;> (try simp (disch := omega) only [wrap_id]) <;> first | exact ⟨rfl, rfl⟩ | exact rfl)) | (first | (apply Wp.ung; (exact rfl); (first | exact rfl | assumption)) | (apply Wp.opSt; (exact rfl); (first | exact rfl | assumption)) | (apply Wp.opSf; (exact rfl); (first | exact rfl | assumption))) | (apply Wp.opS0; (exact rfl)) | (first | (apply Wp.condT; (exact rfl); (first | exact rfl | assumption)) | (apply Wp.condF; (exact rfl); (first | exact rfl | assumption))) | ((first | apply Wp.grdT | apply Wp.grdF | apply Wp.cond); (exact rfl); (intro); rotate_left 1; (intro); rotate_right 1))
        refine Wp.ret ?_
        simp [Res, resU, res1, c_joineryref10_froms, natU, h17]
def whS (p : Bool) (ps : List Nat) (x : Nat) (i : Nat) : S := ⟨[(0, natU p ps), (1, i64 x), (5, i64 i)], []⟩
theorem where_call (p : Bool) (ps : List Nat) (x : Nat) (hl : ps.length < 1000) (st : List Ob) (PU : U) (hPU : brw frzD st PU = some (natU p ps)) : Cl T 65 [PU, i64 x] st (i64 (ps.idxOf x : Nat)) st := by
  refine Wp.pure (fn := c_joineryref10_where) rfl rfl rfl («as» := [natU p ps, i64 x]) (by simp [hPU]; rfl) ?_
  repeat (first | apply Wp.seq | apply Wp.skip | apply Wp.block | (apply Wp.op0; ((simp [M2.keep]) <;> rfl)) | ((first | apply Wp.op | apply Wp.opN | (apply Wp.opG; exact rfl)); (apply Evt.all; intro; (simp []) <;> (try simp (disch := omega) only [wrap_id]) <;> first | exact ⟨rfl, rfl⟩ | exact rfl)) | (apply Wp.opS; exact rfl; decide) | (apply Wp.opS0; exact rfl))
  refine (show Wp T (.loop c_joineryref10_where_L0) (whS p ps x (0 : Nat)) _ _ _ from Wp.count ps.length (fun i => whS p ps x i) (fun i => x ∉ ps.take i) (fun i hi hn => ?_) (fun hn => ?_) 0 (by omega) (by simp))
  · have hi' : (i : Int) < ps.length := by omega
    simp only [whS]
    repeat (first | apply Wp.seq | apply Wp.skip | apply Wp.block | (apply Wp.op0; ((simp [M2.keep]) <;> rfl)) | ((first | apply Wp.op | apply Wp.opN | (apply Wp.opG; exact rfl)); (apply Evt.all; intro; (simp [natU, hi']) <;> (try simp (disch := omega) only [wrap_id]) <;> first | exact ⟨rfl, rfl⟩ | exact rfl)) | (apply Wp.opS; exact rfl; decide) | (apply Wp.opS0; exact rfl))
    refine Wp.cond (by first | rfl | (simp; rfl)) (fun h1 => ?_) (fun h1 => ?_)
    · repeat (first | apply Wp.seq | apply Wp.skip | apply Wp.block | (apply Wp.op0; ((simp [M2.keep]) <;> rfl)) | ((first | apply Wp.op | apply Wp.opN | (apply Wp.opG; exact rfl)); (apply Evt.all; intro; (simp [natU, hi]) <;> (try simp (disch := omega) only [wrap_id]) <;> first | exact ⟨rfl, rfl⟩ | exact rfl)) | (apply Wp.opS; exact rfl; decide) | (apply Wp.opS0; exact rfl))
      refine Wp.cond (by first | rfl | (simp; rfl)) (fun h2 => ?_) (fun h2 => ?_)
      · have h2' : ps[i] = x := by
          have : ((ps[i] : Nat) : Int) = x := by simpa using h2
          omega
        repeat (first | apply Wp.seq | apply Wp.skip | apply Wp.block | (apply Wp.op0; ((simp [M2.keep]) <;> rfl)) | ((first | apply Wp.op | apply Wp.opN | (apply Wp.opG; exact rfl)); (apply Evt.all; intro; (simp []) <;> (try simp (disch := omega) only [wrap_id]) <;> first | exact ⟨rfl, rfl⟩ | exact rfl)) | (apply Wp.opS; exact rfl; decide) | (apply Wp.opS0; exact rfl))
        refine Wp.ret ?_
        have : ps.idxOf x = i := by
          rw [← List.take_append_drop i ps, List.idxOf_append, if_neg hn, List.drop_eq_getElem_cons hi, h2', List.idxOf_cons_self]
          simp; omega
        simp [Res, resU, res1, c_joineryref10_where, this]
      · have h2' : ¬ ps[i] = x := by
          intro h
          rw [h] at h2
          simp at h2
        repeat (first | apply Wp.seq | apply Wp.skip | apply Wp.block | (apply Wp.op0; ((simp [M2.keep]) <;> rfl)) | ((first | apply Wp.op | apply Wp.opN | (apply Wp.opG; exact rfl)); (apply Evt.all; intro; (simp [wrap_id]) <;> (try simp (disch := omega) only [wrap_id]) <;> first | exact ⟨rfl, rfl⟩ | exact rfl)) | (apply Wp.opS; exact rfl; decide) | (apply Wp.opS0; exact rfl))
        refine ⟨trimO_len rfl, ?_⟩
        rw [List.take_succ_eq_append_getElem hi]
        simp only [List.mem_append, List.mem_singleton, not_or]
        exact ⟨hn, fun h => h2' h.symm⟩
    · cases h1
  · rw [List.take_of_length_le (Nat.le_refl _)] at hn
    simp only [whS]
    repeat (first | apply Wp.seq | apply Wp.skip | apply Wp.block | (apply Wp.op0; ((simp [M2.keep]) <;> rfl)) | ((first | apply Wp.op | apply Wp.opN | (apply Wp.opG; exact rfl)); (apply Evt.all; intro; (simp [natU]) <;> (try simp (disch := omega) only [wrap_id]) <;> first | exact ⟨rfl, rfl⟩ | exact rfl)) | (apply Wp.opS; exact rfl; decide) | (apply Wp.opS0; exact rfl))
    refine Wp.cond (by first | rfl | (simp; rfl)) (fun h1 => ?_) (fun h1 => ?_)
    · simp at h1
    · refine Wp.exit ?_
      rw [if_pos rfl]
      repeat (first | apply Wp.seq | apply Wp.skip | apply Wp.block | (apply Wp.op0; ((simp [M2.keep]) <;> rfl)) | ((first | apply Wp.op | apply Wp.opN | (apply Wp.opG; exact rfl)); (apply Evt.all; intro; (simp [natU]) <;> (try simp (disch := omega) only [wrap_id]) <;> first | exact ⟨rfl, rfl⟩ | exact rfl)) | (apply Wp.opS; exact rfl; decide) | (apply Wp.opS0; exact rfl))
      refine Wp.ret ?_
      simp [Res, resU, res1, c_joineryref10_where, List.idxOf_eq_length hn]
end Go.Proofs.YtapibckmdpdljaaDoor.M2

/- What the functions answer in M2. Part 21: a way of the program's skeleton. -/
namespace Go.Proofs.YtapibckmdpdljaaDoor.M2
open Go
attribute [local simp] ev1 M2.get put A.ev ld sub part elems bin arith un opt idx fillC cellsO splice over newOb sto fillR laidOwn appTo appRow touch touchN touchM touchE touchA plainU flatU plainAs allM rowAt stoRow accM_nil accM_cons accMM_nil accMM_cons frz_int frz_bool frz_str frz_slt frz_nils frz_nilI frz_nilF frz_own frzRow_row frzRow_frow Ob.blw blw_bool blw_int blw_str blw_nils blw_nilI blw_nilF blw_nilp blw_nilm blw_sl blw_own blw_bp blw_rp blw_mp blw_it params
attribute [local simp] frz_agg frz_tup frz_iface frzS_agg frzS_iface accMS_cons frzS_int frzS_bool frzS_str frzS_slt frzS_nils frzS_nilI beq_dec bne_dec

theorem trim_backs {st l : List Ob} {e : Env} (he : e.all (fun p => blw blwD st.length p.2) = true) (hB : st.all (Ob.blw st.length) = true) : trimO st.length ⟨e, st ++ l⟩ = ⟨e, st⟩ := by
  unfold trimO trim
  simp only [List.take_left, he, hB, Bool.and_self, if_true, Option.getD_some]
def wayU (w : Way) : List U := i64 w.1 :: tabU w.2
def outsU (o : Option (List Way)) : U := .sl true ((o.getD []).map wayU)
def nodeU (x : Node) : List U := [i64 x.1, outsU x.2]
/-- The numbers of places, as a map has them. -/
def mapE : Nat → List Nat → List (U × U)
  | _, [] => []
  | k, p :: ps => (i64 p, i64 k) :: mapE (k + 1) ps
theorem mapE_app : ∀ (k : Nat) (ps : List Nat) (p : Nat), mapE k (ps ++ [p]) = mapE k ps ++ [(i64 p, i64 ((k + ps.length : Nat) : Int))]
  | k, [], p => rfl
  | k, q :: ps, p => by
    rw [List.cons_append, mapE, mapE, mapE_app (k + 1) ps p, List.cons_append, List.length_cons, show k + 1 + ps.length = k + (ps.length + 1) by omega]
theorem same_i64 (x y : Int) : sameV .ti (i64 x) (i64 y) = some (decide (x = y)) := by
  simp [sameV, cellsS, same, sameD]
theorem map_look : ∀ (k : Nat) (ps : List Nat) (p : Nat), look .ti (i64 p) (mapE k ps) = some (if p ∈ ps then some (i64 ((k + ps.idxOf p : Nat) : Int)) else none)
  | k, [], p => rfl
  | k, q :: ps, p => by
    rw [mapE, look, same_i64]
    by_cases h : p = q
    · subst h
      simp
    · have h' : ¬ ((p : Int) = q) := by omega
      have h2 : ¬ q = p := fun e => h e.symm
      rw [decide_eq_false h', Option.bind_some, if_neg (by simp), map_look (k + 1) ps p]
      simp only [List.mem_cons, h, false_or]
      rw [List.idxOf_cons, show (q == p) = false by simpa using h2]
      simp only [cond_false]
      rw [show k + 1 + ps.idxOf p = k + (ps.idxOf p + 1) by omega]
theorem map_set : ∀ (k : Nat) (ps : List Nat) (p : Nat) (v : U), p ∉ ps → mset .ti (i64 p) v (mapE k ps) = some (mapE k ps ++ [(i64 p, v)])
  | k, [], p, v, _ => rfl
  | k, q :: ps, p, v, h => by
    simp only [List.mem_cons, not_or] at h
    have h' : ¬ ((p : Int) = q) := by omega
    rw [mapE, mset, same_i64, decide_eq_false h', Option.bind_some, if_neg (by simp), map_set (k + 1) ps p v h.2]
    rfl
abbrev nil26 : List U := [.int .i64 0, .nilI, .nilI, .nilI, .nilI, .nilI, .nilI, .nilI, .nilI, .nilI, .nilI, .nilI, .nilI, .nilI, .nilI, .nilI, .nilI, .nilI, .nilI, .nilI, .nilI, .nilI, .nilI, .nilI, .nilI, .nils]
/-- What Build has: the function, its result, the nodes, the skeleton, the places' numbers. -/
def bSt (p : Bool) (l : List Ins) (ns : List Node) (ent : List U) : List Ob := [.box [insL p l], .box nil26, .row 72 2 false (ns.map nodeU), .box (ent ++ [.own 2 ns.length]), .map (mapE 0 (ns.map (·.1))), .box [.mp 4]]
theorem bSt_blw (p : Bool) (l : List Ins) (ns : List Node) (w : Way) (L : Nat) (hL : 5 < L) : (bSt p l ns (wayU w)).all (Ob.blw L) = true := by
  have h3 : Ob.blw L (.box (wayU w ++ [U.own 2 ns.length])) = true := by
    show (wayU w ++ [U.own 2 ns.length]).all (blw blwD L) = true
    rw [List.all_eq_true]
    intro u hu
    simp only [wayU, List.mem_append, List.mem_cons, List.not_mem_nil, or_false] at hu
    rcases hu with (rfl | hu) | rfl
    · rfl
    · exact tab_blw L w.2 u hu
    · show decide (2 < L) = true
      exact decide_eq_true (by omega)
  have h4 : Ob.blw L (.box [.mp 4]) = true := by
    show (decide (4 < L) && true) = true
    rw [decide_eq_true (by omega)]
    rfl
  simp only [bSt, List.all_cons, h3, h4, List.all_nil]
  rfl
theorem wayU_len {w : Way} (h : w.2.length = 24) : (wayU w).length = 25 := by simp [wayU, tabU_len, h]
theorem pOuts_t (l : List Ins) (ps : List Nat) (a : Nat) : (outP l ps a).2 = (wq l a).2.1 := by
  unfold outP
  split <;> rfl
theorem acc_way (st : List Ob) (w : Way) : accM (frz 11) st (wayU w) = some (wayU w, st) := acc_app (xs := [i64 w.1]) (show accM (frz 11) st [i64 w.1] = some ([i64 w.1], st) from rfl) (acc_tab st w.2)
theorem res_way {st : List Ob} {k : Nat} {w : Way} (hw : w.2.length = 24) (h : st[k]? = some (.box (wayU w))) : resU ⟨[(5, .bp k 0)], st⟩ c_skel_Build_1.res = some (.agg (wayU w)) := by
  have hl := wayU_len hw
  have ht : (wayU w).take 25 = wayU w := by rw [List.take_of_length_le]; omega
  simp [resU, res1, c_skel_Build_1, h, hl, ht, acc_way]
theorem drop25 {w : Way} (hw : w.2.length = 24) (x : U) : (wayU w ++ [x]).drop 25 = [x] := by
  rw [List.drop_append, wayU_len hw, List.drop_eq_nil_of_le (by rw [wayU_len hw]; omega)]
  rfl
theorem splice25 {w : Way} (hw : w.2.length = 24) (x y : U) : splice (wayU w ++ [x]) 25 [y] = wayU w ++ [y] := by
  rw [splice_set _ _ _ (by rw [List.length_append, wayU_len hw]; exact Nat.lt_succ_self _), List.set_append_right _ _ (by rw [wayU_len hw]; omega), wayU_len hw]
  rfl
theorem way_env (w : Way) (L : Nat) : [((0 : Nat), U.agg (wayU w))].all (fun p => blw blwD L p.2) = true := by
  show (((wayU w).all (blw 11 L)) && true) = true
  rw [Bool.and_true, List.all_eq_true]
  intro u hu
  rcases List.mem_cons.1 hu with rfl | hu
  · rfl
  · obtain ⟨s, _, rfl⟩ := List.mem_map.1 hu
    cases s <;> rfl
/-- What may stand behind Build's own: nothing, or the ways so far. -/
def Behind (rest : List Ob) : Prop := rest = [] ∨ ∃ os : List Way, rest = [.row 48 25 false (os.map wayU)]
theorem behind_blw {p : Bool} {l : List Ins} {ns : List Node} {w : Way} {rest : List Ob} (h : Behind rest) : (bSt p l ns (wayU w) ++ rest).all (Ob.blw (bSt p l ns (wayU w) ++ rest).length) = true := by
  rw [List.all_append, bSt_blw p l ns w _ (by rw [List.length_append]; show 5 < 6 + _; omega)]
  rcases h with rfl | ⟨os, rfl⟩ <;> rfl
set_option maxHeartbeats 8000000 in
theorem way_neg (p : Bool) (l : List Ins) (a : Nat) (to : Int) (t : List Src) (sn : Int) (ht : t.length = 24) (hfr : ∀ st, Cl T 14 [insL p l, i64 a] st (.tup [.agg (pU to t sn), i64 0]) st) (h0 : to < 0) (ns : List Node) (w : Way) (rest : List Ob) (hrest : Behind rest) :
    Cl T 45 [i64 a, .bp 0 0, .bp 5 0, .bp 3 0] (bSt p l ns (wayU w) ++ rest) (.agg (wayU (-1, t))) (bSt p l ns (wayU w) ++ rest) := by
  refine Wp.impure (fn := c_skel_Build_1) rfl rfl rfl ?_
  have h24 := tab24 ht
  have hb := behind_blw (p := p) (l := l) (ns := ns) (w := w) hrest
  have d0 : decide (to < 0) = true := decide_eq_true h0
  rcases hrest with rfl | ⟨os, rfl⟩
  · simp only [bSt, List.append_nil]
    repeat' (first | apply Wp.seq | apply Wp.skip | apply Wp.block | (apply Wp.op0; ((simp [M2.keep]) <;> rfl)) | ((first | (apply Wp.pickT; (exact rfl); (first | exact rfl | assumption)) | (apply Wp.pickF; (exact rfl); (first | exact rfl | assumption))); ((simp) <;> exact rfl)) | ((first | apply Wp.op | apply Wp.opN); (apply Evt.all; intro; (simp [insL, pU_take26, pU_over, pU_len, pU_take1, ht, pU_d1, pU_tail, tabU_len, over_full, h24]) <;> (try simp (disch := omega) only [wrap_id]) <;> first | exact ⟨rfl, rfl⟩ | exact rfl)) | (apply Wp.call; exact hfr _) | (first | (apply Wp.ung; (exact rfl); (first | exact rfl | assumption)) | (apply Wp.opSt; (exact rfl); (first | exact rfl | assumption)) | (apply Wp.opSf; (exact rfl); (first | exact rfl | assumption))) | (apply Wp.opS0; (exact rfl)) | (first | (apply Wp.condT; (exact rfl); (first | exact rfl | assumption)) | (apply Wp.condF; (exact rfl); (first | exact rfl | assumption))) | ((first | apply Wp.grdT | apply Wp.grdF | apply Wp.cond); (exact rfl); (intro); rotate_left 1; (intro); rotate_right 1))
    refine Wp.ret ⟨res_way (w := (-1, t)) ht rfl, ?_⟩
    exact congrArg S.st (trim_backs (st := bSt p l ns (wayU w) ++ []) (l := [_, _]) (way_env _ _) hb)
  · simp only [bSt, List.cons_append, List.nil_append]
    repeat' (first | apply Wp.seq | apply Wp.skip | apply Wp.block | (apply Wp.op0; ((simp [M2.keep]) <;> rfl)) | ((first | (apply Wp.pickT; (exact rfl); (first | exact rfl | assumption)) | (apply Wp.pickF; (exact rfl); (first | exact rfl | assumption))); ((simp) <;> exact rfl)) | ((first | apply Wp.op | apply Wp.opN); (apply Evt.all; intro; (simp [insL, pU_take26, pU_over, pU_len, pU_take1, ht, pU_d1, pU_tail, tabU_len, over_full, h24]) <;> (try simp (disch := omega) only [wrap_id]) <;> first | exact ⟨rfl, rfl⟩ | exact rfl)) | (apply Wp.call; exact hfr _) | (first | (apply Wp.ung; (exact rfl); (first | exact rfl | assumption)) | (apply Wp.opSt; (exact rfl); (first | exact rfl | assumption)) | (apply Wp.opSf; (exact rfl); (first | exact rfl | assumption))) | (apply Wp.opS0; (exact rfl)) | (first | (apply Wp.condT; (exact rfl); (first | exact rfl | assumption)) | (apply Wp.condF; (exact rfl); (first | exact rfl | assumption))) | ((first | apply Wp.grdT | apply Wp.grdF | apply Wp.cond); (exact rfl); (intro); rotate_left 1; (intro); rotate_right 1))
    refine Wp.ret ⟨res_way (w := (-1, t)) ht rfl, ?_⟩
    exact congrArg S.st (trim_backs (st := bSt p l ns (wayU w) ++ [.row 48 25 false (os.map wayU)]) (l := [_, _]) (way_env _ _) hb)
set_option maxHeartbeats 8000000 in
theorem way_old (p : Bool) (l : List Ins) (a : Nat) (N : Nat) (t : List Src) (sn : Int) (ht : t.length = 24) (hfr : ∀ st, Cl T 14 [insL p l, i64 a] st (.tup [.agg (pU N t sn), i64 0]) st) (ns : List Node) (hm : N ∈ ns.map (·.1)) (w : Way) (rest : List Ob) (hrest : Behind rest) :
    Cl T 45 [i64 a, .bp 0 0, .bp 5 0, .bp 3 0] (bSt p l ns (wayU w) ++ rest) (.agg (wayU ((((ns.map (·.1)).idxOf N : Nat) : Int), t))) (bSt p l ns (wayU w) ++ rest) := by
  refine Wp.impure (fn := c_skel_Build_1) rfl rfl rfl ?_
  have h24 := tab24 ht
  have hb := behind_blw (p := p) (l := l) (ns := ns) (w := w) hrest
  have d0 : decide ((N : Int) < 0) = false := decide_eq_false (by omega)
  have hlk := map_look 0 (ns.map (·.1)) N
  rw [if_pos hm, Nat.zero_add] at hlk
  have hsm : sameV .ti (i64 (N : Int)) (i64 N) = some true := by rw [same_i64]; simp
  generalize (ns.map (·.1)).idxOf N = k at *
  generalize hmp : mapE 0 (ns.map (·.1)) = mp at *
  rcases hrest with rfl | ⟨os, rfl⟩
  · simp only [bSt, List.append_nil, hmp]
    repeat' (first | apply Wp.seq | apply Wp.skip | apply Wp.block | (apply Wp.op0; ((simp [M2.keep]) <;> rfl)) | ((first | (apply Wp.pickT; (exact rfl); (first | exact rfl | assumption)) | (apply Wp.pickF; (exact rfl); (first | exact rfl | assumption))); ((simp) <;> exact rfl)) | ((first | apply Wp.op | apply Wp.opN); (apply Evt.all; intro; (simp [insL, pU_take26, pU_over, pU_len, pU_take1, ht, pU_d1, pU_tail, tabU_len, over_full, h24, hlk, hsm]) <;> (try simp (disch := omega) only [wrap_id]) <;> first | exact ⟨rfl, rfl⟩ | exact rfl)) | (apply Wp.call; exact hfr _) | (first | (apply Wp.ung; (exact rfl); (first | exact rfl | assumption)) | (apply Wp.opSt; (exact rfl); (first | exact rfl | assumption)) | (apply Wp.opSf; (exact rfl); (first | exact rfl | assumption))) | (apply Wp.opS0; (exact rfl)) | (first | (apply Wp.condT; (exact rfl); (first | exact rfl | assumption)) | (apply Wp.condF; (exact rfl); (first | exact rfl | assumption))) | ((first | apply Wp.grdT | apply Wp.grdF | apply Wp.cond); (exact rfl); (intro); rotate_left 1; (intro); rotate_right 1))
    subst hmp
    refine Wp.ret ⟨res_way (w := ((k : Int), t)) ht rfl, ?_⟩
    exact congrArg S.st (trim_backs (st := bSt p l ns (wayU w) ++ []) (l := [_, _]) (way_env _ _) hb)
  · simp only [bSt, List.cons_append, List.nil_append, hmp]
    repeat' (first | apply Wp.seq | apply Wp.skip | apply Wp.block | (apply Wp.op0; ((simp [M2.keep]) <;> rfl)) | ((first | (apply Wp.pickT; (exact rfl); (first | exact rfl | assumption)) | (apply Wp.pickF; (exact rfl); (first | exact rfl | assumption))); ((simp) <;> exact rfl)) | ((first | apply Wp.op | apply Wp.opN); (apply Evt.all; intro; (simp [insL, pU_take26, pU_over, pU_len, pU_take1, ht, pU_d1, pU_tail, tabU_len, over_full, h24, hlk, hsm]) <;> (try simp (disch := omega) only [wrap_id]) <;> first | exact ⟨rfl, rfl⟩ | exact rfl)) | (apply Wp.call; exact hfr _) | (first | (apply Wp.ung; (exact rfl); (first | exact rfl | assumption)) | (apply Wp.opSt; (exact rfl); (first | exact rfl | assumption)) | (apply Wp.opSf; (exact rfl); (first | exact rfl | assumption))) | (apply Wp.opS0; (exact rfl)) | (first | (apply Wp.condT; (exact rfl); (first | exact rfl | assumption)) | (apply Wp.condF; (exact rfl); (first | exact rfl | assumption))) | ((first | apply Wp.grdT | apply Wp.grdF | apply Wp.cond); (exact rfl); (intro); rotate_left 1; (intro); rotate_right 1))
    subst hmp
    refine Wp.ret ⟨res_way (w := ((k : Int), t)) ht rfl, ?_⟩
    exact congrArg S.st (trim_backs (st := bSt p l ns (wayU w) ++ [.row 48 25 false (os.map wayU)]) (l := [_, _]) (way_env _ _) hb)
set_option maxHeartbeats 8000000 in
theorem way_new (p : Bool) (l : List Ins) (a : Nat) (N : Nat) (t : List Src) (sn : Int) (ht : t.length = 24) (hfr : ∀ st, Cl T 14 [insL p l, i64 a] st (.tup [.agg (pU N t sn), i64 0]) st) (ns : List Node) (hns : ns.length ≤ 200) (hm : N ∉ ns.map (·.1)) (w : Way) (hw : w.2.length = 24) (rest : List Ob) (hrest : Behind rest) :
    Cl T 45 [i64 a, .bp 0 0, .bp 5 0, .bp 3 0] (bSt p l ns (wayU w) ++ rest) (.agg (wayU (((ns.length : Nat) : Int), t))) (bSt p l (ns ++ [(N, none)]) (wayU w) ++ rest) := by
  refine Wp.impure (fn := c_skel_Build_1) rfl rfl rfl ?_
  have h24 := tab24 ht
  have hb := behind_blw (p := p) (l := l) (ns := ns ++ [(N, none)]) (w := w) hrest
  have d0 : decide ((N : Int) < 0) = false := decide_eq_false (by omega)
  have hlk := map_look 0 (ns.map (·.1)) N
  rw [if_neg hm] at hlk
  have hst := map_set 0 (ns.map (·.1)) N (i64 (ns.length : Int)) hm
  have hap := mapE_app 0 (ns.map (·.1)) N
  rw [Nat.zero_add, List.length_map] at hap
  have hsm : sameV .ti (i64 (N : Int)) (i64 N) = some true := by rw [same_i64]; simp
  have wl := wayU_len hw
  have d25 := drop25 hw
  have s25 := splice25 hw
  have lim : (ns.length + 1) * 32 ≤ 140737488355328 := by omega
  have hnd : (ns ++ [(N, none)]).map nodeU = ns.map nodeU ++ [[i64 N, .sl true []]] := by simp [nodeU, outsU]
  have hmm : (ns ++ [((N : Nat), (none : Option (List Way)))]).map (·.1) = ns.map (·.1) ++ [N] := by simp
  have hln : (((ns ++ [((N : Nat), (none : Option (List Way)))]).length : Nat) : Int) = (ns.length : Int) + 1 := by simp
  have target : bSt p l (ns ++ [(N, none)]) (wayU w) = [.box [insL p l], .box nil26, .row 72 2 false (ns.map nodeU ++ [[i64 N, .sl true []]]), .box (wayU w ++ [.own 2 (ns.length + 1)]), .map (mapE 0 (ns.map (·.1)) ++ [(i64 N, i64 (ns.length : Int))]), .box [.mp 4]] := by
    simp only [bSt, hnd, hmm, hap, List.length_append, List.length_cons, List.length_nil]
  rw [target] at hb ⊢
  generalize hmp : mapE 0 (ns.map (·.1)) = mp at *
  rcases hrest with rfl | ⟨os, rfl⟩
  · simp only [bSt, List.append_nil, hmp]
    repeat' (first | apply Wp.seq | apply Wp.skip | apply Wp.block | (apply Wp.op0; ((simp [M2.keep]) <;> rfl)) | ((first | (apply Wp.pickT; (exact rfl); (first | exact rfl | assumption)) | (apply Wp.pickF; (exact rfl); (first | exact rfl | assumption))); ((simp) <;> exact rfl)) | ((first | apply Wp.op | apply Wp.opN); (apply Evt.all; intro; (simp [insL, pU_take26, pU_over, pU_len, pU_take1, ht, pU_d1, pU_tail, tabU_len, over_full, h24, hlk, hsm, hst, wl, d25, s25, lim, closed]) <;> (try simp (disch := omega) only [wrap_id]) <;> first | exact ⟨rfl, rfl⟩ | exact rfl)) | (apply Wp.call; exact hfr _) | (first | (apply Wp.ung; (exact rfl); (first | exact rfl | assumption)) | (apply Wp.opSt; (exact rfl); (first | exact rfl | assumption)) | (apply Wp.opSf; (exact rfl); (first | exact rfl | assumption))) | (apply Wp.opS0; (exact rfl)) | (first | (apply Wp.condT; (exact rfl); (first | exact rfl | assumption)) | (apply Wp.condF; (exact rfl); (first | exact rfl | assumption))) | ((first | apply Wp.grdT | apply Wp.grdF | apply Wp.cond); (exact rfl); (intro); rotate_left 1; (intro); rotate_right 1))
    refine Wp.ret ⟨res_way (w := ((ns.length : Int), t)) ht rfl, ?_⟩
    exact congrArg S.st (trim_backs (st := [.box [insL p l], .box nil26, .row 72 2 false (ns.map nodeU ++ [[i64 N, .sl true []]]), .box (wayU w ++ [.own 2 (ns.length + 1)]), .map (mp ++ [(i64 N, i64 (ns.length : Int))]), .box [.mp 4]] ++ []) (l := [_, _, _]) (way_env _ _) hb)
  · simp only [bSt, List.cons_append, List.nil_append, hmp]
    repeat' (first | apply Wp.seq | apply Wp.skip | apply Wp.block | (apply Wp.op0; ((simp [M2.keep]) <;> rfl)) | ((first | (apply Wp.pickT; (exact rfl); (first | exact rfl | assumption)) | (apply Wp.pickF; (exact rfl); (first | exact rfl | assumption))); ((simp) <;> exact rfl)) | ((first | apply Wp.op | apply Wp.opN); (apply Evt.all; intro; (simp [insL, pU_take26, pU_over, pU_len, pU_take1, ht, pU_d1, pU_tail, tabU_len, over_full, h24, hlk, hsm, hst, wl, d25, s25, lim, closed]) <;> (try simp (disch := omega) only [wrap_id]) <;> first | exact ⟨rfl, rfl⟩ | exact rfl)) | (apply Wp.call; exact hfr _) | (first | (apply Wp.ung; (exact rfl); (first | exact rfl | assumption)) | (apply Wp.opSt; (exact rfl); (first | exact rfl | assumption)) | (apply Wp.opSf; (exact rfl); (first | exact rfl | assumption))) | (apply Wp.opS0; (exact rfl)) | (first | (apply Wp.condT; (exact rfl); (first | exact rfl | assumption)) | (apply Wp.condF; (exact rfl); (first | exact rfl | assumption))) | ((first | apply Wp.grdT | apply Wp.grdF | apply Wp.cond); (exact rfl); (intro); rotate_left 1; (intro); rotate_right 1))
    refine Wp.ret ⟨res_way (w := ((ns.length : Int), t)) ht rfl, ?_⟩
    exact congrArg S.st (trim_backs (st := [.box [insL p l], .box nil26, .row 72 2 false (ns.map nodeU ++ [[i64 N, .sl true []]]), .box (wayU w ++ [.own 2 (ns.length + 1)]), .map (mp ++ [(i64 N, i64 (ns.length : Int))]), .box [.mp 4]] ++ [.row 48 25 false (os.map wayU)]) (l := [_, _, _]) (way_env _ _) hb)
/-- A way of Build's. -/
theorem way_call (p : Bool) (l : List Ins) (hr : rightF l = true) (a : Nat) (ha : a < l.length) (ns : List Node) (hns : ns.length ≤ 200) (w : Way) (hw : w.2.length = 24) (rest : List Ob) (hrest : Behind rest) :
    Cl T 45 [i64 a, .bp 0 0, .bp 5 0, .bp 3 0] (bSt p l ns (wayU w) ++ rest) (.agg (wayU (outP l ((pAdd l ns a).map (·.1)) a))) (bSt p l (pAdd l ns a) (wayU w) ++ rest) := by
  obtain ⟨t, ht, e⟩ := fair_pr hr ha
  have hfr := from_call p l a
  have hwq : wq l a = (fromF l a).1 := rfl
  rw [e] at hfr hwq
  unfold outP pAdd
  rw [hwq]
  have hnn := (wq_ok hr ha)
  rw [hwq] at hnn
  generalize (prI (pr l (l.length + 1) a)).1 = to at *
  generalize (prI (pr l (l.length + 1) a)).2 = sn at *
  simp only at hnn ⊢
  by_cases h0 : to < 0
  · simp only [h0, true_or, if_true]
    exact way_neg p l a to t sn ht hfr h0 ns w rest hrest
  · obtain ⟨N, rfl⟩ := Int.eq_ofNat_of_zero_le (Int.not_lt.1 h0)
    simp only [h0, false_or, if_false, Int.toNat_natCast]
    by_cases hm : N ∈ ns.map (·.1)
    · rw [if_pos hm]
      exact way_old p l a N t sn ht hfr ns hm w rest hrest
    · rw [if_neg hm]
      have := way_new p l a N t sn ht hfr ns hns hm w hw rest hrest
      have hi : ((ns ++ [((N : Nat), (none : Option (List Way)))]).map (·.1)).idxOf N = ns.length := by
        rw [List.map_append, List.idxOf_append, if_neg hm]
        simp
      rw [hi]
      exact this
end Go.Proofs.YtapibckmdpdljaaDoor.M2

/- What the functions answer in M2. Part 22: the program's skeleton. -/
namespace Go.Proofs.YtapibckmdpdljaaDoor.M2
open Go
attribute [local simp] ev1 M2.get put A.ev ld sub part elems bin arith un opt idx fillC cellsO splice over newOb sto fillR laidOwn appTo appRow touch touchN touchM touchE touchA plainU flatU plainAs allM rowAt stoRow accM_nil accM_cons accMM_nil accMM_cons frz_int frz_bool frz_str frz_slt frz_nils frz_nilI frz_nilF frz_own frzRow_row frzRow_frow Ob.blw blw_bool blw_int blw_str blw_nils blw_nilI blw_nilF blw_nilp blw_nilm blw_sl blw_own blw_bp blw_rp blw_mp blw_it params
attribute [local simp] frz_agg frz_tup frz_iface frzS_agg frzS_iface accMS_cons frzS_int frzS_bool frzS_str frzS_slt frzS_nils frzS_nilI beq_dec bne_dec

/-- Nodes that may be. -/
structure NOK (l : List Ins) (ns : List Node) : Prop where
  nodup : (ns.map (·.1)).Nodup
  lt : ∀ p ∈ ns.map (·.1), p < l.length ∧ movesF (l.getD p default) = false
theorem NOK.few {l : List Ins} {ns : List Node} (h : NOK l ns) : ns.length ≤ l.length := by
  have := List.Nodup.length_le_of_subset h.nodup (l₂ := List.range l.length) (fun p hp => by rw [List.mem_range]; exact (h.lt p hp).1)
  simpa using this
theorem NOK.add {l : List Ins} (hr : rightF l = true) {ns : List Node} (h : NOK l ns) {a : Nat} (ha : a < l.length) : NOK l (pAdd l ns a) := by
  have h1 := (pAdd_places l ns a).1
  obtain ⟨h2, h3⟩ := addP_ok hr ha h.nodup h.lt
  exact ⟨by rw [h1]; exact h2, by rw [h1]; exact h3⟩
theorem wq_t {l : List Ins} (hr : rightF l = true) {a : Nat} (ha : a < l.length) (ps : List Nat) : (outP l ps a).2.length = 24 := by
  obtain ⟨t, ht, e⟩ := fair_pr hr ha
  rw [pOuts_t]
  unfold wq
  rw [e]
  exact ht
theorem acc_tabD (st : List Ob) : ∀ (t : List Src), accM (frz frzD) st (tabU t) = some (tabU t, st)
  | [] => rfl
  | s :: t => by
    have ih := acc_tabD st t
    simp only [tabU, List.map_cons] at ih ⊢
    have h1 : frz frzD st (srcU s) = some (srcU s, st) := frz_src st 9 s
    simp only [accMS_cons, h1, ih, Option.bind_some]
theorem acc_wayD (st : List Ob) (w : Way) : accM (frz frzD) st (wayU w) = some (wayU w, st) := acc_app (xs := [i64 w.1]) (show accM (frz frzD) st [i64 w.1] = some ([i64 w.1], st) from rfl) (acc_tabD st w.2)
abbrev capsB : U := .fn 45 [.bp 0 0, .bp 5 0, .bp 3 0]
def b0S' (p : Bool) (l : List Ins) (cutU : U) (w : Way) (n : Nat) (fs : List Nat) (x : Nat × List Node × List Way) : S :=
  ⟨[(1, cutU), (2, .bp 0 0), (4, .bp 1 0), (6, .bp 3 0), (8, capsB), (9, i64 n), (11, .own 6 x.2.2.length), (51, natU true fs), (52, i64 (fs.length : Nat)), (53, i64 x.1)], bSt p l x.2.1 (wayU w) ++ [.row 48 25 false (x.2.2.map wayU)]⟩
set_option maxHeartbeats 4000000 in
theorem bl0_loop (p : Bool) (l : List Ins) (hr : rightF l = true) (q : Bool) (cut : List Bool) (w : Way) (hw : w.2.length = 24) (n : Nat) (fs : List Nat) (hf : ∀ a ∈ fs, a < l.length) (hfl : fs.length ≤ 2) (ns : List Node) (hns : NOK l ns) :
    Wp T (.loop c_skel_Build_L0) (b0S' p l (boolU q cut) w n fs (0, ns, [])) (fun _ => False) (fun _ => False)
      (fun b s' => b = 2 ∧ s' = ⟨[(1, boolU q cut), (2, .bp 0 0), (4, .bp 1 0), (6, .bp 3 0), (8, capsB), (9, i64 n), (11, .own 6 (pOuts l fs ns []).2.length), (51, natU true fs), (52, i64 (fs.length : Nat)), (53, i64 (fs.length : Nat)), (54, .bool false)], bSt p l (pOuts l fs ns []).1 (wayU w) ++ [.row 48 25 false ((pOuts l fs ns []).2.map wayU)]⟩ ∧ NOK l (pOuts l fs ns []).1) := by
  have h200 := (right_facts hr).1
  refine Wp.loop (fun x : Nat × List Node × List Way => fs.length - x.1) (b0S' p l (boolU q cut) w n fs) (fun x => x.1 ≤ fs.length ∧ x.2.2.length = x.1 ∧ NOK l x.2.1 ∧ pOuts l (fs.drop x.1) x.2.1 x.2.2 = pOuts l fs ns []) (fun x ⟨hx, hos, hok, he⟩ => ?_) (0, ns, []) ⟨by simp, rfl, hns, rfl⟩
  obtain ⟨i, ns1, os⟩ := x
  simp only at hx hos hok he
  simp only [b0S']
  by_cases hi : i < fs.length
  · have hi' : (i : Int) < fs.length := by omega
    have hfi : fs[i] < l.length := hf _ (List.getElem_mem hi)
    rw [List.drop_eq_getElem_cons hi, pOuts] at he
    have hwc := way_call p l hr fs[i] hfi ns1 (by have := hok.few; omega) w hw [.row 48 25 false (os.map wayU)] (.inr ⟨os, rfl⟩)
    have hok' := hok.add hr hfi
    have hot := wq_t hr hfi ((pAdd l ns1 fs[i]).map (·.1))
    generalize outP l ((pAdd l ns1 fs[i]).map (·.1)) fs[i] = o at *
    generalize pAdd l ns1 fs[i] = ns2 at *
    have ol := wayU_len hot
    have lim : (i + 1) * 392 ≤ 140737488355328 := by omega
    have eg : fs[i]? = some fs[i] := List.getElem?_eq_getElem hi
    generalize hfx : fs[i] = fi at *
    repeat (first | apply Wp.seq | apply Wp.skip | apply Wp.block | (apply Wp.op0; ((simp [M2.keep]) <;> rfl)) | ((first | apply Wp.op | apply Wp.opN | (apply Wp.opG; exact rfl)); (apply Evt.all; intro; (simp [hi']) <;> (try simp (disch := omega) only [wrap_id]) <;> first | exact ⟨rfl, rfl⟩ | exact rfl)) | (apply Wp.opS; exact rfl; decide) | (apply Wp.opS0; exact rfl))
    refine Wp.cond (by first | rfl | (simp; rfl)) (fun h1 => ?_) (fun h1 => ?_)
    · repeat (first | apply Wp.seq | apply Wp.skip | apply Wp.block | (apply Wp.op0; ((simp [M2.keep]) <;> rfl)) | ((first | apply Wp.op | apply Wp.opN | (apply Wp.opG; exact rfl)); (apply Evt.all; intro; (simp [natU, hi', eg]) <;> (try simp (disch := omega) only [wrap_id]) <;> first | exact ⟨rfl, rfl⟩ | exact rfl)) | (apply Wp.opS; exact rfl; decide) | (apply Wp.opS0; exact rfl))
      apply Wp.callv
      · exact rfl
      · exact hwc
      simp only [bSt, List.cons_append, List.nil_append]
      repeat (first | apply Wp.seq | apply Wp.skip | apply Wp.block | (apply Wp.op0; ((simp [M2.keep]) <;> rfl)) | ((first | apply Wp.op | apply Wp.opN | (apply Wp.opG; exact rfl)); (apply Evt.all; intro; (simp [ol, acc_wayD, lim, hos, wrap_id]) <;> (try simp (disch := omega) only [wrap_id]) <;> first | exact ⟨rfl, rfl⟩ | exact rfl)) | (apply Wp.opS; exact rfl; decide) | (apply Wp.opS0; exact rfl))
      refine ⟨(i + 1, ns2, os ++ [o]), ?_, by simp only; omega, by simp only; omega, by simp [hos], hok', he⟩
      have e1 : (os ++ [o]).map wayU = os.map wayU ++ [wayU o] := by simp
      have e2 : (os ++ [o]).length = i + 1 := by simp [hos]
      simp only [e2]
      have hb := behind_blw (p := p) (l := l) (ns := ns2) (w := w) (rest := [.row 48 25 false ((os ++ [o]).map wayU)]) (.inr ⟨_, rfl⟩)
      have := trim_backs (st := bSt p l ns2 (wayU w) ++ [.row 48 25 false ((os ++ [o]).map wayU)]) (l := [.row 48 25 false [wayU o]]) (e := [(1, boolU q cut), (2, .bp 0 0), (4, .bp 1 0), (6, .bp 3 0), (8, capsB), (9, i64 n), (11, .own 6 (i + 1)), (51, natU true fs), (52, i64 (fs.length : Nat)), (53, i64 ((i : Int) + 1))]) rfl hb
      rw [e1] at this ⊢
      exact this
    · cases h1
  · have hi2 : fs.length = i := by omega
    rw [List.drop_of_length_le (by omega), pOuts] at he
    have hne : ¬ (i : Int) < fs.length := by omega
    repeat (first | apply Wp.seq | apply Wp.skip | apply Wp.block | (apply Wp.op0; ((simp [M2.keep]) <;> rfl)) | ((first | apply Wp.op | apply Wp.opN | (apply Wp.opG; exact rfl)); (apply Evt.all; intro; (simp [hne]) <;> (try simp (disch := omega) only [wrap_id]) <;> first | exact ⟨rfl, rfl⟩ | exact rfl)) | (apply Wp.opS; exact rfl; decide) | (apply Wp.opS0; exact rfl))
    refine Wp.cond (by first | rfl | (simp; rfl)) (fun h1 => ?_) (fun h1 => ?_)
    · simp at h1
    · refine Wp.exit ⟨rfl, ?_, ?_⟩
      · rw [← he, hi2]
      · rw [← he]; exact hok
theorem fs_len (l : List Ins) (i : Nat) : (fsAt l i).length ≤ 2 := by
  unfold fsAt fsN
  split
  · simp
  · split <;> simp
def b1S (p : Bool) (l : List Ins) (cutU : U) (w : Way) (x : Nat × List Node) : S :=
  ⟨[(1, cutU), (2, .bp 0 0), (4, .bp 1 0), (6, .bp 3 0), (8, capsB), (9, i64 x.1)], bSt p l x.2 (wayU w)⟩
theorem NInv.ok {l : List Ins} {cut : List Bool} {n : Nat} {ns : List Node} (h : NInv l cut n ns) : NOK l ns := ⟨h.nodup, h.lt⟩
set_option maxHeartbeats 8000000 in
theorem bl1_step (p : Bool) (l : List Ins) (hr : rightF l = true) (q : Bool) (cut : List Bool) (w : Way) (hw : w.2.length = 24) (n : Nat) (ns : List Node) (h : NInv l cut n ns) (hn : n < ns.length) (R : S → Prop) (B : Nat → S → Prop) :
    Wp T c_skel_Build_L1 (b1S p l (boolU q cut) w (n, ns)) (fun s' => trimO 6 s' = b1S p l (boolU q cut) w (n + 1, pStep l cut n ns)) R B := by
  have h200 := (right_facts hr).1
  have hfew := h.few
  have hn' : (n : Int) < ns.length := by omega
  have wl := wayU_len hw
  have d25 := drop25 hw
  obtain ⟨hg, o, hg2⟩ := atN_get hn
  have hold := h.new n _ (Nat.le_refl _) hg2
  simp only at hold
  subst hold
  unfold pStep
  generalize atN ns n = at_ at *
  have hat := h.lt at_ (List.mem_of_getElem? hg)
  obtain ⟨hfs, hto⟩ := fsAt_ok hr hat.1 hat.2
  have hx : l.getD at_ default = l[at_] := by simp [hat.1]
  have hnx := nexts_call l[at_] at_ (by omega) (by rw [← hx]; exact hto)
  rw [show fsN l[at_] at_ = fsAt l at_ from by unfold fsAt; rw [hx]] at hnx
  simp only [b1S, bSt]
  repeat (first | apply Wp.seq | apply Wp.skip | apply Wp.block | (apply Wp.op0; ((simp [M2.keep]) <;> rfl)) | ((first | apply Wp.op | apply Wp.opN | (apply Wp.opG; exact rfl)); (apply Evt.all; intro; (simp [d25, wl, hn']) <;> (try simp (disch := omega) only [wrap_id]) <;> first | exact ⟨rfl, rfl⟩ | exact rfl)) | (apply Wp.opS; exact rfl; decide) | (apply Wp.opS0; exact rfl))
  refine Wp.cond (by first | rfl | (simp; rfl)) (fun h1 => ?_) (fun h1 => ?_)
  · repeat (first | apply Wp.seq | apply Wp.skip | apply Wp.block | (apply Wp.op0; ((simp [M2.keep]) <;> rfl)) | ((first | apply Wp.op | apply Wp.opN | (apply Wp.opG; exact rfl)); (apply Evt.all; intro; (simp [d25, wl, hn', hg2, nodeU]) <;> (try simp (disch := omega) only [wrap_id]) <;> first | exact ⟨rfl, rfl⟩ | exact rfl)) | (apply Wp.opS; exact rfl; decide) | (apply Wp.opS0; exact rfl))
    by_cases hc : at_ < cut.length
    · have hcl : (at_ : Int) < cut.length := by omega
      have dc : decide (at_ < cut.length) = true := decide_eq_true hc
      have hcg : cutF cut at_ = cut[at_] := by simp [cutF, hc]
      cases hb : cut[at_] with
      | true =>
        rw [hb] at hcg
        have eb : cut[at_]? = some true := by rw [List.getElem?_eq_getElem hc, hb]
        rw [if_pos hcg]
        repeat' (first | apply Wp.seq | apply Wp.skip | apply Wp.block | (apply Wp.op0; ((simp [M2.keep]) <;> rfl)) | ((first | (apply Wp.pickT; (exact rfl); (first | exact rfl | assumption)) | (apply Wp.pickF; (exact rfl); (first | exact rfl | assumption))); ((simp) <;> exact rfl)) | ((first | apply Wp.op | apply Wp.opN); (apply Evt.all; intro; (simp [boolU, hcl, eb]) <;> (try simp (disch := omega) only [wrap_id]) <;> first | exact ⟨rfl, rfl⟩ | exact rfl)) | (first | (apply Wp.ung; (exact rfl); (first | exact rfl | assumption)) | (apply Wp.opSt; (exact rfl); (first | exact rfl | assumption)) | (apply Wp.opSf; (exact rfl); (first | exact rfl | assumption))) | (apply Wp.opS0; (exact rfl)) | (first | (apply Wp.condT; (exact rfl); (first | exact rfl | assumption)) | (apply Wp.condF; (exact rfl); (first | exact rfl | assumption))) | ((first | apply Wp.grdT | apply Wp.grdF | apply Wp.cond); (exact rfl); (intro); rotate_left 1; (intro); rotate_right 1))
        refine Wp.exit ?_
        rw [if_pos rfl]
        repeat (first | apply Wp.seq | apply Wp.skip | apply Wp.block | (apply Wp.op0; ((simp [M2.keep]) <;> rfl)) | ((first | apply Wp.op | apply Wp.opN | (apply Wp.opG; exact rfl)); (apply Evt.all; intro; (simp [wrap_id]) <;> (try simp (disch := omega) only [wrap_id]) <;> first | exact ⟨rfl, rfl⟩ | exact rfl)) | (apply Wp.opS; exact rfl; decide) | (apply Wp.opS0; exact rfl))
        exact trimO_len rfl
      | false =>
        rw [hb] at hcg
        have eb : cut[at_]? = some false := by rw [List.getElem?_eq_getElem hc, hb]
        repeat' (first | apply Wp.seq | apply Wp.skip | apply Wp.block | (apply Wp.op0; ((simp [M2.keep]) <;> rfl)) | ((first | (apply Wp.pickT; (exact rfl); (first | exact rfl | assumption)) | (apply Wp.pickF; (exact rfl); (first | exact rfl | assumption))); ((simp) <;> exact rfl)) | ((first | apply Wp.op | apply Wp.opN); (apply Evt.all; intro; (simp [boolU, hcl, eb]) <;> (try simp (disch := omega) only [wrap_id]) <;> first | exact ⟨rfl, rfl⟩ | exact rfl)) | (first | (apply Wp.ung; (exact rfl); (first | exact rfl | assumption)) | (apply Wp.opSt; (exact rfl); (first | exact rfl | assumption)) | (apply Wp.opSf; (exact rfl); (first | exact rfl | assumption))) | (apply Wp.opS0; (exact rfl)) | (first | (apply Wp.condT; (exact rfl); (first | exact rfl | assumption)) | (apply Wp.condF; (exact rfl); (first | exact rfl | assumption))) | ((first | apply Wp.grdT | apply Wp.grdF | apply Wp.cond); (exact rfl); (intro); rotate_left 1; (intro); rotate_right 1))
        rw [if_neg (by simp [hcg])]
        repeat (first | apply Wp.seq | apply Wp.skip | apply Wp.block | (apply Wp.op0; ((simp [M2.keep]) <;> rfl)) | ((first | apply Wp.op | apply Wp.opN | (apply Wp.opG; exact rfl)); (apply Evt.all; intro; (simp [insL, hat.1, insU_len, insU_take, over_full]) <;> (try simp (disch := omega) only [wrap_id]) <;> first | exact ⟨rfl, rfl⟩ | exact rfl)) | (apply Wp.opS; exact rfl; decide) | (apply Wp.opS0; exact rfl))
        apply Wp.call
        · exact hnx _
        repeat (first | apply Wp.seq | apply Wp.skip | apply Wp.block | (apply Wp.op0; ((simp [M2.keep]) <;> rfl)) | ((first | apply Wp.op | apply Wp.opN | (apply Wp.opG; exact rfl)); (apply Evt.all; intro; (simp [natU]) <;> (try simp (disch := omega) only [wrap_id]) <;> first | exact ⟨rfl, rfl⟩ | exact rfl)) | (apply Wp.opS; exact rfl; decide) | (apply Wp.opS0; exact rfl))
        refine (show Wp T (.loop c_skel_Build_L0) (b0S' p l (boolU q cut) w n (fsAt l at_) (0, ns, [])) _ _ _ from (bl0_loop p l hr q cut w hw n (fsAt l at_) hfs (fs_len l at_) ns h.ok).imp (fun _ h => h.elim) (fun _ h => h.elim) ?_)
        rintro b s ⟨rfl, rfl, hok⟩
        rw [if_pos rfl]
        have hsp := pOuts_spec l (fsAt l at_) ns []
        generalize (pOuts l (fsAt l at_) ns []).2 = os at *
        generalize (pOuts l (fsAt l at_) ns []).1 = ns' at *
        obtain ⟨_, ⟨qs, hq⟩, _⟩ := hsp
        have hn2 : n < ns'.length := by rw [hq, List.length_append]; omega
        have hn3 : (n : Int) < ns'.length := by omega
        have hg3 : ns'[n]? = some (at_, none) := by rw [hq, List.getElem?_append_left hn]; exact hg2
        have hset : (ns'.set n (at_, some os)).map nodeU = (ns'.map nodeU).set n [i64 at_, .sl true (os.map wayU)] := by rw [List.map_set]; rfl
        have hfst : (ns'.set n (at_, some os)).map (·.1) = ns'.map (·.1) := by
          apply List.ext_getElem?
          intro i
          rw [List.getElem?_map, List.getElem?_map, List.getElem?_set]
          split
          · rename_i hi
            subst hi
            rw [hg3]
            rfl
          · rfl
        have hbs : bSt p l (ns'.set n (at_, some os)) (wayU w) = [.box [insL p l], .box nil26, .row 72 2 false ((ns'.map nodeU).set n [i64 at_, .sl true (os.map wayU)]), .box (wayU w ++ [.own 2 ns'.length]), .map (mapE 0 (ns'.map (·.1))), .box [.mp 4]] := by
          simp only [bSt, hset, hfst, List.length_set]
        have hb := bSt_blw p l (ns'.set n (at_, some os)) w 6 (by omega)
        simp only [bSt, List.cons_append, List.nil_append]
        have hse : splice [i64 (at_ : Int), U.sl true []] 1 [U.sl true (os.map wayU)] = [i64 (at_ : Int), U.sl true (os.map wayU)] := rfl
        repeat (first | apply Wp.seq | apply Wp.skip | apply Wp.block | (apply Wp.op0; ((simp [M2.keep]) <;> rfl)) | ((first | apply Wp.op | apply Wp.opN | (apply Wp.opG; exact rfl)); (apply Evt.all; intro; (simp [d25, wl, hn3, hg3, nodeU, outsU, hse, wrap_id, -List.map_set]) <;> (try simp (disch := omega) only [wrap_id]) <;> first | exact ⟨rfl, rfl⟩ | exact rfl)) | (apply Wp.opS; exact rfl; decide) | (apply Wp.opS0; exact rfl))
        have htr := trim_backs (st := bSt p l (ns'.set n (at_, some os)) (wayU w)) (l := [.frow (os.map wayU)]) (e := [(1, boolU q cut), (2, .bp 0 0), (4, .bp 1 0), (6, .bp 3 0), (8, capsB), (9, i64 ((n : Int) + 1))]) rfl hb
        rw [hbs] at htr
        simp only [hset, hfst, List.length_set]
        exact htr
    · have dc : decide (at_ < cut.length) = false := decide_eq_false hc
      have hcg : cutF cut at_ = false := by simp [cutF, List.getElem?_eq_none (Nat.le_of_not_lt hc)]
      repeat' (first | apply Wp.seq | apply Wp.skip | apply Wp.block | (apply Wp.op0; ((simp [M2.keep]) <;> rfl)) | ((first | (apply Wp.pickT; (exact rfl); (first | exact rfl | assumption)) | (apply Wp.pickF; (exact rfl); (first | exact rfl | assumption))); ((simp) <;> exact rfl)) | ((first | apply Wp.op | apply Wp.opN); (apply Evt.all; intro; (simp [boolU]) <;> (try simp (disch := omega) only [wrap_id]) <;> first | exact ⟨rfl, rfl⟩ | exact rfl)) | (first | (apply Wp.ung; (exact rfl); (first | exact rfl | assumption)) | (apply Wp.opSt; (exact rfl); (first | exact rfl | assumption)) | (apply Wp.opSf; (exact rfl); (first | exact rfl | assumption))) | (apply Wp.opS0; (exact rfl)) | (first | (apply Wp.condT; (exact rfl); (first | exact rfl | assumption)) | (apply Wp.condF; (exact rfl); (first | exact rfl | assumption))) | ((first | apply Wp.grdT | apply Wp.grdF | apply Wp.cond); (exact rfl); (intro); rotate_left 1; (intro); rotate_right 1))
      rw [if_neg (by simp [hcg])]
      repeat (first | apply Wp.seq | apply Wp.skip | apply Wp.block | (apply Wp.op0; ((simp [M2.keep]) <;> rfl)) | ((first | apply Wp.op | apply Wp.opN | (apply Wp.opG; exact rfl)); (apply Evt.all; intro; (simp [insL, hat.1, insU_len, insU_take, over_full]) <;> (try simp (disch := omega) only [wrap_id]) <;> first | exact ⟨rfl, rfl⟩ | exact rfl)) | (apply Wp.opS; exact rfl; decide) | (apply Wp.opS0; exact rfl))
      apply Wp.call
      · exact hnx _
      repeat (first | apply Wp.seq | apply Wp.skip | apply Wp.block | (apply Wp.op0; ((simp [M2.keep]) <;> rfl)) | ((first | apply Wp.op | apply Wp.opN | (apply Wp.opG; exact rfl)); (apply Evt.all; intro; (simp [natU]) <;> (try simp (disch := omega) only [wrap_id]) <;> first | exact ⟨rfl, rfl⟩ | exact rfl)) | (apply Wp.opS; exact rfl; decide) | (apply Wp.opS0; exact rfl))
      refine (show Wp T (.loop c_skel_Build_L0) (b0S' p l (boolU q cut) w n (fsAt l at_) (0, ns, [])) _ _ _ from (bl0_loop p l hr q cut w hw n (fsAt l at_) hfs (fs_len l at_) ns h.ok).imp (fun _ h => h.elim) (fun _ h => h.elim) ?_)
      rintro b s ⟨rfl, rfl, hok⟩
      rw [if_pos rfl]
      have hsp := pOuts_spec l (fsAt l at_) ns []
      generalize (pOuts l (fsAt l at_) ns []).2 = os at *
      generalize (pOuts l (fsAt l at_) ns []).1 = ns' at *
      obtain ⟨_, ⟨qs, hq⟩, _⟩ := hsp
      have hn2 : n < ns'.length := by rw [hq, List.length_append]; omega
      have hn3 : (n : Int) < ns'.length := by omega
      have hg3 : ns'[n]? = some (at_, none) := by rw [hq, List.getElem?_append_left hn]; exact hg2
      have hset : (ns'.set n (at_, some os)).map nodeU = (ns'.map nodeU).set n [i64 at_, .sl true (os.map wayU)] := by rw [List.map_set]; rfl
      have hfst : (ns'.set n (at_, some os)).map (·.1) = ns'.map (·.1) := by
        apply List.ext_getElem?
        intro i
        rw [List.getElem?_map, List.getElem?_map, List.getElem?_set]
        split
        · rename_i hi
          subst hi
          rw [hg3]
          rfl
        · rfl
      have hbs : bSt p l (ns'.set n (at_, some os)) (wayU w) = [.box [insL p l], .box nil26, .row 72 2 false ((ns'.map nodeU).set n [i64 at_, .sl true (os.map wayU)]), .box (wayU w ++ [.own 2 ns'.length]), .map (mapE 0 (ns'.map (·.1))), .box [.mp 4]] := by
        simp only [bSt, hset, hfst, List.length_set]
      have hb := bSt_blw p l (ns'.set n (at_, some os)) w 6 (by omega)
      simp only [bSt, List.cons_append, List.nil_append]
      have hse : splice [i64 (at_ : Int), U.sl true []] 1 [U.sl true (os.map wayU)] = [i64 (at_ : Int), U.sl true (os.map wayU)] := rfl
      repeat (first | apply Wp.seq | apply Wp.skip | apply Wp.block | (apply Wp.op0; ((simp [M2.keep]) <;> rfl)) | ((first | apply Wp.op | apply Wp.opN | (apply Wp.opG; exact rfl)); (apply Evt.all; intro; (simp [d25, wl, hn3, hg3, nodeU, outsU, hse, wrap_id, -List.map_set]) <;> (try simp (disch := omega) only [wrap_id]) <;> first | exact ⟨rfl, rfl⟩ | exact rfl)) | (apply Wp.opS; exact rfl; decide) | (apply Wp.opS0; exact rfl))
      have htr := trim_backs (st := bSt p l (ns'.set n (at_, some os)) (wayU w)) (l := [.frow (os.map wayU)]) (e := [(1, boolU q cut), (2, .bp 0 0), (4, .bp 1 0), (6, .bp 3 0), (8, capsB), (9, i64 ((n : Int) + 1))]) rfl hb
      rw [hbs] at htr
      simp only [hset, hfst, List.length_set]
      exact htr
  · cases h1
theorem bl1_loop (p : Bool) (l : List Ins) (hr : rightF l = true) (q : Bool) (cut : List Bool) (w : Way) (hw : w.2.length = 24) (ns : List Node) (h : NInv l cut 0 ns) :
    Wp T (.loop c_skel_Build_L1) (b1S p l (boolU q cut) w (0, ns)) (fun _ => False) (fun _ => False)
      (fun b s' => b = 0 ∧ ∃ k : Nat, s' = ⟨[(1, boolU q cut), (2, .bp 0 0), (4, .bp 1 0), (6, .bp 3 0), (8, capsB), (9, i64 k), (27, .bool false)], bSt p l (pRun l cut 201 0 ns) (wayU w)⟩) := by
  have h200 := (right_facts hr).1
  refine Wp.loop (fun x : Nat × Nat × List Node => x.1) (fun x => b1S p l (boolU q cut) w x.2) (fun x => NInv l cut x.2.1 x.2.2 ∧ x.1 + x.2.1 = 201 ∧ pRun l cut x.1 x.2.1 x.2.2 = pRun l cut 201 0 ns) (fun x ⟨hx, hk, he⟩ => ?_) (201, 0, ns) ⟨h, rfl, rfl⟩
  obtain ⟨k, n, ns1⟩ := x
  simp only at hx hk he
  have hfew := hx.few
  have hle := hx.le
  obtain ⟨k, rfl⟩ : ∃ m, k = m + 1 := ⟨k - 1, by omega⟩
  rw [pRun] at he
  by_cases hn : n < ns1.length
  · rw [if_pos hn] at he
    refine (bl1_step p l hr q cut w hw n ns1 hx hn _ _).imp (fun s' h => ?_) (fun _ h => h) (fun _ _ h => h)
    exact ⟨(k, n + 1, pStep l cut n ns1), h, by simp only; omega, (hx.step hr hn).1, by simp only; omega, he⟩
  · rw [if_neg hn] at he
    have hne : ¬ (n : Int) < ns1.length := by omega
    rw [← he]
    have wl := wayU_len hw
    have d25 := drop25 hw
    simp only [b1S, bSt]
    repeat (first | apply Wp.seq | apply Wp.skip | apply Wp.block | (apply Wp.op0; ((simp [M2.keep]) <;> rfl)) | ((first | apply Wp.op | apply Wp.opN | (apply Wp.opG; exact rfl)); (apply Evt.all; intro; (simp [d25, wl, hne]) <;> (try simp (disch := omega) only [wrap_id]) <;> first | exact ⟨rfl, rfl⟩ | exact rfl)) | (apply Wp.opS; exact rfl; decide) | (apply Wp.opS0; exact rfl))
    refine Wp.cond (by first | rfl | (simp; rfl)) (fun h1 => ?_) (fun h1 => ?_)
    · cases h1
    · exact Wp.exit ⟨rfl, n, rfl⟩
/-- A skeleton. -/
def skelU (w : Way) (ns : List Node) : List U := wayU w ++ [.sl true (ns.map nodeU)]
theorem acc_nodes (st : List Ob) : ∀ ns : List Node, accM (accM (frz frzD)) st (ns.map nodeU) = some (ns.map nodeU, st)
  | [] => rfl
  | x :: ns => by
    have ih := acc_nodes st ns
    simp only [List.map_cons]
    rw [accMM_cons]
    have h1 : accM (frz frzD) st (nodeU x) = some (nodeU x, st) := rfl
    simp only [h1, ih, Option.bind_some]
theorem acc_way10 (st : List Ob) (w : Way) : accM (frz 10) st (wayU w) = some (wayU w, st) := acc_app (xs := [i64 w.1]) (show accM (frz 10) st [i64 w.1] = some ([i64 w.1], st) from rfl) (acc_tab' st w.2)
theorem acc_skel (st : List Ob) (w : Way) (ns : List Node) (st' : List Ob) (h : frz 10 st (.own 2 ns.length) = some (.sl true (ns.map nodeU), st')) : accM (frz 10) st (wayU w ++ [.own 2 ns.length]) = some (skelU w ns, st') :=
  acc_app (acc_way10 st w) (by rw [accMS_cons, h]; rfl)
def bSt' (p : Bool) (l : List Ins) (ns : List Node) (w : Way) : List Ob := [.box [insL p l], .box (wayU w ++ [.own 2 ns.length]), .row 72 2 false (ns.map nodeU), .box (wayU w ++ [.own 2 ns.length]), .map (mapE 0 (ns.map (·.1))), .box [.mp 4]]
set_option maxHeartbeats 4000000 in
theorem build_call (p : Bool) (l : List Ins) (hr : rightF l = true) (q : Bool) (cut : List Bool) (st : List Ob) : Cl T 24 [insL p l, boolU q cut] st (.tup [.agg (skelU (pEntry l) (pNodes l cut)), i64 0]) st := by
  refine Wp.pure (fn := c_skel_Build) rfl rfl rfl («as» := [insL p l, boolU q cut]) rfl ?_
  have hright := fun st => asmRight_call p l st (insL p l) rfl
  rw [hr] at hright
  obtain ⟨h1, h2, h3, h4⟩ := right_facts hr
  repeat' (first | apply Wp.seq | apply Wp.skip | apply Wp.block | (apply Wp.op0; ((simp [M2.keep]) <;> rfl)) | ((first | (apply Wp.pickT; (exact rfl); (first | exact rfl | assumption)) | (apply Wp.pickF; (exact rfl); (first | exact rfl | assumption))); ((simp) <;> exact rfl)) | ((first | apply Wp.op | apply Wp.opN); (apply Evt.all; intro; (simp [insL, boolU]) <;> (try simp (disch := omega) only [wrap_id]) <;> first | exact ⟨rfl, rfl⟩ | exact rfl)) | (apply Wp.call; exact hright _) | (first | (apply Wp.ung; (exact rfl); (first | exact rfl | assumption)) | (apply Wp.opSt; (exact rfl); (first | exact rfl | assumption)) | (apply Wp.opSf; (exact rfl); (first | exact rfl | assumption))) | (apply Wp.opS0; (exact rfl)) | (first | (apply Wp.condT; (exact rfl); (first | exact rfl | assumption)) | (apply Wp.condF; (exact rfl); (first | exact rfl | assumption))) | ((first | apply Wp.grdT | apply Wp.grdF | apply Wp.cond); (exact rfl); (intro); rotate_left 1; (intro); rotate_right 1))
  have hw0 := way_call p l hr 0 h2 [] (by simp) (0, List.replicate 24 .no) rfl [] (.inl rfl)
  apply Wp.callv
  · exact rfl
  · exact hw0
  have hN := ninv0 (cut := cut) hr
  have he : pEntry l = outP l ((pAdd l [] 0).map (·.1)) 0 := rfl
  have hnd : pNodes l cut = pRun l cut 201 0 (pAdd l [] 0) := rfl
  have hwt := wq_t hr h2 ((pAdd l [] 0).map (·.1))
  rw [← he] at hwt ⊢
  have hlp := bl1_loop p l hr q cut (pEntry l) hwt _ hN
  rw [← hnd] at hlp
  have hfew := (nodes_spec (cut := cut) hr)
  generalize pNodes l cut = ns2 at *
  generalize pEntry l = w at *
  generalize pAdd l [] 0 = ns1 at *
  have wl := wayU_len hwt
  have h25 : (wayU (0, List.replicate 24 .no)).length = 25 := rfl
  simp only [bSt, List.append_nil]
  generalize wayU (0, List.replicate 24 .no) = z at *
  have sp0 : ∀ x : U, over (wayU w) (z ++ [x]) = wayU w ++ [x] := fun x => over_app _ _ _ (by rw [wl, h25])
  repeat (first | apply Wp.seq | apply Wp.skip | apply Wp.block | (apply Wp.op0; ((simp [M2.keep]) <;> rfl)) | ((first | apply Wp.op | apply Wp.opN | (apply Wp.opG; exact rfl)); (apply Evt.all; intro; (simp [h25, wl, sp0]) <;> (try simp (disch := omega) only [wrap_id]) <;> first | exact ⟨rfl, rfl⟩ | exact rfl)) | (apply Wp.opS; exact rfl; decide) | (apply Wp.opS0; exact rfl))
  refine (show Wp T (.loop c_skel_Build_L1) (b1S p l (boolU q cut) w (0, ns1)) _ _ _ from hlp.imp (fun _ h => h.elim) (fun _ h => h.elim) ?_)
  rintro b s ⟨rfl, k, rfl⟩
  rw [if_pos rfl]
  have t26 : ∀ x : U, (wayU w ++ [x]).take 26 = wayU w ++ [x] := fun x => by rw [List.take_of_length_le]; rw [List.length_append, wl]; exact Nat.le_refl _
  have o26 : ∀ x : U, over (wayU w ++ [x]) nil26 = wayU w ++ [x] := fun x => over_full _ _ (by rw [List.length_append, wl]; rfl)
  simp only [bSt]
  repeat (first | apply Wp.seq | apply Wp.skip | apply Wp.block | (apply Wp.op0; ((simp [M2.keep]) <;> rfl)) | ((first | apply Wp.op | apply Wp.opN | (apply Wp.opG; exact rfl)); (apply Evt.all; intro; (simp [wl, t26, o26]) <;> (try simp (disch := omega) only [wrap_id]) <;> first | exact ⟨rfl, rfl⟩ | exact rfl)) | (apply Wp.opS; exact rfl; decide) | (apply Wp.opS0; exact rfl))
  refine Wp.ret ?_
  have hfz : frz 10 (bSt' p l ns2 w) (.own 2 ns2.length) = some (.sl true (ns2.map nodeU), (bSt' p l ns2 w).set 2 (.frow (ns2.map nodeU))) := by
    show (if (ns2.map nodeU).length = ns2.length then some (U.sl true (ns2.map nodeU), (bSt' p l ns2 w).set 2 (.frow (ns2.map nodeU))) else none) = _
    rw [if_pos (List.length_map ..)]
  have hac := acc_skel _ w ns2 _ hfz
  have hr1 : resU ⟨[(4, .bp 1 0), (5, i64 0)], bSt' p l ns2 w⟩ c_skel_Build.res = some (.tup [.agg (wayU w ++ [.own 2 ns2.length]), i64 0]) := by
    simp [resU, res1, c_skel_Build, bSt', wl, t26]
  show (resU ⟨[(4, .bp 1 0), (5, i64 0)], bSt' p l ns2 w⟩ c_skel_Build.res).bind (fun u => (frz frzD (bSt' p l ns2 w) u).map (·.1)) = _
  rw [hr1, Option.bind_some, M2.frz_tup, accMS_cons, frzS_agg, hac]
  rfl
theorem build_bad (p : Bool) (l : List Ins) (hr : rightF l = false) (q : Bool) (cut : List Bool) (st : List Ob) : Cl T 24 [insL p l, boolU q cut] st (.tup [.agg (i64 0 :: (List.replicate 24 .nilI ++ [.sl true []])), i64 1]) st := by
  refine Wp.pure (fn := c_skel_Build) rfl rfl rfl («as» := [insL p l, boolU q cut]) rfl ?_
  have hright := fun st => asmRight_call p l st (insL p l) rfl
  rw [hr] at hright
  repeat' (first | apply Wp.seq | apply Wp.skip | apply Wp.block | (apply Wp.op0; ((simp [M2.keep]) <;> rfl)) | ((first | (apply Wp.pickT; (exact rfl); (first | exact rfl | assumption)) | (apply Wp.pickF; (exact rfl); (first | exact rfl | assumption))); ((simp) <;> exact rfl)) | ((first | apply Wp.op | apply Wp.opN); (apply Evt.all; intro; (simp [insL, boolU]) <;> (try simp (disch := omega) only [wrap_id]) <;> first | exact ⟨rfl, rfl⟩ | exact rfl)) | (apply Wp.call; exact hright _) | (first | (apply Wp.ung; (exact rfl); (first | exact rfl | assumption)) | (apply Wp.opSt; (exact rfl); (first | exact rfl | assumption)) | (apply Wp.opSf; (exact rfl); (first | exact rfl | assumption))) | (apply Wp.opS0; (exact rfl)) | (first | (apply Wp.condT; (exact rfl); (first | exact rfl | assumption)) | (apply Wp.condF; (exact rfl); (first | exact rfl | assumption))) | ((first | apply Wp.grdT | apply Wp.grdF | apply Wp.cond); (exact rfl); (intro); rotate_left 1; (intro); rotate_right 1))
  refine Wp.ret ?_
  simp [Res, resU, res1, c_skel_Build, List.replicate]
end Go.Proofs.YtapibckmdpdljaaDoor.M2

/- What the functions answer in M2. Part 23: the document's skeleton. -/
namespace Go.Proofs.YtapibckmdpdljaaDoor.M2
open Go
attribute [local simp] ev1 M2.get put A.ev ld sub part elems bin arith un opt idx fillC cellsO splice over newOb sto fillR laidOwn appTo appRow touch touchN touchM touchE touchA plainU flatU plainAs allM rowAt stoRow accM_nil accM_cons accMM_nil accMM_cons frz_int frz_bool frz_str frz_slt frz_nils frz_nilI frz_nilF frz_own frzRow_row frzRow_frow Ob.blw blw_bool blw_int blw_str blw_nils blw_nilI blw_nilF blw_nilp blw_nilm blw_sl blw_own blw_bp blw_rp blw_mp blw_it params
attribute [local simp] frz_agg frz_tup frz_iface frzS_agg frzS_iface accMS_cons frzS_int frzS_bool frzS_str frzS_slt frzS_nils frzS_nilI beq_dec bne_dec

theorem pf65 : pfT T 65 = true := rfl
def rwayU (w : Way) : List U := [i64 w.1, refT true w.2]
theorem refAns_wq {l : List Ins} (hr : rightF l = true) {a : Nat} (ha : a < l.length) : refAns l a = .agg [i64 (wq l a).1, refT true (wq l a).2.1, i64 (wq l a).2.2] := by
  have h := fair_run hr ha
  unfold wq refAns
  rw [h]
  cases refRun l (l.length + 1) ⟨a, newT, 0⟩ <;> rfl
set_option maxHeartbeats 4000000 in
theorem rway_call (p : Bool) (l : List Ins) (hr : rightF l = true) (a : Nat) (ha : a < l.length) (ps : List Nat) (hps : ps.length < 1000) (b : Bool) (PU : U) (st : List Ob) (hPU : brw frzD st PU = some (natU b ps)) : Cl T 51 [insL p l, PU, i64 a] st (.agg (rwayU (outP l ps a))) st := by
  refine Wp.pure (fn := c_joineryref10_way) rfl rfl rfl («as» := [insL p l, natU b ps, i64 a]) (by simp [hPU]; rfl) ?_
  have hrf := reffrom_call p l hr a ha
  rw [refAns_wq hr ha] at hrf
  have hq := wq_ok hr ha
  unfold outP
  generalize (wq l a).2.2 = sn at *
  generalize (wq l a).2.1 = t at *
  generalize (wq l a).1 = to at *
  by_cases h0 : to < 0
  · have d0 : decide (to < 0) = true := decide_eq_true h0
    rw [if_pos h0]
    repeat' (first | apply Wp.seq | apply Wp.skip | apply Wp.block | (apply Wp.op0; ((simp [M2.keep]) <;> rfl)) | ((first | (apply Wp.pickT; (exact rfl); (first | exact rfl | assumption)) | (apply Wp.pickF; (exact rfl); (first | exact rfl | assumption))); ((simp) <;> exact rfl)) | ((first | apply Wp.op | apply Wp.opN); (apply Evt.all; intro; (simp [insL]) <;> (try simp (disch := omega) only [wrap_id]) <;> first | exact ⟨rfl, rfl⟩ | exact rfl)) | (apply Wp.call; exact hrf _) | (first | (apply Wp.ung; (exact rfl); (first | exact rfl | assumption)) | (apply Wp.opSt; (exact rfl); (first | exact rfl | assumption)) | (apply Wp.opSf; (exact rfl); (first | exact rfl | assumption))) | (apply Wp.opS0; (exact rfl)) | (first | (apply Wp.condT; (exact rfl); (first | exact rfl | assumption)) | (apply Wp.condF; (exact rfl); (first | exact rfl | assumption))) | ((first | apply Wp.grdT | apply Wp.grdF | apply Wp.cond); (exact rfl); (intro); rotate_left 1; (intro); rotate_right 1))
    refine Wp.ret ?_
    simp [Res, resU, res1, c_joineryref10_way, rwayU, refT]
  · obtain ⟨N, rfl⟩ := Int.eq_ofNat_of_zero_le (Int.not_lt.1 h0)
    have d0 : decide ((N : Int) < 0) = false := decide_eq_false h0
    rw [if_neg h0]
    have hwh := fun st => where_call b ps N hps st (natU b ps) rfl
    repeat' (first | apply Wp.seq | apply Wp.skip | apply Wp.block | (apply Wp.op0; ((simp [M2.keep]) <;> rfl)) | ((first | (apply Wp.pickT; (exact rfl); (first | exact rfl | assumption)) | (apply Wp.pickF; (exact rfl); (first | exact rfl | assumption))); ((simp) <;> exact rfl)) | ((first | apply Wp.op | apply Wp.opN); (apply Evt.all; intro; (simp [insL]) <;> (try simp (disch := omega) only [wrap_id]) <;> first | exact ⟨rfl, rfl⟩ | exact rfl)) | (apply Wp.call; exact hrf _) | (first | (apply Wp.ung; (exact rfl); (first | exact rfl | assumption)) | (apply Wp.opSt; (exact rfl); (first | exact rfl | assumption)) | (apply Wp.opSf; (exact rfl); (first | exact rfl | assumption))) | (apply Wp.opS0; (exact rfl)) | (first | (apply Wp.condT; (exact rfl); (first | exact rfl | assumption)) | (apply Wp.condF; (exact rfl); (first | exact rfl | assumption))) | ((first | apply Wp.grdT | apply Wp.grdF | apply Wp.cond); (exact rfl); (intro); rotate_left 1; (intro); rotate_right 1))
    refine Wp.draw (by (simp [c_joineryref10_way_D0, I.need]) <;> rfl) (by (simp [refT, pf65, natU]) <;> rfl) (by (simp [refT, pf65, natU]) <;> rfl) (by (unfold c_joineryref10_way_D0); (repeat (first | ((first | apply Dr.op | apply Dr.opN | (apply Dr.opG; exact rfl)); ((simp [refT, pf65, natU]) <;> rfl); (apply Evt.all; intro; (simp [refT, pf65, natU]) <;> (try simp (disch := omega) only [wrap_id]) <;> first | exact ⟨rfl, rfl⟩ | exact rfl); ((simp [I.need]) <;> rfl)) | ((first | (apply Dr.opS; exact rfl; decide) | (apply Dr.opS0; exact rfl)); ((simp [I.need]) <;> rfl)) | (apply Dr.call; ((simp [refT, pf65, natU]) <;> rfl); exact hwh _) | (apply Dr.callG; (exact rfl); ((simp [refT, pf65, natU]) <;> rfl); exact hwh _))); exact Dr.nil) (by first | decide +kernel | exact rfl) (by (simp [M2.keep]) <;> rfl) ?_
    refine Wp.ret ?_
    simp [Res, resU, res1, c_joineryref10_way, rwayU, refT]
abbrev natR (ps : List Nat) : List (List U) := ps.map fun (n : Nat) => [i64 (n : Int)]
/-- What may stand behind the places. -/
def Junk (J : List Ob) : Prop := ∃ (x s : Int) (t : List Src), J = [.box [i64 x, refT true t, i64 s]] ∨ ∃ rs : List (List U), J = [.box [i64 x, refT true t, i64 s], .row 3 1 false rs]
theorem junk_blw {J : List Ob} (h : Junk J) (ps : List Nat) : (Ob.row 3 1 false (natR ps) :: J).all (Ob.blw (Ob.row 3 1 false (natR ps) :: J).length) = true := by
  obtain ⟨x, s, t, rfl | ⟨rs, rfl⟩⟩ := h <;> rfl
def p0S (p : Bool) (l : List Ins) (cutU : U) (n : Nat) (fs : List Nat) (J : List Ob) (x : Nat × List Nat) : S :=
  ⟨[(0, insL p l), (1, cutU), (5, .own 0 x.2.length), (7, i64 n), (8, natU true fs), (9, i64 x.1)], .row 3 1 false (natR x.2) :: J⟩
set_option maxHeartbeats 8000000 in
theorem pl0_step (p : Bool) (l : List Ins) (hr : rightF l = true) (q : Bool) (cut : List Bool) (n : Nat) (fs : List Nat) (hfl : fs.length ≤ 2) (J : List Ob) (hJ : Junk J) (i : Nat) (hi : i < fs.length) (hfi : fs[i] < l.length) (ps : List Nat) (hps : ps.length ≤ 200) (R : S → Prop) (B : Nat → S → Prop) :
    Wp T c_joineryref10_Places_L0 (p0S p l (boolU q cut) n fs J (i, ps)) (fun s' => trimO (Ob.row 3 1 false (natR ps) :: J).length s' = p0S p l (boolU q cut) n fs J (i + 1, addP l ps fs[i])) R B := by
  have hi' : (i : Int) < fs.length := by omega
  have hrf := reffrom_call p l hr fs[i] hfi
  rw [refAns_wq hr hfi] at hrf
  have hq := wq_ok hr hfi
  unfold addP
  generalize (wq l fs[i]).2.2 = sn at *
  generalize (wq l fs[i]).2.1 = t at *
  generalize (wq l fs[i]).1 = to at *
  have eg : fs[i]? = some fs[i] := List.getElem?_eq_getElem hi
  generalize fs[i] = a at *
  have hjb := junk_blw hJ
  by_cases h0 : to < 0
  · have d0 : decide (0 ≤ to) = false := decide_eq_false (by omega)
    rw [if_pos (.inl h0)]
    have hj := hjb ps
    obtain ⟨x, s, tt, rfl | ⟨rs, rfl⟩⟩ := hJ
    · simp only [p0S]
      repeat' (first | apply Wp.seq | apply Wp.skip | apply Wp.block | (apply Wp.op0; ((simp [M2.keep]) <;> rfl)) | ((first | (apply Wp.pickT; (exact rfl); (first | exact rfl | assumption)) | (apply Wp.pickF; (exact rfl); (first | exact rfl | assumption))); ((simp) <;> exact rfl)) | ((first | apply Wp.op | apply Wp.opN); (apply Evt.all; intro; (simp [insL, natU, hi', eg]) <;> (try simp (disch := omega) only [wrap_id]) <;> first | exact ⟨rfl, rfl⟩ | exact rfl)) | (apply Wp.call; exact hrf _) | (first | (apply Wp.ung; (exact rfl); (first | exact rfl | assumption)) | (apply Wp.opSt; (exact rfl); (first | exact rfl | assumption)) | (apply Wp.opSf; (exact rfl); (first | exact rfl | assumption))) | (apply Wp.opS0; (exact rfl)) | (first | (apply Wp.condT; (exact rfl); (first | exact rfl | assumption)) | (apply Wp.condF; (exact rfl); (first | exact rfl | assumption))) | ((first | apply Wp.grdT | apply Wp.grdF | apply Wp.cond); (exact rfl); (intro); rotate_left 1; (intro); rotate_right 1))
      exact trim_backs (st := Ob.row 3 1 false (natR ps) :: [.box [i64 x, refT true tt, i64 s]]) (l := [_]) (e := [(0, insL p l), (1, boolU q cut), (5, .own 0 ps.length), (7, i64 n), (8, natU true fs), (9, i64 ((i : Int) + 1))]) rfl hj
    · simp only [p0S]
      repeat' (first | apply Wp.seq | apply Wp.skip | apply Wp.block | (apply Wp.op0; ((simp [M2.keep]) <;> rfl)) | ((first | (apply Wp.pickT; (exact rfl); (first | exact rfl | assumption)) | (apply Wp.pickF; (exact rfl); (first | exact rfl | assumption))); ((simp) <;> exact rfl)) | ((first | apply Wp.op | apply Wp.opN); (apply Evt.all; intro; (simp [insL, natU, hi', eg]) <;> (try simp (disch := omega) only [wrap_id]) <;> first | exact ⟨rfl, rfl⟩ | exact rfl)) | (apply Wp.call; exact hrf _) | (first | (apply Wp.ung; (exact rfl); (first | exact rfl | assumption)) | (apply Wp.opSt; (exact rfl); (first | exact rfl | assumption)) | (apply Wp.opSf; (exact rfl); (first | exact rfl | assumption))) | (apply Wp.opS0; (exact rfl)) | (first | (apply Wp.condT; (exact rfl); (first | exact rfl | assumption)) | (apply Wp.condF; (exact rfl); (first | exact rfl | assumption))) | ((first | apply Wp.grdT | apply Wp.grdF | apply Wp.cond); (exact rfl); (intro); rotate_left 1; (intro); rotate_right 1))
      exact trim_backs (st := Ob.row 3 1 false (natR ps) :: [.box [i64 x, refT true tt, i64 s], .row 3 1 false rs]) (l := [_]) (e := [(0, insL p l), (1, boolU q cut), (5, .own 0 ps.length), (7, i64 n), (8, natU true fs), (9, i64 ((i : Int) + 1))]) rfl hj
  · obtain ⟨N, rfl⟩ := Int.eq_ofNat_of_zero_le (Int.not_lt.1 h0)
    have d0 : decide (0 ≤ (N : Int)) = true := decide_eq_true (by omega)
    have hwh : ∀ J, Cl T 65 [.own 0 ps.length, i64 N] (.row 3 1 false (natR ps) :: J) (i64 (ps.idxOf N : Nat)) (.row 3 1 false (natR ps) :: J) := fun J => where_call false ps N (by omega) _ _ (by
      show (if (natR ps).length = ps.length then some (U.sl false (natR ps)) else none) = _
      rw [if_pos (List.length_map ..)]
      rfl)
    simp only [h0, false_or, Int.toNat_natCast]
    by_cases hm : N ∈ ps
    · rw [if_pos hm]
      have hlt := List.idxOf_lt_length_of_mem hm
      have d1 : decide (((ps.idxOf N : Nat) : Int) = ps.length) = false := decide_eq_false (by omega)
      have d2 : decide (ps.idxOf N = ps.length) = false := decide_eq_false (by omega)
      have hj := hjb ps
      obtain ⟨x, s, tt, rfl | ⟨rs, rfl⟩⟩ := hJ
      · simp only [p0S]
        repeat' (first | apply Wp.seq | apply Wp.skip | apply Wp.block | (apply Wp.op0; ((simp [M2.keep]) <;> rfl)) | ((first | (apply Wp.pickT; (exact rfl); (first | exact rfl | assumption)) | (apply Wp.pickF; (exact rfl); (first | exact rfl | assumption))); ((simp) <;> exact rfl)) | ((first | apply Wp.op | apply Wp.opN); (apply Evt.all; intro; (simp [insL, natU, hi', eg]) <;> (try simp (disch := omega) only [wrap_id]) <;> first | exact ⟨rfl, rfl⟩ | exact rfl)) | (apply Wp.call; exact hrf _) | (apply Wp.call; exact hwh _) | (first | (apply Wp.ung; (exact rfl); (first | exact rfl | assumption)) | (apply Wp.opSt; (exact rfl); (first | exact rfl | assumption)) | (apply Wp.opSf; (exact rfl); (first | exact rfl | assumption))) | (apply Wp.opS0; (exact rfl)) | (first | (apply Wp.condT; (exact rfl); (first | exact rfl | assumption)) | (apply Wp.condF; (exact rfl); (first | exact rfl | assumption))) | ((first | apply Wp.grdT | apply Wp.grdF | apply Wp.cond); (exact rfl); (intro); rotate_left 1; (intro); rotate_right 1))
        exact trim_backs (st := Ob.row 3 1 false (natR ps) :: [.box [i64 x, refT true tt, i64 s]]) (l := [_]) (e := [(0, insL p l), (1, boolU q cut), (5, .own 0 ps.length), (7, i64 n), (8, natU true fs), (9, i64 ((i : Int) + 1))]) rfl hj
      · simp only [p0S]
        repeat' (first | apply Wp.seq | apply Wp.skip | apply Wp.block | (apply Wp.op0; ((simp [M2.keep]) <;> rfl)) | ((first | (apply Wp.pickT; (exact rfl); (first | exact rfl | assumption)) | (apply Wp.pickF; (exact rfl); (first | exact rfl | assumption))); ((simp) <;> exact rfl)) | ((first | apply Wp.op | apply Wp.opN); (apply Evt.all; intro; (simp [insL, natU, hi', eg]) <;> (try simp (disch := omega) only [wrap_id]) <;> first | exact ⟨rfl, rfl⟩ | exact rfl)) | (apply Wp.call; exact hrf _) | (apply Wp.call; exact hwh _) | (first | (apply Wp.ung; (exact rfl); (first | exact rfl | assumption)) | (apply Wp.opSt; (exact rfl); (first | exact rfl | assumption)) | (apply Wp.opSf; (exact rfl); (first | exact rfl | assumption))) | (apply Wp.opS0; (exact rfl)) | (first | (apply Wp.condT; (exact rfl); (first | exact rfl | assumption)) | (apply Wp.condF; (exact rfl); (first | exact rfl | assumption))) | ((first | apply Wp.grdT | apply Wp.grdF | apply Wp.cond); (exact rfl); (intro); rotate_left 1; (intro); rotate_right 1))
        exact trim_backs (st := Ob.row 3 1 false (natR ps) :: [.box [i64 x, refT true tt, i64 s], .row 3 1 false rs]) (l := [_]) (e := [(0, insL p l), (1, boolU q cut), (5, .own 0 ps.length), (7, i64 n), (8, natU true fs), (9, i64 ((i : Int) + 1))]) rfl hj
    · rw [if_neg hm]
      have hidx := List.idxOf_eq_length hm
      rw [hidx] at hwh
      have hj := hjb (ps ++ [N])
      have hnn : natR (ps ++ [N]) = natR ps ++ [[i64 N]] := by simp
      have hln : (ps ++ [N]).length = ps.length + 1 := by simp
      have lim : (ps.length + 1) * 8 ≤ 140737488355328 := by omega
      obtain ⟨x, s, tt, rfl | ⟨rs, rfl⟩⟩ := hJ
      · simp only [p0S]
        repeat' (first | apply Wp.seq | apply Wp.skip | apply Wp.block | (apply Wp.op0; ((simp [M2.keep]) <;> rfl)) | ((first | (apply Wp.pickT; (exact rfl); (first | exact rfl | assumption)) | (apply Wp.pickF; (exact rfl); (first | exact rfl | assumption))); ((simp) <;> exact rfl)) | ((first | apply Wp.op | apply Wp.opN); (apply Evt.all; intro; (simp [insL, natU, hi', eg, lim]) <;> (try simp (disch := omega) only [wrap_id]) <;> first | exact ⟨rfl, rfl⟩ | exact rfl)) | (apply Wp.call; exact hrf _) | (apply Wp.call; exact hwh _) | (first | (apply Wp.ung; (exact rfl); (first | exact rfl | assumption)) | (apply Wp.opSt; (exact rfl); (first | exact rfl | assumption)) | (apply Wp.opSf; (exact rfl); (first | exact rfl | assumption))) | (apply Wp.opS0; (exact rfl)) | (first | (apply Wp.condT; (exact rfl); (first | exact rfl | assumption)) | (apply Wp.condF; (exact rfl); (first | exact rfl | assumption))) | ((first | apply Wp.grdT | apply Wp.grdF | apply Wp.cond); (exact rfl); (intro); rotate_left 1; (intro); rotate_right 1))
        have htr := trim_backs (st := Ob.row 3 1 false (natR (ps ++ [N])) :: [.box [i64 x, refT true tt, i64 s]]) (l := [.box [i64 N, refT true t, i64 sn], .row 3 1 false [[i64 N]]]) (e := [(0, insL p l), (1, boolU q cut), (5, .own 0 (ps.length + 1)), (7, i64 n), (8, natU true fs), (9, i64 ((i : Int) + 1))]) rfl hj
        rw [hnn] at htr
        rw [hnn, hln]
        exact htr
      · simp only [p0S]
        repeat' (first | apply Wp.seq | apply Wp.skip | apply Wp.block | (apply Wp.op0; ((simp [M2.keep]) <;> rfl)) | ((first | (apply Wp.pickT; (exact rfl); (first | exact rfl | assumption)) | (apply Wp.pickF; (exact rfl); (first | exact rfl | assumption))); ((simp) <;> exact rfl)) | ((first | apply Wp.op | apply Wp.opN); (apply Evt.all; intro; (simp [insL, natU, hi', eg, lim]) <;> (try simp (disch := omega) only [wrap_id]) <;> first | exact ⟨rfl, rfl⟩ | exact rfl)) | (apply Wp.call; exact hrf _) | (apply Wp.call; exact hwh _) | (first | (apply Wp.ung; (exact rfl); (first | exact rfl | assumption)) | (apply Wp.opSt; (exact rfl); (first | exact rfl | assumption)) | (apply Wp.opSf; (exact rfl); (first | exact rfl | assumption))) | (apply Wp.opS0; (exact rfl)) | (first | (apply Wp.condT; (exact rfl); (first | exact rfl | assumption)) | (apply Wp.condF; (exact rfl); (first | exact rfl | assumption))) | ((first | apply Wp.grdT | apply Wp.grdF | apply Wp.cond); (exact rfl); (intro); rotate_left 1; (intro); rotate_right 1))
        have htr := trim_backs (st := Ob.row 3 1 false (natR (ps ++ [N])) :: [.box [i64 x, refT true tt, i64 s], .row 3 1 false rs]) (l := [.box [i64 N, refT true t, i64 sn], .row 3 1 false [[i64 N]]]) (e := [(0, insL p l), (1, boolU q cut), (5, .own 0 (ps.length + 1)), (7, i64 n), (8, natU true fs), (9, i64 ((i : Int) + 1))]) rfl hj
        rw [hnn] at htr
        rw [hnn, hln]
        exact htr
/-- Places that may be. -/
structure POK (l : List Ins) (ps : List Nat) : Prop where
  nodup : ps.Nodup
  lt : ∀ p ∈ ps, p < l.length ∧ movesF (l.getD p default) = false
theorem POK.few {l : List Ins} {ps : List Nat} (h : POK l ps) : ps.length ≤ l.length := by
  have := List.Nodup.length_le_of_subset h.nodup (l₂ := List.range l.length) (fun p hp => by rw [List.mem_range]; exact (h.lt p hp).1)
  simpa using this
theorem fsC_ok {l : List Ins} (hr : rightF l = true) {ps : List Nat} (h : POK l ps) {cut : List Bool} {i : Nat} (hi : i ∈ ps) : (∀ a ∈ fsC l cut i, a < l.length) ∧ (fsC l cut i).length ≤ 2 := by
  obtain ⟨h1, h2⟩ := h.lt i hi
  unfold fsC
  split
  · simp
  · exact ⟨(fsAt_ok hr h1 h2).1, fs_len l i⟩
theorem POK.fold {l : List Ins} (hr : rightF l = true) {ps : List Nat} (h : POK l ps) {ls : List Nat} (ha : ∀ a ∈ ls, a < l.length) : POK l (ls.foldl (addP l) ps) := by
  obtain ⟨h1, h2⟩ := fold_ok hr ls ps ha h.nodup h.lt
  exact ⟨h1, h2⟩
theorem pl0_loop (p : Bool) (l : List Ins) (hr : rightF l = true) (q : Bool) (cut : List Bool) (n : Nat) (fs : List Nat) (hfl : fs.length ≤ 2) (hfs : ∀ a ∈ fs, a < l.length) (J : List Ob) (hJ : Junk J) (ps : List Nat) (hps : POK l ps) :
    Wp T (.loop c_joineryref10_Places_L0) (p0S p l (boolU q cut) n fs J (0, ps)) (fun _ => False) (fun _ => False) (fun b s' => b = 2 ∧ s' = ⟨[(0, insL p l), (1, boolU q cut), (5, .own 0 (fs.foldl (addP l) ps).length), (7, i64 n), (8, natU true fs), (9, i64 (fs.length : Nat)), (37, .bool false)], .row 3 1 false (natR (fs.foldl (addP l) ps)) :: J⟩) := by
  have h200 := (right_facts hr).1
  refine Wp.loop (fun x : Nat × List Nat => fs.length - x.1) (p0S p l (boolU q cut) n fs J) (fun x => x.1 ≤ fs.length ∧ POK l x.2 ∧ (fs.drop x.1).foldl (addP l) x.2 = fs.foldl (addP l) ps) (fun x ⟨hx, hok, he⟩ => ?_) (0, ps) ⟨by simp, hps, rfl⟩
  obtain ⟨i, ps1⟩ := x
  simp only at hx hok he
  by_cases hi : i < fs.length
  · have hfi : fs[i] < l.length := hfs _ (List.getElem_mem hi)
    have hfew := hok.few
    rw [List.drop_eq_getElem_cons hi, List.foldl_cons] at he
    have hok' := hok.fold hr (ls := [fs[i]]) (by simpa using hfi)
    refine (pl0_step p l hr q cut n fs hfl J hJ i hi hfi ps1 (by omega) _ _).imp (fun s' h => ?_) (fun _ h => h) (fun _ _ h => h)
    exact ⟨(i + 1, addP l ps1 fs[i]), h, by simp only; omega, by simp only; omega, hok', he⟩
  · have hi2 : i = fs.length := by omega
    subst hi2
    rw [List.drop_of_length_le (Nat.le_refl _)] at he
    have he' : ps1 = fs.foldl (addP l) ps := he
    subst he'
    have hne : ¬ (fs.length : Int) < fs.length := by omega
    simp only [p0S]
    repeat (first | apply Wp.seq | apply Wp.skip | apply Wp.block | (apply Wp.op0; ((simp [M2.keep]) <;> rfl)) | ((first | apply Wp.op | apply Wp.opN | (apply Wp.opG; exact rfl)); (apply Evt.all; intro; (simp [natU]) <;> (try simp (disch := omega) only [wrap_id]) <;> first | exact ⟨rfl, rfl⟩ | exact rfl)) | (apply Wp.opS; exact rfl; decide) | (apply Wp.opS0; exact rfl))
    refine Wp.cond (by first | rfl | (simp; rfl)) (fun h1 => ?_) (fun h1 => ?_)
    · simp at h1
    · exact Wp.exit ⟨rfl, rfl⟩
def p1S (p : Bool) (l : List Ins) (cutU : U) (J : List Ob) (x : Nat × List Nat) : S :=
  ⟨[(0, insL p l), (1, cutU), (5, .own 0 x.2.length), (7, i64 x.1)], .row 3 1 false (natR x.2) :: J⟩
set_option maxHeartbeats 4000000 in
theorem pl1_step (p : Bool) (l : List Ins) (hr : rightF l = true) (q : Bool) (cut : List Bool) (J : List Ob) (hJ : Junk J) (n : Nat) (ps : List Nat) (hps : POK l ps) (hn : n < ps.length) (R : S → Prop) (B : Nat → S → Prop) :
    Wp T c_joineryref10_Places_L1 (p1S p l (boolU q cut) J (n, ps)) (fun s' => trimO (Ob.row 3 1 false (natR ps) :: J).length s' = p1S p l (boolU q cut) J (n + 1, (fsC l cut (ps.getD n 0)).foldl (addP l) ps)) R B := by
  have h200 := (right_facts hr).1
  have hfew := hps.few
  have hn' : (n : Int) < ps.length := by omega
  have eg : ps[n]? = some ps[n] := List.getElem?_eq_getElem hn
  have ed : ps.getD n 0 = ps[n] := by simp [hn]
  rw [ed]
  have hmem := List.getElem_mem hn
  generalize ps[n] = at_ at *
  obtain ⟨h1, h2⟩ := hps.lt at_ hmem
  obtain ⟨k1, k2⟩ := fsC_ok hr hps (cut := cut) hmem
  have hfr := froms_call p l q cut at_ h1 (by omega) (fsAt_ok hr h1 h2).2
  have hlp := pl0_loop p l hr q cut n (fsC l cut at_) k2 k1 J hJ ps hps
  have hjb := junk_blw hJ ((fsC l cut at_).foldl (addP l) ps)
  generalize fsC l cut at_ = fs at *
  simp only [p1S]
  repeat (first | apply Wp.seq | apply Wp.skip | apply Wp.block | (apply Wp.op0; ((simp [M2.keep]) <;> rfl)) | ((first | apply Wp.op | apply Wp.opN | (apply Wp.opG; exact rfl)); (apply Evt.all; intro; (simp [hn', eg]) <;> (try simp (disch := omega) only [wrap_id]) <;> first | exact ⟨rfl, rfl⟩ | exact rfl)) | (apply Wp.opS; exact rfl; decide) | (apply Wp.opS0; exact rfl))
  refine Wp.cond (by first | rfl | (simp; rfl)) (fun hc => ?_) (fun hc => ?_)
  · repeat (first | apply Wp.seq | apply Wp.skip | apply Wp.block | (apply Wp.op0; ((simp [M2.keep]) <;> rfl)) | ((first | apply Wp.op | apply Wp.opN | (apply Wp.opG; exact rfl)); (apply Evt.all; intro; (simp [hn', eg]) <;> (try simp (disch := omega) only [wrap_id]) <;> first | exact ⟨rfl, rfl⟩ | exact rfl)) | (apply Wp.opS; exact rfl; decide) | (apply Wp.opS0; exact rfl))
    apply Wp.call
    · exact hfr _
    repeat (first | apply Wp.seq | apply Wp.skip | apply Wp.block | (apply Wp.op0; ((simp [M2.keep]) <;> rfl)) | ((first | apply Wp.op | apply Wp.opN | (apply Wp.opG; exact rfl)); (apply Evt.all; intro; (simp []) <;> (try simp (disch := omega) only [wrap_id]) <;> first | exact ⟨rfl, rfl⟩ | exact rfl)) | (apply Wp.opS; exact rfl; decide) | (apply Wp.opS0; exact rfl))
    refine (show Wp T (.loop c_joineryref10_Places_L0) (p0S p l (boolU q cut) n fs J (0, ps)) _ _ _ from hlp.imp (fun _ h => h.elim) (fun _ h => h.elim) ?_)
    rintro b s ⟨rfl, rfl⟩
    rw [if_pos rfl]
    repeat (first | apply Wp.seq | apply Wp.skip | apply Wp.block | (apply Wp.op0; ((simp [M2.keep]) <;> rfl)) | ((first | apply Wp.op | apply Wp.opN | (apply Wp.opG; exact rfl)); (apply Evt.all; intro; (simp [wrap_id]) <;> (try simp (disch := omega) only [wrap_id]) <;> first | exact ⟨rfl, rfl⟩ | exact rfl)) | (apply Wp.opS; exact rfl; decide) | (apply Wp.opS0; exact rfl))
    exact trimO_len rfl
  · cases hc
theorem pl1_loop (p : Bool) (l : List Ins) (hr : rightF l = true) (q : Bool) (cut : List Bool) (J : List Ob) (hJ : Junk J) (ps : List Nat) (hps : POK l ps) :
    Wp T (.loop c_joineryref10_Places_L1) (p1S p l (boolU q cut) J (0, ps)) (fun _ => False) (fun _ => False) (fun b s' => b = 0 ∧ ∃ k : Nat, s' = ⟨[(0, insL p l), (1, boolU q cut), (5, .own 0 (rRun l cut 201 0 ps).length), (7, i64 k), (24, .bool false)], .row 3 1 false (natR (rRun l cut 201 0 ps)) :: J⟩) := by
  have h200 := (right_facts hr).1
  refine Wp.loop (fun x : Nat × Nat × List Nat => x.1) (fun x => p1S p l (boolU q cut) J x.2) (fun x => POK l x.2.2 ∧ x.2.1 ≤ x.2.2.length ∧ x.1 + x.2.1 = 201 ∧ rRun l cut x.1 x.2.1 x.2.2 = rRun l cut 201 0 ps) (fun x ⟨hx, hle, hk, he⟩ => ?_) (201, 0, ps) ⟨hps, by simp, rfl, rfl⟩
  obtain ⟨k, n, ps1⟩ := x
  simp only at hx hk he hle
  have hfew := hx.few
  obtain ⟨k, rfl⟩ : ∃ m, k = m + 1 := ⟨k - 1, by omega⟩
  rw [rRun] at he
  by_cases hn : n < ps1.length
  · rw [if_pos hn] at he
    have ed : ps1.getD n 0 = ps1[n] := by simp [hn]
    have hfs := (fsC_ok hr hx (cut := cut) (i := ps1.getD n 0) (by rw [ed]; exact List.getElem_mem hn)).1
    obtain ⟨⟨qs, hq⟩, _⟩ := fold_spec l (fsC l cut (ps1.getD n 0)) ps1
    refine (pl1_step p l hr q cut J hJ n ps1 hx hn _ _).imp (fun s' h => ?_) (fun _ h => h) (fun _ _ h => h)
    exact ⟨(k, n + 1, (fsC l cut (ps1.getD n 0)).foldl (addP l) ps1), h, by simp only; omega, hx.fold hr hfs, by rw [hq]; simp; omega, by simp only; omega, he⟩
  · rw [if_neg hn] at he
    have hne : ¬ (n : Int) < ps1.length := by omega
    rw [← he]
    simp only [p1S]
    repeat (first | apply Wp.seq | apply Wp.skip | apply Wp.block | (apply Wp.op0; ((simp [M2.keep]) <;> rfl)) | ((first | apply Wp.op | apply Wp.opN | (apply Wp.opG; exact rfl)); (apply Evt.all; intro; (simp [hne]) <;> (try simp (disch := omega) only [wrap_id]) <;> first | exact ⟨rfl, rfl⟩ | exact rfl)) | (apply Wp.opS; exact rfl; decide) | (apply Wp.opS0; exact rfl))
    refine Wp.cond (by first | rfl | (simp; rfl)) (fun h1 => ?_) (fun h1 => ?_)
    · cases h1
    · exact Wp.exit ⟨rfl, n, rfl⟩
set_option maxHeartbeats 4000000 in
theorem places_call (p : Bool) (l : List Ins) (hr : rightF l = true) (q : Bool) (cut : List Bool) (st : List Ob) : Cl T 50 [insL p l, boolU q cut] st (natU true (rPlaces l cut)) st := by
  refine Wp.pure (fn := c_joineryref10_Places) rfl rfl rfl («as» := [insL p l, boolU q cut]) rfl ?_
  obtain ⟨h1, h2, h3, h4⟩ := right_facts hr
  have hrf := reffrom_call p l hr 0 h2
  rw [refAns_wq hr h2] at hrf
  have hq := wq_ok hr h2
  unfold rPlaces
  have hok0 : POK l (addP l [] 0) := by
    obtain ⟨k1, k2⟩ := addP_ok hr h2 (ps := []) List.nodup_nil (by simp)
    exact ⟨k1, k2⟩
  have had : addP l [] 0 = if (wq l 0).1 < 0 then [] else [(wq l 0).1.toNat] := by unfold addP; simp
  generalize (wq l 0).2.2 = sn at *
  generalize (wq l 0).2.1 = t at *
  generalize (wq l 0).1 = to at *
  by_cases h0 : to < 0
  · have d0 : decide (0 ≤ to) = false := decide_eq_false (by omega)
    rw [if_pos h0] at had
    rw [had] at hok0 ⊢
    have hok := hok0
    repeat' (first | apply Wp.seq | apply Wp.skip | apply Wp.block | (apply Wp.op0; ((simp [M2.keep]) <;> rfl)) | ((first | (apply Wp.pickT; (exact rfl); (first | exact rfl | assumption)) | (apply Wp.pickF; (exact rfl); (first | exact rfl | assumption))); ((simp) <;> exact rfl)) | ((first | apply Wp.op | apply Wp.opN); (apply Evt.all; intro; (simp [insL]) <;> (try simp (disch := omega) only [wrap_id]) <;> first | exact ⟨rfl, rfl⟩ | exact rfl)) | (apply Wp.call; exact hrf _) | (first | (apply Wp.ung; (exact rfl); (first | exact rfl | assumption)) | (apply Wp.opSt; (exact rfl); (first | exact rfl | assumption)) | (apply Wp.opSf; (exact rfl); (first | exact rfl | assumption))) | (apply Wp.opS0; (exact rfl)) | (first | (apply Wp.condT; (exact rfl); (first | exact rfl | assumption)) | (apply Wp.condF; (exact rfl); (first | exact rfl | assumption))) | ((first | apply Wp.grdT | apply Wp.grdF | apply Wp.cond); (exact rfl); (intro); rotate_left 1; (intro); rotate_right 1))
    refine (show Wp T (.loop c_joineryref10_Places_L1) (p1S p l (boolU q cut) [.box [i64 to, refT true t, i64 sn]] (0, [])) _ _ _ from (pl1_loop p l hr q cut [.box [i64 to, refT true t, i64 sn]] ⟨_, _, _, .inl rfl⟩ [] hok).imp (fun _ h => h.elim) (fun _ h => h.elim) ?_)
    rintro b s ⟨rfl, k, rfl⟩
    rw [if_pos rfl]
    repeat (first | apply Wp.seq | apply Wp.skip | apply Wp.block | (apply Wp.op0; ((simp [M2.keep]) <;> rfl)) | ((first | apply Wp.op | apply Wp.opN | (apply Wp.opG; exact rfl)); (apply Evt.all; intro; (simp []) <;> (try simp (disch := omega) only [wrap_id]) <;> first | exact ⟨rfl, rfl⟩ | exact rfl)) | (apply Wp.opS; exact rfl; decide) | (apply Wp.opS0; exact rfl))
    refine Wp.ret ?_
    simp [Res, resU, res1, c_joineryref10_Places, natU]
  · obtain ⟨N, rfl⟩ := Int.eq_ofNat_of_zero_le (Int.not_lt.1 h0)
    have d0 : decide (0 ≤ (N : Int)) = true := decide_eq_true (by omega)
    rw [if_neg h0, Int.toNat_natCast] at had
    rw [had] at hok0 ⊢
    have hok := hok0
    repeat' (first | apply Wp.seq | apply Wp.skip | apply Wp.block | (apply Wp.op0; ((simp [M2.keep]) <;> rfl)) | ((first | (apply Wp.pickT; (exact rfl); (first | exact rfl | assumption)) | (apply Wp.pickF; (exact rfl); (first | exact rfl | assumption))); ((simp) <;> exact rfl)) | ((first | apply Wp.op | apply Wp.opN); (apply Evt.all; intro; (simp [insL]) <;> (try simp (disch := omega) only [wrap_id]) <;> first | exact ⟨rfl, rfl⟩ | exact rfl)) | (apply Wp.call; exact hrf _) | (first | (apply Wp.ung; (exact rfl); (first | exact rfl | assumption)) | (apply Wp.opSt; (exact rfl); (first | exact rfl | assumption)) | (apply Wp.opSf; (exact rfl); (first | exact rfl | assumption))) | (apply Wp.opS0; (exact rfl)) | (first | (apply Wp.condT; (exact rfl); (first | exact rfl | assumption)) | (apply Wp.condF; (exact rfl); (first | exact rfl | assumption))) | ((first | apply Wp.grdT | apply Wp.grdF | apply Wp.cond); (exact rfl); (intro); rotate_left 1; (intro); rotate_right 1))
    refine (show Wp T (.loop c_joineryref10_Places_L1) (p1S p l (boolU q cut) [.box [i64 (N : Int), refT true t, i64 sn], .row 3 1 false [[i64 N]]] (0, [N])) _ _ _ from (pl1_loop p l hr q cut [.box [i64 (N : Int), refT true t, i64 sn], .row 3 1 false [[i64 N]]] ⟨_, _, _, .inr ⟨_, rfl⟩⟩ [N] hok).imp (fun _ h => h.elim) (fun _ h => h.elim) ?_)
    rintro b s ⟨rfl, k, rfl⟩
    rw [if_pos rfl]
    repeat (first | apply Wp.seq | apply Wp.skip | apply Wp.block | (apply Wp.op0; ((simp [M2.keep]) <;> rfl)) | ((first | apply Wp.op | apply Wp.opN | (apply Wp.opG; exact rfl)); (apply Evt.all; intro; (simp []) <;> (try simp (disch := omega) only [wrap_id]) <;> first | exact ⟨rfl, rfl⟩ | exact rfl)) | (apply Wp.opS; exact rfl; decide) | (apply Wp.opS0; exact rfl))
    refine Wp.ret ?_
    simp [Res, resU, res1, c_joineryref10_Places, natU]
end Go.Proofs.YtapibckmdpdljaaDoor.M2
