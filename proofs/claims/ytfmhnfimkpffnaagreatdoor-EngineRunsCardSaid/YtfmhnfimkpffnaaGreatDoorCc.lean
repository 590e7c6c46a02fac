/- What listed variables hold, as M2's tables. -/
import Derived.Orders
import Derived.Test.YtfmhnfimkpffnaaGreatDoorCb
import Derived.LoopN
import GoSem.ClaimChange
import Derived.Handed
import Derived.Carry
import Derived.ProofKit
import Derived.Test.YtfmhnfimkpffnaaGreatDoorCa
import Derived.LaidMore
set_option linter.unusedSimpArgs false
set_option linter.unusedVariables false
set_option linter.unusedSectionVars false
namespace Go.Proofs.YtfmhnfimkpffnaaGreatDoor.M2
open Go
section
variable {E : En} {call : Nat → List U → List Ob → Option (U × List Ob)}
structure St (E : En) (n : Nat) (g : G) (s : S) (a : Act) : Prop where
  sr : SR E g s.st
  env : EnvR E g s.env a
  glob : GlobOK E g
  size : a.tmps.size = n
  df : a.defers = []
theorem put_env {g : G} {e : Env} {a : Act} {n : Nat} {dst : Option Tmp} {u : U} {v : Value} (he : EnvR E g e a) (hn : a.tmps.size = n) (hd : dstOK n dst = true) (hv : VR E g u v) : EnvR E g (put e dst u) (a.put dst v) := by
  cases dst with
  | none => exact he
  | some d =>
    simp only [dstOK, decide_eq_true_eq] at hd
    intro i
    simp only [put, M2.get, Act.put]
    by_cases hi : d = i
    · subst hi
      rw [if_pos rfl]
      have : (a.tmps.setIfInBounds d v).getD d undef = v := by simp [Array.getD, hn, hd]
      rw [this]
      exact hv
    · rw [if_neg hi]
      have : (a.tmps.setIfInBounds d v).getD i undef = a.tmps.getD i undef := by
        simp [Array.getD_eq_getD_getElem?, Array.getElem?_setIfInBounds_ne hi]
      rw [this]
      exact he i
theorem St.next {n : Nat} {g g' : G} {s : S} {a : Act} {dst : Option Tmp} {u : U} {v : Value} {st' : List Ob} (h : St E n g s a) (hd : dstOK n dst = true) (hs : Step g s.st g' st') (hS : SR E g' st') (hv : VR E g' u v) :
    St E n g' ⟨put s.env dst u, st'⟩ (a.put dst v) := by
  refine ⟨hS, put_env (h.env.ext hs.toExt) h.size hd hv, h.glob.ext hs.toExt, ?_, ?_⟩
  · cases dst <;> simp [Act.put, h.size]
  · cases dst <;> simp [Act.put, h.df]
theorem undef_tup {g : G} : VR E g (.tup []) undef := by simp only [VR, undef]; exact ⟨#[], rfl, by simp [VRs]⟩
theorem yielded_ok {n : Nat} {g : G} {s : S} {a : Act} {ops : Array Oper} {j d : Nat} (h : St E n g s a) (hj : (ops.toList[j]?).bind (·.dst) = some d) (hd : d < n) :
    (∀ c, get s.env d = .bool c → yielded ops a.tmps j = some c) ∧ (get s.env d = .tup [] → yielded ops a.tmps j = none) := by
  rw [Array.getElem?_toList] at hj
  have hlt : d < a.tmps.size := by rw [h.size]; exact hd
  have hv := h.env d
  have e1 : a.tmps.getD d undef = a.tmps[d] := by simp [Array.getD, hlt]
  rw [e1] at hv
  unfold yielded
  rw [hj]
  simp only [Option.bind_some, Array.getElem?_eq_getElem hlt]
  constructor
  · intro c hc
    rw [hc] at hv
    simp only [VR] at hv
    rw [hv]
  · intro hc
    rw [hc] at hv
    simp only [VR] at hv
    obtain ⟨xs, hv, _⟩ := hv
    rw [hv]
theorem compO_inv {n : Nat} {ops : List Oper} {h : Hint} {o : Oper} {oo : O} (hc : compO E n ops h o = some oo) :
    comp E h o = some oo.op ∧ oo.dst = o.dst ∧ dstOK n o.dst = true ∧ ((o.guard = none ∧ oo.guard = none) ∨ ∃ j b d, o.guard = some (j, b) ∧ oo.guard = some (d, b) ∧ (ops[j]?).bind (·.dst) = some d ∧ d < n) := by
  unfold compO at hc
  simp only [Option.bind_eq_some_iff] at hc
  obtain ⟨op, h1, h2⟩ := hc
  by_cases hd : dstOK n o.dst = true
  · rw [if_pos hd] at h2
    cases hg : o.guard with
    | none =>
      rw [hg] at h2
      cases h2
      exact ⟨h1, rfl, hd, .inl ⟨rfl, rfl⟩⟩
    | some jb =>
      obtain ⟨j, b⟩ := jb
      rw [hg] at h2
      simp only at h2
      split at h2
      · rename_i d hj
        split at h2
        · rename_i hlt
          cases h2
          exact ⟨h1, rfl, hd, .inr ⟨j, b, d, rfl, rfl, hj, hlt⟩⟩
        · cases h2
      · cases h2
  · rw [if_neg hd] at h2
    cases h2
theorem evO_ok (hc : CallOK E call) {n : Nat} {ops : Array Oper} {Q : Exit → Act → World → Prop} {i : Nat} {K : Act → World → Prop} {a : Act} {g : G} {s s' : S} {nid : Nat} {o : Oper} {h : Hint} {oo : O}
    (hi : ops[i]? = some o) (hcomp : compO E n ops.toList h o = some oo) (hS : St E n g s a) (hev : evO call nid s oo = some s')
    (hK : ∀ g' a', Step g s.st g' s'.st → St E n g' s' a' → K a' g'.w) : wpOp E.P ops Q i K a g.w := by
  obtain ⟨h1, hdst, hd, hg⟩ := compO_inv hcomp
  unfold wpOp
  simp only [hi]
  have run : ∀ {u : U} {st' : List Ob}, ev1 call s.env s.st nid oo.op = some (u, st') → s' = ⟨put s.env oo.dst u, st'⟩ → o.wp E.P a g.w K Q := by
    rintro u st' he rfl
    refine ev1_ok hc h1 hS.glob hS.sr hS.env he ?_
    intro g' v hs hS' hv
    exact hK g' _ hs (by rw [hdst]; exact hS.next hd hs hS' hv)
  have skip : s' = ⟨put s.env oo.dst (.tup []), s.st⟩ → K (a.put o.dst undef) g.w := by
    rintro rfl
    exact hK g _ (Step.refl g _) (by rw [hdst]; exact hS.next hd (Step.refl g _) hS.sr undef_tup)
  unfold evO at hev
  rcases hg with ⟨hg, hgo⟩ | ⟨j, b, d, hg, hgo, hj, hlt⟩
  · rw [hgo] at hev
    simp only [Option.bind_eq_some_iff] at hev
    obtain ⟨⟨u, st'⟩, he, hev⟩ := hev
    cases hev
    have hw : Region.wanted o (yielded ops a.tmps) = true := by simp [Region.wanted, hg]
    rw [if_pos hw]
    exact .inl (run he rfl)
  · rw [hgo] at hev
    simp only at hev
    obtain ⟨y1, y2⟩ := yielded_ok hS hj hlt
    split at hev
    · rename_i c hcv
      have hy := y1 c hcv
      split at hev
      · rename_i hcb
        subst hcb
        simp only [Option.bind_eq_some_iff] at hev
        obtain ⟨⟨u, st'⟩, he, hev⟩ := hev
        cases hev
        rw [if_pos (by simp [Region.wanted, hg, hy])]
        exact .inl (run he rfl)
      · rename_i hcb
        cases hev
        rw [if_neg (by simp [Region.wanted, hg, hy, hcb])]
        exact skip rfl
    · rename_i hcv
      have hy := y2 hcv
      cases hev
      rw [if_neg (by simp [Region.wanted, hg, hy])]
      exact skip rfl
    · cases hev
theorem compOs_get {n : Nat} {ops : List Oper} {r : RH} : ∀ (l : List Oper) (k : Nat) (os : List O), compOs E n ops r k l = some os → os.length = l.length ∧ ∀ (i : Nat) (o : Oper), l[i]? = some o → ∃ oo, os[i]? = some oo ∧ compO E n ops (r.at (k + i)) o = some oo
  | [], k, os, h => by simp [compOs] at h; subst h; simp
  | o :: l, k, os, h => by
    simp only [compOs, Option.bind_eq_some_iff, Option.map_eq_some_iff] at h
    obtain ⟨oo, h1, os', h2, rfl⟩ := h
    obtain ⟨hl, hg⟩ := compOs_get l (k + 1) os' h2
    refine ⟨by simp [hl], fun i o' hi => ?_⟩
    cases i with
    | zero => simp at hi; subst hi; exact ⟨oo, by simp, by simpa using h1⟩
    | succ i =>
      simp at hi
      obtain ⟨x, hx, hx'⟩ := hg i o' hi
      exact ⟨x, by simpa using hx, by rw [show k + (i + 1) = k + 1 + i by omega]; exact hx'⟩
theorem evOs_ok (hc : CallOK E call) {n : Nat} {ops : Array Oper} {r : RH} {all : List O} (hall : compOs E n ops.toList r 0 ops.toList = some all) {Q : Exit → Act → World → Prop} :
    ∀ (m k : Nat) (a : Act) (g : G) (s s' : S), k + m = ops.size → St E n g s a → evOs call s (all.drop k) = some s' → (∀ g' a', Step g s.st g' s'.st → St E n g' s' a' → Q .normal a' g'.w) →
      wpOps E.P ops Q (List.range' k m) a g.w
  | 0, k, a, g, s, s', hk, hS, hev, hQ => by
    have hl := (compOs_get _ _ _ hall).1
    have : all.drop k = [] := List.drop_eq_nil_of_le (by rw [hl]; simp; omega)
    rw [this] at hev
    simp [evOs] at hev
    subst hev
    simp only [List.range'_zero, wpOps]
    exact hQ g a (Step.refl g _) hS
  | m + 1, k, a, g, s, s', hk, hS, hev, hQ => by
    obtain ⟨hl, hget⟩ := compOs_get _ _ _ hall
    have hlt : k < ops.size := by omega
    obtain ⟨oo, ho, hco⟩ := hget k ops[k] (by simp [hlt])
    have hlt2 := (List.getElem?_eq_some_iff.1 ho).1
    rw [List.drop_eq_getElem_cons hlt2] at hev
    have : all[k] = oo := by simpa [List.getElem?_eq_getElem hlt2] using ho
    rw [this] at hev
    simp only [evOs, Option.bind_eq_some_iff] at hev
    obtain ⟨s1, h1, h2⟩ := hev
    rw [List.range'_succ, wpOps_cons]
    refine evO_ok hc (Array.getElem?_eq_getElem hlt) hco hS h1 ?_
    intro g' a' hs hS'
    exact evOs_ok hc hall m (k + 1) a' g' s1 s' (by omega) hS' h2 (fun g'' a'' hs' hS'' => hQ g'' a'' (hs.trans hs') hS'')
theorem keep_env {g : G} {e : Env} {a : Act} (live : List Nat) (he : EnvR E g e a) : EnvR E g (keep live e) a := by
  intro i
  have : ∀ (l : List Nat), VR E g (get (l.map fun j => (j, get e j)) i) (a.tmps.getD i undef) := by
    intro l
    induction l with
    | nil => simp [M2.get, VR]
    | cons j l ih =>
      simp only [List.map_cons, M2.get]
      by_cases hj : j = i
      · rw [if_pos hj, hj]; exact he i
      · rw [if_neg hj]; exact ih
  exact this live
theorem St.keep {n : Nat} {g : G} {s : S} {a : Act} (live : List Nat) (h : St E n g s a) : St E n g ⟨M2.keep live s.env, s.st⟩ a := ⟨h.sr, keep_env live h.env, h.glob, h.size, h.df⟩
theorem region_ok (hc : CallOK E call) {n : Nat} {id : Nat} {ops : Array Oper} {r : RH} {all : List O} (hall : compOs E n ops.toList r 0 ops.toList = some all) {Q : Exit → Act → World → Prop} {a : Act} {g : G} {s s' : S}
    (hS : St E n g s a) (hev : evOs call s all = some s') (hQ : ∀ g' a', Step g s.st g' s'.st → St E n g' s' a' → Q .normal a' g'.w) : (Code.region id ops false).wp E.P Q a g.w := by
  refine wp_region ?_
  rw [List.range_eq_range']
  exact evOs_ok hc hall ops.size 0 a g s s' (by omega) hS (by simpa using hev) hQ
end
def Agree (T : List (Nat × Bool)) (st st2 : List Ob) : Prop := ∀ p ∈ T, st2[p.1]? = st[p.1]?
def app (ws : List (Nat × Ob)) (st : List Ob) : List Ob := ws.foldl (fun st p => st.set p.1 p.2) st
theorem app_cons (p : Nat × Ob) (ws : List (Nat × Ob)) (st : List Ob) : app (p :: ws) st = app ws (st.set p.1 p.2) := rfl
theorem app_append (ws vs : List (Nat × Ob)) (st : List Ob) : app (ws ++ vs) st = app vs (app ws st) := by simp [app, List.foldl_append]
theorem app_other {i : Nat} : ∀ {ws : List (Nat × Ob)} {st : List Ob}, (∀ p ∈ ws, p.1 ≠ i) → (app ws st)[i]? = st[i]?
  | [], st, _ => rfl
  | p :: ws, st, h => by
    rw [app_cons, app_other (fun q hq => h q (by simp [hq])), List.getElem?_set_ne (h p (by simp))]
theorem app_set_comm {i : Nat} {o : Ob} : ∀ {ws : List (Nat × Ob)} {st : List Ob}, (∀ p ∈ ws, p.1 ≠ i) → app ws (st.set i o) = (app ws st).set i o
  | [], st, _ => rfl
  | p :: ws, st, h => by
    rw [app_cons, app_cons, List.set_comm _ _ (Ne.symm (h p (by simp))), app_set_comm (fun q hq => h q (by simp [hq]))]
theorem app_comm : ∀ {vs ws : List (Nat × Ob)} {st : List Ob}, (∀ p ∈ ws, ∀ q ∈ vs, p.1 ≠ q.1) → app ws (app vs st) = app vs (app ws st)
  | [], ws, st, _ => rfl
  | q :: vs, ws, st, h => by
    rw [app_cons, app_cons, app_comm (fun p hp r hr => h p hp r (by simp [hr])), app_set_comm (fun p hp => h p hp q (by simp))]
section
variable {call : Nat → List U → List Ob → Option (U × List Ob)} {pf : Nat → Bool}
theorem uses_ev {e e2 : Env} {a : A} (h : ∀ n ∈ a.uses, get e2 n = get e n) : a.ev e2 = a.ev e := by
  cases a with
  | t n => exact h n (by simp [A.uses])
  | k u => rfl
theorem uses_evs {e e2 : Env} {as : List A} (h : ∀ n ∈ as.flatMap A.uses, get e2 n = get e n) : as.map (·.ev e2) = as.map (·.ev e) :=
  List.map_congr_left fun a ha => uses_ev fun n hn => h n (List.mem_flatMap.2 ⟨a, ha, hn⟩)
theorem uses_opt {e e2 : Env} {d : Int} {a : Option A} (h : ∀ n ∈ oUses a, get e2 n = get e n) : opt e2 d a = opt e d a := by
  cases a with
  | none => rfl
  | some a => simp only [opt]; rw [uses_ev h]
theorem uses_fillC {e e2 : Env} : ∀ {ps : List (Nat × Nat × A)} {cs : List U}, (∀ n ∈ ps.flatMap (fun p => p.2.2.uses), get e2 n = get e n) → fillC e2 ps cs = fillC e ps cs
  | [], cs, _ => rfl
  | (off, n, x) :: ps, cs, h => by
    simp only [fillC]
    rw [uses_ev (fun n hn => h n (by simp [hn]))]
    have ih : ∀ cs, fillC e2 ps cs = fillC e ps cs := fun cs => uses_fillC (fun n hn => h n (by simp only [List.flatMap_cons, List.mem_append]; exact .inr hn))
    simp only [ih]
theorem uses_fillR {e e2 : Env} {es : Nat} : ∀ {ps : List (Nat × A)} {xs : List (List U)}, (∀ n ∈ ps.flatMap (fun p => p.2.uses), get e2 n = get e n) → fillR e2 es ps xs = fillR e es ps xs
  | [], cs, _ => rfl
  | (i, x) :: ps, cs, h => by
    simp only [fillR]
    rw [uses_ev (fun n hn => h n (by simp [hn]))]
    have ih : ∀ cs, fillR e2 es ps cs = fillR e es ps cs := fun cs => uses_fillR (fun n hn => h n (by simp only [List.flatMap_cons, List.mem_append]; exact .inr hn))
    simp only [ih]
theorem uses_plain {e e2 : Env} : ∀ {ps : List (Nat × A)}, (∀ n ∈ ps.flatMap (fun p => p.2.uses), get e2 n = get e n) → plainAs e2 (ps.map (·.2)) = plainAs e (ps.map (·.2))
  | [], _ => rfl
  | (i, x) :: ps, h => by
    have ih := uses_plain (e := e) (e2 := e2) (ps := ps) (fun n hn => h n (by simp only [List.flatMap_cons, List.mem_append]; exact .inr hn))
    unfold plainAs at ih ⊢
    simp only [List.map_cons, List.all_cons, ih]
    rw [uses_ev (e := e) (e2 := e2) (fun n hn => h n (by simp [hn]))]
theorem ev1_congr {e e2 : Env} {st : List Ob} {nid : Nat} {i : I} (h : ∀ n ∈ i.uses, get e2 n = get e n) : ev1 call e2 st nid i = ev1 call e st nid i ∧ touch pf e2 st nid i = touch pf e st nid i := by
  have one : ∀ {a : A}, (∀ n ∈ a.uses, n ∈ i.uses) → a.ev e2 = a.ev e := fun ha => uses_ev fun n hn => h n (ha n hn)
  have lst : ∀ {as : List A}, (∀ n ∈ as.flatMap A.uses, n ∈ i.uses) → as.map (·.ev e2) = as.map (·.ev e) := fun ha => uses_evs fun n hn => h n (ha n hn)
  have opo : ∀ {d : Int} {a : Option A}, (∀ n ∈ oUses a, n ∈ i.uses) → opt e2 d a = opt e d a := fun ha => uses_opt fun n hn => h n (ha n hn)
  cases i <;> simp only [I.uses, List.mem_append] at one lst opo h
  case mov x => simp only [ev1, touch, one (a := x) (fun n hn => hn)]; trivial
  case ownnil => exact ⟨rfl, rfl⟩
  case pick a b c => simp only [ev1, touch, one (a := a) (fun n hn => by simp [hn]), one (a := b) (fun n hn => by simp [hn]), one (a := c) (fun n hn => by simp [hn])]; trivial
  case alloc => exact ⟨rfl, rfl⟩
  case allocOwn => exact ⟨rfl, rfl⟩
  case box x => simp only [ev1, touch, one (a := x) (fun n hn => hn)]; trivial
  case build z ps => simp only [ev1, touch, uses_fillC (e := e) (e2 := e2) h]; trivial
  case lit tag es keep z n ps =>
    have hp : plainAs e2 (ps.map (·.2)) = plainAs e (ps.map (·.2)) := uses_plain h
    simp only [ev1, touch, uses_fillR (e := e) (e2 := e2) h, hp]; trivial
  case load g n x => simp only [ev1, touch, one (a := x) (fun n hn => hn)]; trivial
  case store n x y => simp only [ev1, touch, one (a := x) (fun n hn => by simp [hn]), one (a := y) (fun n hn => by simp [hn])]; trivial
  case bin op x y => simp only [ev1, touch, one (a := x) (fun n hn => by simp [hn]), one (a := y) (fun n hn => by simp [hn])]; trivial
  case eq neg s x y => simp only [ev1, touch, one (a := x) (fun n hn => by simp [hn]), one (a := y) (fun n hn => by simp [hn])]; trivial
  case un op x => simp only [ev1, touch, one (a := x) (fun n hn => hn)]; trivial
  case convI k x => simp only [ev1, touch, one (a := x) (fun n hn => hn)]; trivial
  case convS x => simp only [ev1, touch, one (a := x) (fun n hn => hn)]; trivial
  case toStr x => simp only [ev1, touch, one (a := x) (fun n hn => hn)]; trivial
  case toBytes t x => simp only [ev1, touch, one (a := x) (fun n hn => hn)]; trivial
  case iface t x => simp only [ev1, touch, one (a := x) (fun n hn => hn)]; trivial
  case mkfn f as => simp only [ev1, touch, lst («as» := as) (fun n hn => hn)]; trivial
  case mkmap => exact ⟨rfl, rfl⟩
  case lookup ok s z x y => simp only [ev1, touch, one (a := x) (fun n hn => by simp [hn]), one (a := y) (fun n hn => by simp [hn])]; trivial
  case mapset s x y z => simp only [ev1, touch, one (a := x) (fun n hn => by simp [hn]), one (a := y) (fun n hn => by simp [hn]), one (a := z) (fun n hn => by simp [hn])]; trivial
  case mkslice tag es b keep z x => simp only [ev1, touch, one (a := x) (fun n hn => hn)]; trivial
  case slice es x lo hi mx => simp only [ev1, touch, one (a := x) (fun n hn => by simp [hn]), opo (a := lo) (fun n hn => by simp [hn]), opo (a := hi) (fun n hn => by simp [hn]), opo (a := mx) (fun n hn => by simp [hn])]; trivial
  case sliceS x lo hi => simp only [ev1, touch, one (a := x) (fun n hn => by simp [hn]), opo (a := lo) (fun n hn => by simp [hn]), opo (a := hi) (fun n hn => by simp [hn])]; trivial
  case sliceA len es x lo hi => simp only [ev1, touch, one (a := x) (fun n hn => by simp [hn]), opo (a := lo) (fun n hn => by simp [hn]), opo (a := hi) (fun n hn => by simp [hn])]; trivial
  case faddr off x => simp only [ev1, touch, one (a := x) (fun n hn => hn)]; trivial
  case fld g off n x => simp only [ev1, touch, one (a := x) (fun n hn => hn)]; trivial
  case iaddr es x y => simp only [ev1, touch, one (a := x) (fun n hn => by simp [hn]), one (a := y) (fun n hn => by simp [hn])]; trivial
  case iaddrA len es x y => simp only [ev1, touch, one (a := x) (fun n hn => by simp [hn]), one (a := y) (fun n hn => by simp [hn])]; trivial
  case idxA g len es x y => simp only [ev1, touch, one (a := x) (fun n hn => by simp [hn]), one (a := y) (fun n hn => by simp [hn])]; trivial
  case idxS x y => simp only [ev1, touch, one (a := x) (fun n hn => by simp [hn]), one (a := y) (fun n hn => by simp [hn])]; trivial
  case assert t ok z x => simp only [ev1, touch, one (a := x) (fun n hn => hn)]; trivial
  case extract x i => simp only [ev1, touch, one (a := x) (fun n hn => hn)]; trivial
  case len k x => simp only [ev1, touch, one (a := x) (fun n hn => hn)]; trivial
  case lenA n => exact ⟨rfl, rfl⟩
  case append tag es b keep x y => simp only [ev1, touch, one (a := x) (fun n hn => by simp [hn]), one (a := y) (fun n hn => by simp [hn])]; trivial
  case appendZ t es b k z x y => simp only [ev1, touch, one (a := x) (fun n hn => by simp [hn]), one (a := y) (fun n hn => by simp [hn])]; trivial
  case storeOwn n os x y => simp only [ev1, touch, one (a := x) (fun n hn => by simp [hn]), one (a := y) (fun n hn => by simp [hn])]; trivial
  case copy es x y => simp only [ev1, touch, one (a := x) (fun n hn => by simp [hn]), one (a := y) (fun n hn => by simp [hn])]; trivial
  case mm mx as => simp only [ev1, touch, lst («as» := as) (fun n hn => hn)]; trivial
  case call f as => simp only [ev1, touch, lst («as» := as) (fun n hn => hn)]; trivial
  case callv f as => simp only [ev1, touch, one (a := f) (fun n hn => by simp [hn]), lst («as» := as) (fun n hn => .inr hn)]; trivial
  case range x => simp only [ev1, touch, one (a := x) (fun n hn => hn)]; trivial
  case next x => simp only [ev1, touch, one (a := x) (fun n hn => hn)]; trivial
  case nilck x => simp only [ev1, touch, one (a := x) (fun n hn => hn)]; trivial
end
section
variable {call : Nat → List U → List Ob → Option (U × List Ob)} {pf : Nat → Bool} {e : Env} {st : List Ob} {nid : Nat} {i : I} {T : List (Nat × Bool)}
def Loc (pf : Nat → Bool) (call : Nat → List U → List Ob → Option (U × List Ob)) (e : Env) (st : List Ob) (nid : Nat) (i : I) (T : List (Nat × Bool)) : Prop :=
  (∀ st2, Agree T st st2 → touch pf e st2 nid i = some T) ∧
  ∀ u st', ev1 call e st nid i = some (u, st') → ∃ ws : List (Nat × Ob), (∀ p ∈ ws, (p.1, true) ∈ T) ∧ st' = app ws st ∧ ∀ st2, Agree T st st2 → ev1 call e st2 nid i = some (u, app ws st2)
theorem loc_pure (r : Option U) (h : ∀ st, ev1 call e st nid i = r.map fun u => (u, st)) (ht : ∀ st2, Agree T st st2 → touch pf e st2 nid i = some T) : Loc pf call e st nid i T := by
  refine ⟨ht, fun u st' he => ?_⟩
  rw [h] at he
  cases r with
  | none => cases he
  | some r => cases he; exact ⟨[], by simp, rfl, fun st2 _ => by rw [h]; rfl⟩
theorem loc_read {id : Nat} {b : Bool} (hT : (id, b) ∈ T) (r : Option U) (h : ∀ st2 : List Ob, st2[id]? = st[id]? → ev1 call e st2 nid i = r.map fun u => (u, st2)) (ht : ∀ st2 : List Ob, st2[id]? = st[id]? → touch pf e st2 nid i = some T) : Loc pf call e st nid i T := by
  refine ⟨fun st2 ha => ht st2 (ha _ hT), fun u st' he => ?_⟩
  rw [h st rfl] at he
  cases r with
  | none => cases he
  | some r => cases he; exact ⟨[], by simp, rfl, fun st2 ha => by rw [h st2 (ha _ hT)]; rfl⟩
theorem loc_write {id : Nat} (hT : (id, true) ∈ T) (r : Option (U × Ob)) (h : ∀ st2 : List Ob, st2[id]? = st[id]? → ev1 call e st2 nid i = r.map fun p => (p.1, st2.set id p.2)) (ht : ∀ st2 : List Ob, st2[id]? = st[id]? → touch pf e st2 nid i = some T) : Loc pf call e st nid i T := by
  refine ⟨fun st2 ha => ht st2 (ha _ hT), fun u st' he => ?_⟩
  rw [h st rfl] at he
  cases r with
  | none => cases he
  | some r => cases he; exact ⟨[(id, r.2)], by simp [hT], rfl, fun st2 ha => by rw [h st2 (ha _ hT)]; rfl⟩
theorem touchN_inv {st : List Ob} {nid : Nat} (h : touchN st nid = some T) : st[nid]? = some .hole ∧ T = [(nid, true)] := by
  unfold touchN at h
  split at h
  · rename_i hh; cases h; exact ⟨hh, rfl⟩
  · cases h
theorem touchN_hole {st : List Ob} {nid : Nat} (h : st[nid]? = some .hole) : touchN st nid = some [(nid, true)] := by simp [touchN, h]
theorem newOb_hole {st : List Ob} {nid : Nat} (h : st[nid]? = some .hole) (o : Ob) : newOb st nid o = some (st.set nid o) := by simp [newOb, h]
theorem loc_new (hN : touchN st nid = some T) (r : Option (U × Ob)) (h : ∀ st2 : List Ob, st2[nid]? = some .hole → ev1 call e st2 nid i = r.map fun p => (p.1, st2.set nid p.2)) (ht : ∀ st2 : List Ob, touch pf e st2 nid i = touchN st2 nid) : Loc pf call e st nid i T := by
  obtain ⟨h1, rfl⟩ := touchN_inv hN
  exact loc_write (id := nid) (by simp) r (fun st2 h2 => h st2 (by rw [h2, h1])) (fun st2 h2 => by rw [ht, touchN_hole (by rw [h2, h1])])
theorem accM_const {α : Type} {f : List Ob → α → Option (α × List Ob)} : ∀ (xs : List α), (∀ x ∈ xs, ∃ r : Option α, ∀ st, f st x = r.map fun u => (u, st)) → ∃ r : Option (List α), ∀ st, accM f st xs = r.map fun u => (u, st)
  | [], _ => ⟨some [], fun st => rfl⟩
  | x :: xs, h => by
    obtain ⟨r, hr⟩ := h x (by simp)
    obtain ⟨rs, hrs⟩ := accM_const xs (fun y hy => h y (by simp [hy]))
    cases r with
    | none => exact ⟨none, fun st => by simp [accM, hr]⟩
    | some y =>
      cases rs with
      | none => exact ⟨none, fun st => by simp [accM, hr, hrs]⟩
      | some ys => exact ⟨some (y :: ys), fun st => by simp [accM, hr, hrs]⟩
theorem allM_const {α β : Type} {f : List Ob → α → Option β} : ∀ (xs : List α), (∀ x ∈ xs, ∀ st st2 : List Ob, f st2 x = f st x) → ∀ st st2 : List Ob, allM (f st2) xs = allM (f st) xs
  | [], _, _, _ => rfl
  | x :: xs, h, st, st2 => by
    simp only [allM, h x (by simp) st st2, allM_const xs (fun y hy => h y (by simp [hy])) st st2]
theorem frz_flat : ∀ (d : Nat) (u : U), flatU d u = true → ∃ r : Option U, ∀ st, frz d st u = r.map fun u => (u, st)
  | 0, u, h => by simp [flatU] at h
  | d + 1, u, h => by
    cases u <;> simp only [flatU, Bool.false_eq_true] at h
    case bool => exact ⟨some _, fun st => rfl⟩
    case int => exact ⟨some _, fun st => rfl⟩
    case str => exact ⟨some _, fun st => rfl⟩
    case nilI => exact ⟨some _, fun st => rfl⟩
    case nilF => exact ⟨some _, fun st => rfl⟩
    case nils => exact ⟨some _, fun st => rfl⟩
    case iface t u =>
      obtain ⟨r, hr⟩ := frz_flat d u h
      cases r with
      | none => exact ⟨none, fun st => by simp [frz, hr]⟩
      | some r => exact ⟨some _, fun st => by simp [frz, hr]; rfl⟩
    case agg cs =>
      rw [List.all_eq_true] at h
      obtain ⟨r, hr⟩ := accM_const cs (fun x hx => frz_flat d x (h x hx))
      cases r with
      | none => exact ⟨none, fun st => by simp [frz, hr]⟩
      | some r => exact ⟨some _, fun st => by simp [frz, hr]; rfl⟩
    case sl p xs =>
      cases p with
      | true => exact ⟨some _, fun st => rfl⟩
      | false => exact ⟨none, fun st => rfl⟩
    case fn f cs =>
      cases cs with
      | nil => exact ⟨some _, fun st => rfl⟩
      | cons _ _ => simp [flatU] at h
theorem brw_flat : ∀ (d : Nat) (u : U), flatU d u = true → ∀ st st2, brw d st2 u = brw d st u
  | 0, u, h, _, _ => by simp [flatU] at h
  | d + 1, u, h, st, st2 => by
    cases u <;> simp only [flatU, Bool.false_eq_true] at h <;> (try rfl)
    case fn f cs =>
      cases cs with
      | nil => rfl
      | cons _ _ => simp at h
    case iface t u => simp only [brw, brw_flat d u h st st2]
    case agg cs =>
      rw [List.all_eq_true] at h
      simp only [brw]
      rw [allM_const (f := brw d) cs (fun x hx a b => brw_flat d x (h x hx) a b) st st2]
theorem flat_mono : ∀ (d : Nat) (u : U), flatU d u = true → flatU (d + 1) u = true
  | 0, u, h => by simp [flatU] at h
  | d + 1, u, h => by
    cases u <;> simp only [flatU, Bool.false_eq_true] at h ⊢ <;> (try rfl)
    case iface t u => exact flat_mono d u h
    case agg cs =>
      rw [List.all_eq_true] at h ⊢
      exact fun x hx => flat_mono d x (h x hx)
    case fn f cs =>
      cases cs with
      | nil => rfl
      | cons _ _ => simp at h
theorem flat_le {d d' : Nat} {u : U} (h : flatU d u = true) (hd : d ≤ d') : flatU d' u = true := by
  induction hd with
  | refl => exact h
  | step _ ih => exact flat_mono _ _ ih
end
section
variable {call : Nat → List U → List Ob → Option (U × List Ob)} {pf : Nat → Bool} {e : Env} {st : List Ob} {nid : Nat} {i : I} {T : List (Nat × Bool)}
theorem touchE_loc {u : U} (h : touchE st u = some T) : ∀ st2, Agree T st st2 → touchE st2 u = some T ∧ elems st2 u = elems st u := by
  intro st2 ha
  cases u
  case own id n =>
    simp only [touchE] at h ⊢
    split at h
    · rename_i hid
      cases h
      have := ha (id, false) (by simp)
      simp only at this
      simp [this, hid, elems, rowAt]
    · rename_i hid
      cases h
      have := ha (id, false) (by simp)
      simp only at this
      simp [this, hid, elems, rowAt]
    · cases h
  all_goals exact ⟨h, rfl⟩
theorem touchA_loc : ∀ {us : List U} {T : List (Nat × Bool)}, touchA st us = some T → ∀ st2, Agree T st st2 → touchA st2 us = some T ∧ allM (brwA frzD st2) us = allM (brwA frzD st) us
  | [], T, h, st2, ha => ⟨h, rfl⟩
  | u :: us, T, h, st2, ha => by
    have plain : (if plainU u then touchA st us else none) = some T → touchA st2 (u :: us) = (if plainU u then touchA st2 us else none) → touchA st2 (u :: us) = some T ∧ allM (brwA frzD st2) (u :: us) = allM (brwA frzD st) (u :: us) := by
      intro h h2
      split at h
      · rename_i hp
        obtain ⟨h3, h4⟩ := touchA_loc h st2 ha
        refine ⟨by rw [h2, if_pos hp, h3], ?_⟩
        have hfl := brw_flat frzD u (flat_le hp (by decide)) st st2
        have hfa : brwA frzD st2 u = brwA frzD st u := by
          cases u <;> first | exact hfl | skip
          simp [plainU, flatU] at hp
        simp only [allM, h4, hfa]
      · cases h
    cases u
    case own id n =>
      simp only [touchA, Option.bind_eq_some_iff, Option.map_eq_some_iff] at h
      obtain ⟨l, h1, l2, h2, rfl⟩ := h
      obtain ⟨h3, h4⟩ := touchE_loc h1 st2 (fun p hp => ha p (by simp [hp]))
      obtain ⟨h5, h6⟩ := touchA_loc h2 st2 (fun p hp => ha p (by simp [hp]))
      refine ⟨by simp [touchA, h3, h5], ?_⟩
      have : brw frzD st2 (.own id n) = brw frzD st (.own id n) := by
        simp only [touchE] at h1
        split at h1
        · rename_i hid
          cases h1
          have := ha (id, false) (by simp)
          simp only at this
          simp [brw, frzD, this, hid]
        · rename_i hid
          cases h1
          have := ha (id, false) (by simp)
          simp only at this
          simp [brw, frzD, this, hid]
        · cases h1
      have this2 : brwA frzD st2 (.own id n) = brwA frzD st (.own id n) := this
      simp only [allM, h6, this2]
    case bp id off =>
      simp only [touchA] at h
      split at h
      · rename_i cs hid
        split at h
        · rename_i hpl
          obtain ⟨T', h1, rfl⟩ := Option.map_eq_some_iff.1 h
          have hst := ha (id, false) (by simp)
          simp only at hst
          obtain ⟨h3, h4⟩ := touchA_loc h1 st2 (fun p hp => ha p (by simp [hp]))
          have hid2 : st2[id]? = some (.box cs) := by rw [hst, hid]
          refine ⟨by simp [touchA, hid2, hpl, h3], ?_⟩
          have hb : brwA frzD st2 (.bp id off) = brwA frzD st (.bp id off) := by
            simp only [brwA, hid, hid2]
            rw [List.all_eq_true] at hpl
            rw [allM_const (f := brw frzD) (cs.drop off) (fun x hx a b => brw_flat frzD x (flat_le (hpl x (List.mem_of_mem_drop hx)) (by decide)) a b) st st2]
          simp only [allM, h4, hb]
        · cases h
      · cases h
    case sl p xs =>
      simp only [touchA] at h
      obtain ⟨h3, h4⟩ := touchA_loc h st2 ha
      exact ⟨by simp [touchA, h3], by simp only [allM, h4]; rfl⟩
    all_goals exact plain h rfl
def PureC (pf : Nat → Bool) (call : Nat → List U → List Ob → Option (U × List Ob)) : Prop :=
  ∀ f, pf f = true → ∀ args st u st', call f args st = some (u, st') → st' = st ∧ ∀ st2, allM (brwA frzD st2) args = allM (brwA frzD st) args → call f args st2 = some (u, st2)
theorem cellsO_flat {u : U} {cs : List U} {d : Nat} (h : cellsO u = some cs) (hp : flatU (d + 1) u = true) : ∀ c ∈ cs, flatU (d + 1) c = true := by
  cases u <;> simp only [cellsO, Option.some.injEq, reduceCtorEq] at h <;> subst h
  case agg cs =>
    simp only [flatU, List.all_eq_true] at hp
    exact fun c hc => flat_mono _ _ (hp c hc)
  all_goals (intro c hc; simp only [List.mem_singleton] at hc; subst hc; exact hp)
theorem fillR_flat {e : Env} {es d : Nat} : ∀ {ps : List (Nat × A)} {xs ys : List (List U)}, fillR e es ps xs = some ys → (∀ x ∈ xs, ∀ c ∈ x, flatU (d + 1) c = true) → (∀ p ∈ ps, flatU (d + 1) (p.2.ev e) = true) → ∀ x ∈ ys, ∀ c ∈ x, flatU (d + 1) c = true
  | [], xs, ys, h, hx, _ => by simp [fillR] at h; subst h; exact hx
  | (i, x) :: ps, xs, ys, h, hx, hp => by
    simp only [fillR, Option.bind_eq_some_iff] at h
    obtain ⟨us, h1, h2⟩ := h
    split at h2
    · refine fillR_flat h2 (fun y hy => ?_) (fun p hp' => hp p (by simp [hp']))
      rcases List.mem_or_eq_of_mem_set hy with hy | rfl
      · exact hx y hy
      · exact cellsO_flat h1 (hp (i, x) (by simp))
    · cases h2
theorem rows_const {xs : List (List U)} {d : Nat} (h : ∀ x ∈ xs, ∀ c ∈ x, flatU d c = true) : ∃ r : Option (List (List U)), ∀ st, accM (accM (frz d)) st xs = r.map fun u => (u, st) :=
  accM_const xs fun x hx => accM_const x fun c hc => frz_flat d c (h x hx c hc)
theorem touchM_inv {st : List Ob} : ∀ {n nid : Nat} {T : List (Nat × Bool)}, touchM st nid n = some T → (∀ k, k < n → st[nid + k]? = some .hole) ∧ T = (List.range' nid n).map fun i => (i, true)
  | 0, nid, T, h => by simp [touchM] at h; subst h; simp
  | n + 1, nid, T, h => by
    simp only [touchM] at h
    split at h
    · rename_i t ht
      obtain ⟨h1, rfl⟩ := touchN_inv ht
      simp only [Option.map_eq_some_iff] at h
      obtain ⟨T', h2, rfl⟩ := h
      obtain ⟨h3, rfl⟩ := touchM_inv h2
      refine ⟨fun k hk => ?_, by simp [List.range'_succ]⟩
      cases k with
      | zero => exact h1
      | succ k => have := h3 k (by omega); rwa [show nid + 1 + k = nid + (k + 1) by omega] at this
    · cases h
theorem touchM_holes {st : List Ob} : ∀ {n nid : Nat}, (∀ k, k < n → st[nid + k]? = some .hole) → touchM st nid n = some ((List.range' nid n).map fun i => (i, true))
  | 0, nid, h => by simp [touchM]
  | n + 1, nid, h => by
    have h0 := touchN_hole (h 0 (by omega))
    rw [Nat.add_zero] at h0
    have ih := touchM_holes (st := st) (n := n) (nid := nid + 1) (fun k hk => by rw [show nid + 1 + k = nid + (k + 1) by omega]; exact h (k + 1) (by omega))
    simp only [touchM, h0, ih, Option.map_some, List.range'_succ, List.map_cons, List.singleton_append]
theorem laidOwn_run : ∀ (os : List (Nat × Nat × Nat × Bool)) (z : List U) (nid : Nat), ∃ z' ws, (∀ p ∈ ws, nid ≤ p.1 ∧ p.1 < nid + os.length) ∧ ∀ st2 : List Ob, (∀ k, k < os.length → st2[nid + k]? = some .hole) → laidOwn z st2 nid os = some (z', app ws st2, nid + os.length)
  | [], z, nid => ⟨z, [], by simp, fun st2 _ => rfl⟩
  | (i, tag, es, keep) :: os, z, nid => by
    obtain ⟨z', ws, h1, h2⟩ := laidOwn_run os (z.set i (.own nid 0)) (nid + 1)
    refine ⟨z', (nid, .row tag es keep []) :: ws, fun p hp => ?_, fun st2 hh => ?_⟩
    · rcases List.mem_cons.1 hp with rfl | hp
      · simp
      · have := h1 p hp; simp; omega
    · have h0 := hh 0 (by simp)
      rw [Nat.add_zero] at h0
      simp only [laidOwn, newOb_hole h0, Option.bind_some]
      rw [h2 _ (fun k hk => by
        rw [List.getElem?_set_ne (by omega), show nid + 1 + k = nid + (k + 1) by omega]
        exact hh (k + 1) (by simp; omega))]
      simp [app_cons]
      omega
theorem touchX_loc {st : List Ob} {u : U} {t : List (Nat × Bool)} (h : touchX st u = some t) : (∃ ys r, elems st u = some ys ∧ ∀ st : List Ob, accM (accM (frz frzD)) st ys = (r : Option (List (List U))).map fun z => (z, st)) ∧ ∀ st2, Agree t st st2 → touchX st2 u = some t ∧ elems st2 u = elems st u := by
  simp only [touchX, Option.bind_eq_some_iff] at h
  obtain ⟨t', h1, ys, h2, h3⟩ := h
  split at h3
  · rename_i hp
    cases h3
    obtain ⟨r, hr⟩ := rows_const (d := frzD) (xs := ys) (fun x hx c hc => by
      rw [List.all_eq_true] at hp
      have := hp x hx
      rw [List.all_eq_true] at this
      exact flat_le (this c hc) (by decide))
    refine ⟨⟨ys, r, h2, hr⟩, fun st2 ha => ?_⟩
    obtain ⟨h4, h5⟩ := touchE_loc h1 st2 ha
    refine ⟨?_, h5⟩
    simp only [touchX, h4, h5, h2, Option.bind_some]
    rw [if_pos hp]
  · cases h3
theorem appTo_loc {id n tag es by_ : Nat} {ys : List (List U)} {r : Option (List (List U))} (hr : ∀ st : List Ob, accM (accM (frz frzD)) st ys = r.map fun z => (z, st)) : ∀ o : Option Ob, ∃ q : Option (U × Ob), ∀ st2 : List Ob, st2[id]? = o → appTo st2 id n tag es by_ ys = q.map fun p => (p.1, st2.set id p.2) := by
  intro o
  have row : ∀ (tag' es' : Nat) (k : Bool) (xs zs : List (List U)), ∃ q : Option Ob, ∀ st2 : List Ob, st2[id]? = some (.row tag' es' k xs) → appRow st2 id n tag es by_ zs = q.map fun p => st2.set id p := by
    intro tag' es' k xs zs
    by_cases hc : xs.length = n ∧ tag' = tag ∧ es' = es ∧ (n + zs.length) * by_ ≤ 140737488355328
    · exact ⟨some (.row tag es k (xs ++ zs)), fun st2 h => by simp only [appRow, h]; rw [if_pos hc]; rfl⟩
    · exact ⟨none, fun st2 h => by simp only [appRow, h]; rw [if_neg hc]; rfl⟩
  cases o with
  | none => exact ⟨none, fun st2 h => by simp [appTo, h]⟩
  | some o =>
    cases o
    case row tag' es' k xs =>
      cases k with
      | true =>
        obtain ⟨q, hq⟩ := row tag' es' true xs ys
        refine ⟨q.map fun o => (.own id (n + ys.length), o), fun st2 h => ?_⟩
        simp only [appTo, h, hq st2 h]
        cases q <;> rfl
      | false =>
        cases r with
        | none => exact ⟨none, fun st2 h => by simp [appTo, h, hr]⟩
        | some zs =>
          obtain ⟨q, hq⟩ := row tag' es' false xs zs
          refine ⟨q.map fun o => (.own id (n + zs.length), o), fun st2 h => ?_⟩
          simp only [appTo, h, hr, Option.map_some, Option.bind_some, hq st2 h]
          cases q <;> rfl
    all_goals exact ⟨none, fun st2 h => by simp [appTo, h]⟩
set_option maxHeartbeats 1000000 in
theorem ev1_loc (hpc : PureC pf call) (ht : touch pf e st nid i = some T) : Loc pf call e st nid i T := by
  cases i
  case mov x => cases ht; exact loc_pure (some (x.ev e)) (fun st => rfl) (fun _ _ => rfl)
  case pick c a b =>
    cases ht
    cases hc : c.ev e
    case bool t => exact loc_pure (some (if t then a.ev e else b.ev e)) (fun st => by simp [ev1, hc]) (fun _ _ => rfl)
    all_goals exact loc_pure none (fun st => by simp [ev1, hc]) (fun _ _ => rfl)
  case bin op x y => cases ht; exact loc_pure (bin op (x.ev e) (y.ev e)) (fun st => by simp only [ev1]; cases bin op (x.ev e) (y.ev e) <;> rfl) (fun _ _ => rfl)
  case eq neg s x y => cases ht; exact loc_pure ((sameV s (x.ev e) (y.ev e)).map fun b => .bool (if neg then !b else b)) (fun st => by simp only [ev1]; cases sameV s (x.ev e) (y.ev e) <;> rfl) (fun _ _ => rfl)
  case un op x => cases ht; exact loc_pure (un op (x.ev e)) (fun st => by simp only [ev1]; cases un op (x.ev e) <;> rfl) (fun _ _ => rfl)
  case convI k x =>
    cases ht
    cases hc : x.ev e
    case int q n => exact loc_pure (some (.int k (k.wrap n))) (fun st => by simp [ev1, hc]) (fun _ _ => rfl)
    all_goals exact loc_pure none (fun st => by simp [ev1, hc]) (fun _ _ => rfl)
  case convS x =>
    cases ht
    cases hc : x.ev e
    case str s => exact loc_pure (some (.str s)) (fun st => by simp [ev1, hc]) (fun _ _ => rfl)
    all_goals exact loc_pure none (fun st => by simp [ev1, hc]) (fun _ _ => rfl)
  case iface t x => cases ht; exact loc_pure (some (.iface t (x.ev e))) (fun st => rfl) (fun _ _ => rfl)
  case mkfn f caps => cases ht; exact loc_pure (some (.fn f (caps.map (·.ev e)))) (fun st => rfl) (fun _ _ => rfl)
  case build z ps => cases ht; exact loc_pure ((fillC e ps z).map .agg) (fun st => by simp only [ev1]; cases fillC e ps z <;> rfl) (fun _ _ => rfl)
  case faddr off x =>
    cases ht
    cases hc : x.ev e
    case bp id o => exact loc_pure (some (.bp id (o + off))) (fun st => by simp [ev1, hc]) (fun _ _ => rfl)
    case rp id n i o => exact loc_pure (some (.rp id n i (o + off))) (fun st => by simp [ev1, hc]) (fun _ _ => rfl)
    case fp cs => exact loc_pure (if off < cs.length then some (.fp (cs.drop off)) else none) (fun st => by simp only [ev1, hc]; split <;> rfl) (fun _ _ => rfl)
    all_goals exact loc_pure none (fun st => by simp [ev1, hc]) (fun _ _ => rfl)
  case fld agg off n x =>
    cases ht
    cases hc : x.ev e
    case agg cs =>
      exact loc_pure ((sub cs off n).bind fun cs => part agg cs) (fun st => by
        simp only [ev1, hc]
        cases sub cs off n with
        | none => rfl
        | some ds => simp only [Option.bind_some]; cases part agg ds <;> rfl) (fun _ _ => rfl)
    all_goals exact loc_pure none (fun st => by simp [ev1, hc]) (fun _ _ => rfl)
  case idxA agg len es x i =>
    cases ht
    cases hi : i.ev e
    case int q m =>
      cases hc : x.ev e
      case agg cs =>
        exact loc_pure ((idx m len).bind fun i => (sub cs (i * es) es).bind fun cs => part agg cs) (fun st => by
          simp only [ev1, hi, hc]
          cases idx m len with
          | none => rfl
          | some k =>
            simp only [Option.bind_some]
            cases sub cs (k * es) es with
            | none => rfl
            | some ds => simp only [Option.bind_some]; cases part agg ds <;> rfl) (fun _ _ => rfl)
      all_goals exact loc_pure none (fun st => by simp [ev1, hi, hc]) (fun _ _ => rfl)
    all_goals exact loc_pure none (fun st => by simp [ev1, hi]) (fun _ _ => rfl)
  case idxS x i =>
    cases ht
    cases hi : i.ev e
    case int q m =>
      cases hc : x.ev e
      case str s =>
        exact loc_pure ((idx m s.length).bind fun i => (s[i]?).map fun b => .int .u8 b.toNat) (fun st => by
          simp only [ev1, hi, hc]
          cases idx m s.length with
          | none => rfl
          | some k => simp only [Option.bind_some]; cases s[k]? <;> rfl) (fun _ _ => rfl)
      all_goals exact loc_pure none (fun st => by simp [ev1, hi, hc]) (fun _ _ => rfl)
    all_goals exact loc_pure none (fun st => by simp [ev1, hi]) (fun _ _ => rfl)
  case assert t ok z x =>
    cases ht
    cases hc : x.ev e
    case nilI => exact loc_pure (if ok then some (.tup [z, .bool false]) else none) (fun st => by simp only [ev1, hc]; split <;> rfl) (fun _ _ => rfl)
    case iface t' u => exact loc_pure (if t' = t then some (if ok then .tup [u, .bool true] else u) else if ok then some (.tup [z, .bool false]) else none) (fun st => by simp only [ev1, hc]; split <;> (try split) <;> rfl) (fun _ _ => rfl)
    all_goals exact loc_pure none (fun st => by simp [ev1, hc]) (fun _ _ => rfl)
  case extract x i =>
    cases ht
    cases hc : x.ev e
    case tup vs => exact loc_pure (vs[i]?) (fun st => by simp only [ev1, hc]; cases vs[i]? <;> rfl) (fun _ _ => rfl)
    all_goals exact loc_pure none (fun st => by simp [ev1, hc]) (fun _ _ => rfl)
  case lenA n => cases ht; exact loc_pure (some (.int .i64 n)) (fun st => rfl) (fun _ _ => rfl)
  case mm mx as => cases ht; exact loc_pure (mm mx (as.map (·.ev e))) (fun st => by simp only [ev1]; cases mm mx (as.map (·.ev e)) <;> rfl) (fun _ _ => rfl)
  case nilck x =>
    cases ht
    cases hc : x.ev e
    case bp id o => exact loc_pure (some (.bp id o)) (fun st => by simp [ev1, hc]) (fun _ _ => rfl)
    case rp id n i o => exact loc_pure (some (.rp id n i o)) (fun st => by simp [ev1, hc]) (fun _ _ => rfl)
    case fp cs => exact loc_pure (some (.fp cs)) (fun st => by simp [ev1, hc]) (fun _ _ => rfl)
    case fn f cs => exact loc_pure (some (.fn f cs)) (fun st => by simp [ev1, hc]) (fun _ _ => rfl)
    all_goals exact loc_pure none (fun st => by simp [ev1, hc]) (fun _ _ => rfl)
  case iaddrA len es x i =>
    cases ht
    cases hi : i.ev e
    case int q m =>
      cases hk : idx m len with
      | none => exact loc_pure none (fun st => by simp [ev1, hi, hk]) (fun _ _ => rfl)
      | some k =>
        cases hc : x.ev e
        case bp id o => exact loc_pure (some (.bp id (o + k * es))) (fun st => by simp [ev1, hi, hk, hc]) (fun _ _ => rfl)
        case rp id n j o => exact loc_pure (some (.rp id n j (o + k * es))) (fun st => by simp [ev1, hi, hk, hc]) (fun _ _ => rfl)
        case fp cs => exact loc_pure (if k * es < cs.length then some (.fp (cs.drop (k * es))) else none) (fun st => by simp only [ev1, hi, hk, hc, Option.bind_some]; split <;> rfl) (fun _ _ => rfl)
        all_goals exact loc_pure none (fun st => by simp [ev1, hi, hk, hc]) (fun _ _ => rfl)
    all_goals exact loc_pure none (fun st => by simp [ev1, hi]) (fun _ _ => rfl)
  case toBytes tag x =>
    cases ht
    cases hc : x.ev e
    case str s => exact loc_pure (some (.sl true (s.map fun b => [.int .u8 b.toNat]))) (fun st => by simp [ev1, hc]) (fun _ _ => rfl)
    all_goals exact loc_pure none (fun st => by simp [ev1, hc]) (fun _ _ => rfl)
  case sliceS x lo hi =>
    cases ht
    cases hc : x.ev e
    case str s =>
      exact loc_pure ((opt e 0 lo).bind fun lo => (opt e s.length hi).bind fun hi => (cut s lo hi).map .str) (fun st => by
        simp only [ev1, hc]
        cases opt e 0 lo with
        | none => rfl
        | some l =>
          simp only [Option.bind_some]
          cases opt e s.length hi with
          | none => rfl
          | some h => simp only [Option.bind_some]; cases cut s l h <;> rfl) (fun _ _ => rfl)
    all_goals exact loc_pure none (fun st => by simp [ev1, hc]) (fun _ _ => rfl)
  case sliceA len es x lo hi =>
    cases ht
    cases hc : x.ev e
    case bp id off =>
      exact loc_pure ((opt e 0 lo).bind fun lo => (opt e len hi).bind fun hi => if 0 ≤ lo ∧ lo ≤ hi ∧ hi ≤ len ∧ lo < len then some (.bs id (off + lo.toNat * es) (hi - lo).toNat es) else none) (fun st => by
        simp only [ev1, hc]
        cases opt e 0 lo with
        | none => rfl
        | some l =>
          simp only [Option.bind_some]
          cases opt e len hi with
          | none => rfl
          | some h => simp only [Option.bind_some]; split <;> rfl) (fun _ _ => rfl)
    all_goals exact loc_pure none (fun st => by simp [ev1, hc]) (fun _ _ => rfl)
  case ownnil tag es keep => exact loc_new ht (some (.own nid 0, .row tag es keep [])) (fun st2 h => by simp [ev1, newOb_hole h]) (fun _ => rfl)
  case alloc z => exact loc_new ht (some (.bp nid 0, .box z)) (fun st2 h => by simp [ev1, newOb_hole h]) (fun _ => rfl)
  case mkmap => exact loc_new ht (some (.mp nid, .map [])) (fun st2 h => by simp [ev1, newOb_hole h]) (fun _ => rfl)
  case box x => exact loc_new ht ((cellsO (x.ev e)).map fun cs => (.bp nid 0, .box cs)) (fun st2 h => by simp only [ev1]; cases cellsO (x.ev e) <;> simp [newOb_hole h]) (fun _ => rfl)
  case mkslice tag es by_ keep z n =>
    simp only [touch] at ht
    split at ht
    · rename_i hp
      have htt : ∀ st2 : List Ob, touch pf e st2 nid (.mkslice tag es by_ keep z n) = touchN st2 nid := fun st2 => by simp only [touch]; rw [if_pos hp]
      cases hn : n.ev e
      case int q m =>
        by_cases hb : 0 ≤ m ∧ m * by_ ≤ limit
        · cases keep with
          | true => exact loc_new ht (some (.own nid m.toNat, .row tag es true (List.replicate m.toNat z))) (fun st2 h => by simp only [ev1, hn]; rw [if_pos hb]; simp [newOb_hole h]) htt
          | false =>
            simp only [Bool.false_or, List.all_eq_true] at hp
            obtain ⟨r, hr⟩ := accM_const (f := frz frzD) z (fun x hx => frz_flat frzD x (flat_le (hp x hx) (by decide)))
            exact loc_new ht (r.map fun z => (.own nid m.toNat, .row tag es false (List.replicate m.toNat z))) (fun st2 h => by
              simp only [ev1, hn]
              rw [if_pos hb]
              simp only [Bool.false_eq_true, if_false, hr]
              cases r <;> simp [newOb_hole h]) htt
        · exact loc_new ht none (fun st2 h => by simp only [ev1, hn]; rw [if_neg hb]; rfl) htt
      all_goals exact loc_new ht none (fun st2 h => by simp [ev1, hn]) htt
    · cases ht
  case lit tag es keep z n ps =>
    simp only [touch] at ht
    split at ht
    · rename_i hp
      have htt : ∀ st2 : List Ob, touch pf e st2 nid (.lit tag es keep z n ps) = touchN st2 nid := fun st2 => by simp only [touch]; rw [if_pos hp]
      cases hf : fillR e es ps (List.replicate n z) with
      | none => exact loc_new ht none (fun st2 h => by simp [ev1, hf]) htt
      | some xs =>
        cases keep with
        | true => exact loc_new ht (some (.own nid n, .row tag es true xs)) (fun st2 h => by simp [ev1, hf, newOb_hole h]) htt
        | false =>
          simp only [Bool.false_or, Bool.and_eq_true, List.all_eq_true] at hp
          have hps : ∀ p ∈ ps, flatU (5 + 1) (p.2.ev e) = true := by
            have := hp.2
            unfold plainAs at this
            rw [List.all_eq_true] at this
            exact fun p hp => this p.2 (List.mem_map.2 ⟨p, hp, rfl⟩)
          obtain ⟨r, hr⟩ := rows_const (d := frzD) (xs := xs) (fun x hx c hc => flat_le (fillR_flat hf (fun x hx c hc => by rw [List.eq_of_mem_replicate hx] at hc; exact hp.1 c hc) hps x hx c hc) (by decide))
          exact loc_new ht (r.map fun xs => (.own nid n, .row tag es false xs)) (fun st2 h => by
            simp only [ev1, hf, Option.bind_some, Bool.false_eq_true, if_false, hr]
            cases r <;> simp [newOb_hole h]) htt
    · cases ht
  case allocOwn z os =>
    simp only [touch] at ht
    obtain ⟨h1, rfl⟩ := touchM_inv ht
    obtain ⟨z', ws, h2, h3⟩ := laidOwn_run os z nid
    refine ⟨fun st2 ha => ?_, fun u st' he => ?_⟩
    · simp only [touch]
      exact touchM_holes (fun k hk => by rw [ha (nid + k, true) (List.mem_map.2 ⟨nid + k, List.mem_range'_1.2 ⟨by omega, by omega⟩, rfl⟩)]; exact h1 k hk)
    · have run : ∀ st2 : List Ob, (∀ k, k < os.length + 1 → st2[nid + k]? = some .hole) → ev1 call e st2 nid (.allocOwn z os) = some (.bp (nid + os.length) 0, app (ws ++ [(nid + os.length, .box z')]) st2) := by
        intro st2 hh
        simp only [ev1]
        rw [h3 st2 (fun k hk => hh k (by omega))]
        simp only [Option.bind_some]
        rw [newOb_hole (by rw [app_other (fun p hp => by have := (h2 p hp).2; omega)]; exact hh os.length (by omega))]
        simp [app_append, app]
      rw [run st h1] at he
      cases he
      refine ⟨ws ++ [(nid + os.length, .box z')], fun p hp => ?_, rfl, fun st2 ha => run st2 fun k hk => ?_⟩
      · rcases List.mem_append.1 hp with hp | hp
        · have := h2 p hp
          exact List.mem_map.2 ⟨p.1, List.mem_range'_1.2 ⟨this.1, by omega⟩, rfl⟩
        · simp at hp
          subst hp
          exact List.mem_map.2 ⟨nid + os.length, List.mem_range'_1.2 ⟨by omega, by omega⟩, rfl⟩
      · rw [ha (nid + k, true) (List.mem_map.2 ⟨nid + k, List.mem_range'_1.2 ⟨by omega, by omega⟩, rfl⟩)]
        exact h1 k hk
  case append tag es by_ keep s x =>
    simp only [touch] at ht
    split at ht
    · rename_i hs
      simp only [Option.bind_eq_some_iff, Option.map_eq_some_iff] at ht
      obtain ⟨t, h1, t2, h2, rfl⟩ := ht
      obtain ⟨hh, rfl⟩ := touchN_inv h2
      obtain ⟨⟨ys, r, h3, h4⟩, h5⟩ := touchX_loc h1
      obtain ⟨q, hq⟩ := appTo_loc (id := nid) (n := 0) (tag := tag) (es := es) (by_ := by_) h4 (some (.row tag es keep []))
      have agr : ∀ st2, Agree (t ++ [(nid, true)]) st st2 → Agree t st st2 ∧ st2[nid]? = some .hole := fun st2 ha => ⟨fun p hp => ha p (by simp [hp]), by rw [ha (nid, true) (by simp)]; exact hh⟩
      have run : ∀ st2, Agree (t ++ [(nid, true)]) st st2 → ev1 call e st2 nid (.append tag es by_ keep s x) = if ys.all (fun y => y.length == es) ∧ 0 < es then q.map fun p => (p.1, (st2.set nid (.row tag es keep [])).set nid p.2) else none := by
        intro st2 ha
        obtain ⟨ha1, ha2⟩ := agr st2 ha
        have hlt : nid < st2.length := (List.getElem?_eq_some_iff.1 ha2).1
        simp only [ev1, (h5 st2 ha1).2, h3, Option.bind_some, hs, newOb_hole ha2]
        by_cases c1 : ys.all (fun y => y.length == es) = true
        · by_cases c2 : 0 < es
          · rw [if_pos c1, if_pos c2, if_pos ⟨c1, c2⟩]
            exact hq _ (by simp [hlt])
          · rw [if_pos c1, if_neg c2, if_neg (fun h => c2 h.2)]
        · rw [if_neg c1, if_neg (fun h => c1 h.1)]
      refine ⟨fun st2 ha => ?_, fun u st' he => ?_⟩
      · obtain ⟨ha1, ha2⟩ := agr st2 ha
        simp only [touch, hs, (h5 st2 ha1).1, Option.bind_some, touchN_hole ha2, Option.map_some]
      · rw [run st (fun p _ => rfl)] at he
        split at he
        · rename_i hc
          simp only [Option.map_eq_some_iff, Prod.mk.injEq] at he
          obtain ⟨⟨u', o'⟩, rfl, rfl, rfl⟩ := he
          refine ⟨[(nid, .row tag es keep []), (nid, o')], by simp, by simp [app], fun st2 ha => ?_⟩
          rw [run st2 ha, if_pos hc]
          simp [app]
        · cases he
    · rename_i id n hs
      simp only [Option.map_eq_some_iff] at ht
      obtain ⟨t, h1, rfl⟩ := ht
      obtain ⟨⟨ys, r, h3, h4⟩, h5⟩ := touchX_loc h1
      obtain ⟨q, hq⟩ := appTo_loc (id := id) (n := n) (tag := tag) (es := es) (by_ := by_) h4 st[id]?
      have run : ∀ st2, Agree (t ++ [(id, true)]) st st2 → ev1 call e st2 nid (.append tag es by_ keep s x) = if ys.all (fun y => y.length == es) then q.map fun p => (p.1, st2.set id p.2) else none := by
        intro st2 ha
        have ha1 : Agree t st st2 := fun p hp => ha p (by simp [hp])
        simp only [ev1, (h5 st2 ha1).2, h3, Option.bind_some, hs]
        by_cases c1 : ys.all (fun y => y.length == es) = true
        · rw [if_pos c1, if_pos c1]
          exact hq _ (ha (id, true) (by simp))
        · rw [if_neg c1, if_neg c1]
      refine ⟨fun st2 ha => ?_, fun u st' he => ?_⟩
      · simp only [touch, hs, (h5 st2 (fun p hp => ha p (by simp [hp]))).1, Option.map_some]
      · rw [run st (fun p _ => rfl)] at he
        split at he
        · rename_i hc
          simp only [Option.map_eq_some_iff, Prod.mk.injEq] at he
          obtain ⟨⟨u', o'⟩, rfl, rfl, rfl⟩ := he
          refine ⟨[(id, o')], by simp, by simp [app], fun st2 ha => ?_⟩
          rw [run st2 ha, if_pos hc]
          simp [app]
        · cases he
    · cases ht
  case load g n x =>
    simp only [touch] at ht
    have rd : ∀ {id : Nat}, T = [(id, false)] → (∀ st2 : List Ob, st2[id]? = st[id]? → ld st2 n (x.ev e) = ld st n (x.ev e)) → (∀ st2 : List Ob, touch pf e st2 nid (.load g n x) = some T) → Loc pf call e st nid (.load g n x) T := by
      rintro id rfl h1 h2
      refine loc_read (id := id) (b := false) (by simp) ((ld st n (x.ev e)).bind fun cs => part g cs) (fun st2 hh => ?_) (fun st2 _ => h2 st2)
      simp only [ev1, h1 st2 hh]
      cases ld st n (x.ev e) with
      | none => rfl
      | some cs => simp only [Option.bind_some]; cases part g cs <;> rfl
    have pu : (∀ st2 : List Ob, ld st2 n (x.ev e) = ld st n (x.ev e)) → (∀ st2 : List Ob, touch pf e st2 nid (.load g n x) = some T) → Loc pf call e st nid (.load g n x) T := by
      rintro h1 h2
      refine loc_pure ((ld st n (x.ev e)).bind fun cs => part g cs) (fun st2 => ?_) (fun st2 _ => h2 st2)
      simp only [ev1, h1 st2]
      cases ld st n (x.ev e) with
      | none => rfl
      | some cs => simp only [Option.bind_some]; cases part g cs <;> rfl
    split at ht
    · rename_i id off hx
      cases ht
      exact rd rfl (fun st2 hh => by rw [hx]; simp only [ld, hh]) (fun st2 => by simp only [touch, hx])
    · rename_i id m i off hx
      cases ht
      exact rd rfl (fun st2 hh => by rw [hx]; simp only [ld, hh]) (fun st2 => by simp only [touch, hx])
    · rename_i h1 h2
      cases ht
      refine pu (fun st2 => ?_) (fun st2 => ?_)
      · cases hx : x.ev e
        case bp id off => exact absurd hx (h1 id off)
        case rp id m i off => exact absurd hx (h2 id m i off)
        all_goals rfl
      · simp only [touch]
  case store n a x =>
    simp only [touch] at ht
    cases hc : cellsO (x.ev e) with
    | none => exact loc_pure none (fun st2 => by simp [ev1, hc]) (fun st2 ha => by
        simp only [touch]
        revert ht
        split
        · exact id
        · exact id
        · exact id)
    | some us =>
      by_cases hl : us.length = n
      · have ev : ∀ st2 : List Ob, ev1 call e st2 nid (.store n a x) = (sto st2 us (a.ev e)).map fun st => (.tup [], st) := by
          intro st2
          simp only [ev1, hc, Option.bind_some]
          rw [if_pos hl]
          cases sto st2 us (a.ev e) <;> rfl
        split at ht
        · rename_i id off ha
          cases ht
          refine loc_write (id := id) (by simp) (match st[id]? with
            | some (.box cs) => if off + us.length ≤ cs.length then some (.tup [], .box (splice cs off us)) else none
            | _ => none) (fun st2 hh => ?_) (fun st2 _ => by simp only [touch, ha])
          rw [ev, ha]
          simp only [sto, hh]
          split
          · rename_i hid
            rw [hid]
            simp only
            split <;> rfl
          · rename_i h1
            split
            · rename_i hid; exact absurd hid (h1 _)
            · rfl
        · rename_i id m j off ha
          split at ht
          · rename_i hp
            cases ht
            obtain ⟨r, hr⟩ := accM_const (f := frz frzD) us (fun c hc' => frz_flat frzD c (flat_le (cellsO_flat (d := 5) hc hp c hc') (by decide)))
            have rows : ∀ (vs : List U) (st2 : List Ob), st2[id]? = st[id]? → stoRow st2 id m j off vs = (match st[id]? with
                | some (.row tag es keep xs) => if xs.length = m then (xs[j]?).bind fun x => if off + vs.length ≤ x.length then some (Ob.row tag es keep (xs.set j (splice x off vs))) else none else none
                | _ => none).map fun o => st2.set id o := by
              intro vs st2 hh
              simp only [stoRow, hh]
              split
              · rename_i hid
                rw [hid]
                simp only
                split
                · cases h : (_ : List (List U))[j]? <;> simp [h] <;> (split <;> rfl)
                · rfl
              · rename_i h1
                split
                · rename_i hid; exact absurd hid (h1 _ _ _ _)
                · rfl
            refine loc_write (id := id) (by simp) (match st[id]? with
              | some (.row tag es true xs) => (match st[id]? with
                | some (.row tag es keep xs) => if xs.length = m then (xs[j]?).bind fun x => if off + us.length ≤ x.length then some (Ob.row tag es keep (xs.set j (splice x off us))) else none else none
                | _ => none).map fun o => (.tup [], o)
              | some (.row tag es false xs) => r.bind fun vs => (match st[id]? with
                | some (.row tag es keep xs) => if xs.length = m then (xs[j]?).bind fun x => if off + vs.length ≤ x.length then some (Ob.row tag es keep (xs.set j (splice x off vs))) else none else none
                | _ => none).map fun o => (.tup [], o)
              | _ => none) (fun st2 hh => ?_) (fun st2 _ => by simp only [touch, ha]; rw [if_pos hp])
            rw [ev, ha]
            cases hid : st[id]? with
            | none => simp [sto, hh, hid]
            | some o =>
              cases o with
              | row tag es keep xs =>
                cases keep with
                | true =>
                  have h2 := rows us st2 hh
                  simp only [sto, hh, hid] at h2 ⊢
                  rw [h2]
                  simp only [Option.map_map]
                  rfl
                | false =>
                  have h2 := fun vs => rows vs st2 hh
                  simp only [sto, hh, hid, hr] at h2 ⊢
                  cases r with
                  | none => rfl
                  | some vs =>
                    simp only [Option.map_some, Option.bind_some]
                    rw [h2]
                    simp only [Option.map_map]
                    rfl
              | _ => simp [sto, hh, hid]
          · cases ht
        · rename_i h1 h2
          cases ht
          refine loc_pure none (fun st2 => ?_) (fun st2 _ => ?_)
          · rw [ev]
            cases hx : a.ev e
            case bp id off => exact absurd hx (h1 id off)
            case rp id m i off => exact absurd hx (h2 id m i off)
            all_goals rfl
          · simp only [touch]
      · exact loc_pure none (fun st2 => by simp only [ev1, hc, Option.bind_some]; rw [if_neg hl]; rfl) (fun st2 ha => by
          simp only [touch]
          revert ht
          split
          · exact id
          · exact id
          · exact id)
  case toStr x =>
    simp only [touch] at ht
    have hl := touchE_loc ht
    refine ⟨fun st2 ha => by simp only [touch]; exact (hl st2 ha).1, fun u st' he => ?_⟩
    simp only [ev1, Option.bind_eq_some_iff, Option.some.injEq, Prod.mk.injEq] at he
    obtain ⟨xs, h1, s, h2, rfl, rfl⟩ := he
    exact ⟨[], by simp, rfl, fun st2 ha => by simp [ev1, (hl st2 ha).2, h1, h2, app]⟩
  case lookup ok s z m k =>
    simp only [touch] at ht
    split at ht
    · rename_i id hm
      cases ht
      refine loc_read (id := id) (b := false) (by simp) (match st[id]? with
        | some (.map es) => if sameV s (k.ev e) (k.ev e) = some true then (look s (k.ev e) es).map fun r => (match r with
          | some v => if ok then .tup [v, .bool true] else v
          | none => if ok then .tup [z, .bool false] else z) else none
        | _ => none) (fun st2 hh => ?_) (fun st2 _ => by simp only [touch, hm])
      simp only [ev1, hm, hh]
      split
      · rename_i hid
        simp only [hid]
        split
        · cases look s (k.ev e) _ <;> rfl
        · rfl
      · rename_i h1
        split
        · rename_i hid; exact absurd hid (h1 _)
        · rfl
    · rename_i h1
      cases ht
      refine loc_pure none (fun st2 => ?_) (fun st2 _ => ?_)
      · simp only [ev1]; rfl
      · simp only [touch]
  case mapset s m k v =>
    simp only [touch] at ht
    split at ht
    · rename_i id hm
      cases ht
      refine loc_write (id := id) (by simp) (match st[id]? with
        | some (.map es) => if closed (k.ev e) && closed (v.ev e) && sameV s (k.ev e) (k.ev e) == some true then (mset s (k.ev e) (v.ev e) es).map fun es => (.tup [], .map es) else none
        | _ => none) (fun st2 hh => ?_) (fun st2 _ => by simp only [touch, hm])
      simp only [ev1, hm, hh]
      split
      · rename_i hid
        simp only [hid]
        split
        · cases mset s (k.ev e) (v.ev e) _ <;> rfl
        · rfl
      · rename_i h1
        split
        · rename_i hid; exact absurd hid (h1 _)
        · rfl
    · rename_i h1
      cases ht
      refine loc_pure none (fun st2 => ?_) (fun st2 _ => ?_)
      · simp only [ev1]; rfl
      · simp only [touch]
  case slice es x lo hi mx =>
    simp only [touch] at ht
    split at ht
    · cases ht
    · rename_i h1
      cases ht
      have tt : ∀ st2 : List Ob, Agree [] st st2 → touch pf e st2 nid (.slice es x lo hi mx) = some [] := by
        intro st2 _
        simp only [touch]
        first
          | done
          | rfl
          | (split
             · rename_i hm; exact absurd hm (h1 _ _)
             · rfl)
      cases hc : x.ev e
      case own id n => exact absurd hc (h1 _ _)
      case sl p xs =>
        exact loc_pure ((opt e 0 lo).bind fun lo => (opt e xs.length hi).bind fun hi => (opt e xs.length mx).bind fun m => if hi ≤ m ∧ m ≤ xs.length ∧ headLen es xs = true then (cut xs lo hi).map fun xs => .sl p xs else none) (fun st => by
          simp only [ev1, hc]
          cases opt e 0 lo with
          | none => rfl
          | some l =>
            simp only [Option.bind_some]
            cases opt e xs.length hi with
            | none => rfl
            | some h =>
              simp only [Option.bind_some]
              cases opt e xs.length mx with
              | none => rfl
              | some m =>
                simp only [Option.bind_some]
                split
                · cases cut xs l h <;> rfl
                · rfl) tt
      all_goals exact loc_pure none (fun st => by simp [ev1, hc]) tt
  case iaddr es x i =>
    simp only [touch] at ht
    cases hi : i.ev e
    case int q m =>
      split at ht
      · rename_i id n hx
        cases ht
        refine loc_read (id := id) (b := false) (by simp) (match st[id]? with
          | some (.row _ es' _ xs) => if xs.length = n ∧ es' = es then (idx m n).map fun i => .rp id n i 0 else none
          | some (.frow xs) => if xs.length = n then (idx m n).bind fun i => (xs[i]?).bind fun x => if x.length = es then some (.fp x) else none else none
          | _ => none) (fun st2 hh => ?_) (fun st2 _ => by simp only [touch, hx])
        simp only [ev1, hi, hx, hh]
        cases hid : st[id]? with
        | none => rfl
        | some o =>
          cases o with
          | row tag es' keep xs =>
            simp only
            split
            · cases idx m n <;> rfl
            · rfl
          | frow xs =>
            simp only
            split
            · cases idx m n with
              | none => rfl
              | some k =>
                simp only [Option.bind_some]
                cases xs[k]? with
                | none => rfl
                | some y => simp only [Option.bind_some]; split <;> rfl
            · rfl
          | _ => rfl
      · rename_i h1
        cases ht
        have tt : ∀ st2 : List Ob, Agree [] st st2 → touch pf e st2 nid (.iaddr es x i) = some [] := by
          intro st2 _
          simp only [touch]
          first
            | done
            | rfl
            | (split
               · rename_i hm; exact absurd hm (h1 _ _)
               · rfl)
        cases hc : x.ev e
        case own id n => exact absurd hc (h1 _ _)
        case sl p xs =>
          exact loc_pure ((idx m xs.length).bind fun i => (xs[i]?).bind fun x => if x.length = es then some (.fp x) else none) (fun st => by
            simp only [ev1, hi, hc]
            cases idx m xs.length with
            | none => rfl
            | some k =>
              simp only [Option.bind_some]
              cases xs[k]? with
              | none => rfl
              | some y => simp only [Option.bind_some]; split <;> rfl) tt
        case bs id off n es' =>
          exact loc_pure (if es' = es then (idx m n).map fun i => .bp id (off + i * es) else none) (fun st => by
            simp only [ev1, hi, hc]
            split
            · cases idx m n <;> rfl
            · rfl) tt
        all_goals exact loc_pure none (fun st => by simp [ev1, hi, hc]) tt
    all_goals exact loc_pure none (fun st => by simp [ev1, hi]) (fun st2 _ => by simp only [touch]; exact ht)
  case len k x =>
    simp only [touch] at ht
    split at ht
    · rename_i id hx
      cases ht
      refine loc_read (id := id) (b := false) (by simp) (match k, st[id]? with
        | 2, some (.map es) => some (.int .i64 es.length)
        | _, _ => none) (fun st2 hh => ?_) (fun st2 _ => by simp only [touch, hx])
      simp only [ev1, hx]
      match k with
      | 0 => rfl
      | 1 => rfl
      | 2 =>
        simp only [hh]
        cases st[id]? with
        | none => rfl
        | some o => cases o <;> rfl
      | _ + 3 => rfl
    · rename_i h1
      have hl := touchE_loc ht
      refine ⟨fun st2 ha => ?_, fun u st' he => ?_⟩
      · simp only [touch]
        exact (hl st2 ha).1
      · simp only [ev1] at he
        split at he
        · rename_i hm; exact absurd hm (h1 _)
        · rename_i s hx
          cases he
          exact ⟨[], by simp, rfl, fun st2 ha => by simp [ev1, hx, app]⟩
        · simp only [Option.bind_eq_some_iff, Option.some.injEq, Prod.mk.injEq] at he
          obtain ⟨xs, h2, rfl, rfl⟩ := he
          exact ⟨[], by simp, rfl, fun st2 ha => by simp [ev1, (hl st2 ha).2, h2, app]⟩
        · cases he
  case call f as =>
    simp only [touch] at ht
    split at ht
    · rename_i hp
      have hl := touchA_loc ht
      refine ⟨fun st2 ha => by simp only [touch]; rw [if_pos hp]; exact (hl st2 ha).1, fun u st' he => ?_⟩
      simp only [ev1] at he
      obtain ⟨rfl, h2⟩ := hpc f hp _ _ _ _ he
      exact ⟨[], by simp, rfl, fun st2 ha => by simp only [ev1]; exact h2 st2 (hl st2 ha).2⟩
    · cases ht
  all_goals (simp [touch] at ht; done)
end
section
variable {call : Nat → List U → List Ob → Option (U × List Ob)} {pf : Nat → Bool}
def evG (call : Nat → List U → List Ob → Option (U × List Ob)) (nid : Nat) (e : Env) (st : List Ob) (o : O) : Option (U × List Ob) :=
  match o.guard with
  | none => ev1 call e st nid o.op
  | some (g, b) => match get e g with
    | .bool c => if c = b then ev1 call e st nid o.op else some (.tup [], st)
    | .tup [] => some (.tup [], st)
    | _ => none
def touchG (pf : Nat → Bool) (nid : Nat) (e : Env) (st : List Ob) (o : O) : Touch :=
  match o.guard with
  | none => touch pf e st nid o.op
  | some (g, b) => match get e g with
    | .bool c => if c = b then touch pf e st nid o.op else some []
    | _ => some []
theorem evO_eq (nid : Nat) (s : S) (o : O) : evO call nid s o = (evG call nid s.env s.st o).map fun p => ⟨put s.env o.dst p.1, p.2⟩ := by
  unfold evO evG
  cases o.guard with
  | none => cases ev1 call s.env s.st nid o.op <;> rfl
  | some gb =>
    obtain ⟨g, b⟩ := gb
    simp only
    cases get s.env g
    case bool c =>
      simp only
      split
      · cases ev1 call s.env s.st nid o.op <;> rfl
      · rfl
    case tup vs => cases vs <;> rfl
    all_goals rfl
theorem evT_eq (nid : Nat) (s : S) (o : O) : evT pf call nid s o = (evG call nid s.env s.st o).map fun p => (⟨put s.env o.dst p.1, p.2⟩, touchG pf nid s.env s.st o) := by
  unfold evT
  rw [evO_eq]
  cases evG call nid s.env s.st o <;> rfl
theorem evG_congr {nid : Nat} {e e2 : Env} {st : List Ob} {o : O} (h : ∀ n ∈ o.uses, get e2 n = get e n) : evG call nid e2 st o = evG call nid e st o ∧ touchG pf nid e2 st o = touchG pf nid e st o := by
  have h1 : ∀ n ∈ o.op.uses, get e2 n = get e n := fun n hn => h n (by simp [O.uses, hn])
  have hc := ev1_congr (call := call) (pf := pf) (st := st) (nid := nid) h1
  unfold evG touchG
  cases hg : o.guard with
  | none => exact hc
  | some gb =>
    obtain ⟨g, b⟩ := gb
    simp only
    rw [h g (by simp [O.uses, hg]), hc.1, hc.2]
    exact ⟨rfl, rfl⟩
theorem evG_loc (hpc : PureC pf call) {nid : Nat} {e : Env} {st : List Ob} {o : O} {T : List (Nat × Bool)} (ht : touchG pf nid e st o = some T) :
    (∀ st2, Agree T st st2 → touchG pf nid e st2 o = some T) ∧
    ∀ u st', evG call nid e st o = some (u, st') → ∃ ws : List (Nat × Ob), (∀ p ∈ ws, (p.1, true) ∈ T) ∧ st' = app ws st ∧ ∀ st2, Agree T st st2 → evG call nid e st2 o = some (u, app ws st2) := by
  unfold touchG evG at *
  cases hg : o.guard with
  | none =>
    rw [hg] at ht
    exact ev1_loc hpc ht
  | some gb =>
    obtain ⟨g, b⟩ := gb
    rw [hg] at ht
    simp only at ht ⊢
    cases hge : get e g
    case bool c =>
      rw [hge] at ht
      simp only at ht ⊢
      by_cases hcb : c = b
      · simp only [if_pos hcb] at ht ⊢
        exact ev1_loc hpc ht
      · simp only [if_neg hcb] at ht ⊢
        cases ht
        refine ⟨fun _ _ => rfl, fun u st' he => ?_⟩
        cases he
        exact ⟨[], by simp, rfl, fun _ _ => rfl⟩
    case tup vs =>
      rw [hge] at ht
      simp only at ht
      cases ht
      refine ⟨fun _ _ => rfl, fun u st' he => ?_⟩
      cases vs with
      | nil => cases he; exact ⟨[], by simp, rfl, fun _ _ => rfl⟩
      | cons _ _ => cases he
    all_goals
      rw [hge] at ht
      simp only at ht
      cases ht
      exact ⟨fun _ _ => rfl, fun u st' he => by cases he⟩
def EqS (s r : S) : Prop := s.st = r.st ∧ ∀ i, get s.env i = get r.env i
theorem EqS.refl (s : S) : EqS s s := ⟨rfl, fun _ => rfl⟩
theorem EqS.trans {s r q : S} (h : EqS s r) (k : EqS r q) : EqS s q := ⟨h.1.trans k.1, fun i => (h.2 i).trans (k.2 i)⟩
theorem get_put (e : Env) (d : Option Nat) (u : U) (i : Nat) : get (put e d u) i = if d = some i then u else get e i := by
  cases d with
  | none => simp [put]
  | some d => simp only [put, M2.get, Option.some.injEq]
theorem evT_eqv {nid : Nat} {s r s' : S} {o : O} {t : Touch} (h : EqS s r) (he : evT pf call nid s o = some (s', t)) : ∃ r', evT pf call nid r o = some (r', t) ∧ EqS s' r' := by
  rw [evT_eq] at he
  obtain ⟨h1, h2⟩ := evG_congr (call := call) (pf := pf) (nid := nid) (st := s.st) (o := o) (e := s.env) (e2 := r.env) (fun n _ => (h.2 n).symm)
  simp only [Option.map_eq_some_iff] at he
  obtain ⟨⟨u, st'⟩, hg, he⟩ := he
  cases he
  refine ⟨⟨put r.env o.dst u, st'⟩, ?_, rfl, fun i => ?_⟩
  · rw [evT_eq, ← h.1, h1, h2, hg]; rfl
  · simp only [get_put, h.2 i]
theorem tmpInd_inv {a b : O} (h : tmpInd a b = true) : (∀ n ∈ b.uses, a.dst ≠ some n) ∧ (∀ n, a.dst = some n → b.dst ≠ some n) ∧ (∀ n ∈ a.uses, b.dst ≠ some n) := by
  unfold tmpInd at h
  simp only [Bool.and_eq_true] at h
  obtain ⟨h1, h2⟩ := h
  refine ⟨fun n hn he => ?_, fun n he hb => ?_, fun n hn he => ?_⟩
  · rw [he] at h1; simp [hn] at h1
  · rw [he] at h1; simp [hb] at h1
  · rw [he] at h2; simp [hn] at h2
/-! ### Touches that are told by what came out. -/
theorem ueq1_ok {a b : U} (h : ueq1 a b = true) : a = b := by
  unfold ueq1 at h
  split at h
  all_goals (first | (simp only [Bool.and_eq_true, decide_eq_true_eq] at h; obtain ⟨rfl, rfl⟩ := h; rfl) | (simp only [decide_eq_true_eq] at h; subst h; rfl) | rfl | cases h)
theorem ueqs_ok : ∀ {a b : List U}, ueqs a b = true → a = b
  | [], [], _ => rfl
  | [], _ :: _, h => by simp [ueqs] at h
  | _ :: _, [], h => by simp [ueqs] at h
  | a :: as, b :: bs, h => by
    simp only [ueqs, Bool.and_eq_true] at h
    rw [ueq1_ok h.1, ueqs_ok h.2]
theorem obEq_ok {a b : Option Ob} (h : obEq a b = true) : a = b := by
  unfold obEq at h
  split at h
  · rfl
  · rw [ueqs_ok h]
  · cases h
theorem app_get (st' : List Ob) (same : Nat → Bool) : ∀ (l : List Nat) (st0 : List Ob), st0.length = st'.length → ∀ j, (app (l.filterMap fun i => if same i then none else st'[i]?.map fun x => (i, x)) st0)[j]? = if j ∈ l ∧ same j = false then st'[j]? else st0[j]?
  | [], st0, _, j => by simp [app]
  | i :: l, st0, hl, j => by
    rw [List.filterMap_cons]
    cases hs : same i with
    | true =>
      simp only [if_true]
      rw [app_get st' same l st0 hl j]
      by_cases hj : j = i
      · subst hj; simp [hs]
      · simp [hj]
    | false =>
      cases hx : st'[i]? with
      | none =>
        simp only [Bool.false_eq_true, if_false, Option.map_none]
        rw [app_get st' same l st0 hl j]
        by_cases hj : j = i
        · subst hj
          have : st0[j]? = none := by rw [List.getElem?_eq_none_iff] at hx ⊢; omega
          simp [hs, hx, this]
        · simp [hj]
      | some x =>
        simp only [Bool.false_eq_true, if_false, Option.map_some]
        rw [app_cons, app_get st' same l (st0.set i x) (by simpa using hl) j]
        by_cases hj : j = i
        · subst hj
          have hlt := (List.getElem?_eq_some_iff.1 hx).1
          simp only [List.mem_cons, true_or, hs, and_self, if_true]
          split
          · rfl
          · rw [List.getElem?_set_self (by omega), hx]
        · rw [List.getElem?_set_ne (fun h => hj h.symm)]
          simp [hj]
theorem agree_all {st st' st2 : List Ob} (h : Agree (callT st st') st st2) : st2 = st := by
  have h1 : ∀ i, i ≤ st.length → st2[i]? = st[i]? := fun i hi => h (i, !obEq st[i]? st'[i]?) (by
    simp only [callT, List.mem_map, List.mem_range]
    exact ⟨i, by omega, rfl⟩)
  have h2 : st2.length ≤ st.length := by
    have := h1 st.length (Nat.le_refl _)
    rw [List.getElem?_eq_none (Nat.le_refl st.length), List.getElem?_eq_none_iff] at this
    exact this
  refine List.ext_getElem? fun i => ?_
  by_cases hi : i ≤ st.length
  · exact h1 i hi
  · rw [List.getElem?_eq_none (by omega), List.getElem?_eq_none (by omega)]
theorem evG_locU (hpc : PureC pf call) {nid : Nat} {e : Env} {st st' : List Ob} {o : O} {u : U} {T : List (Nat × Bool)} (hev : evG call nid e st o = some (u, st')) (ht : updT st st' (touchG pf nid e st o) = some T) :
    ∃ ws : List (Nat × Ob), (∀ p ∈ ws, (p.1, true) ∈ T) ∧ st' = app ws st ∧ ∀ st2, Agree T st st2 → evG call nid e st2 o = some (u, app ws st2) ∧ updT st2 (app ws st2) (touchG pf nid e st2 o) = some T := by
  cases k : touchG pf nid e st o with
  | some T0 =>
    rw [k] at ht
    cases ht
    obtain ⟨l1, m1⟩ := evG_loc hpc k
    obtain ⟨ws, w, e1, a⟩ := m1 _ _ hev
    exact ⟨ws, w, e1, fun st2 h2 => ⟨a st2 h2, by rw [l1 st2 h2]; rfl⟩⟩
  | none =>
    rw [k] at ht
    simp only [updT] at ht
    split at ht
    · rename_i hl
      cases ht
      have hst : st' = app ((List.range st.length).filterMap fun i => if obEq st[i]? st'[i]? then none else st'[i]?.map fun x => (i, x)) st := by
        refine List.ext_getElem? fun j => ?_
        rw [app_get st' (fun i => obEq st[i]? st'[i]?) (List.range st.length) st hl.symm j]
        by_cases hj : j < st.length
        · cases hs : obEq st[j]? st'[j]? with
          | true => simp [obEq_ok hs]
          | false => simp [hj]
        · rw [if_neg (by simp [hj]), List.getElem?_eq_none (by omega), List.getElem?_eq_none (by omega)]
      refine ⟨_, fun p hp => ?_, hst, fun st2 h2 => ?_⟩
      · simp only [List.mem_filterMap, List.mem_range] at hp
        obtain ⟨i, hi, hp⟩ := hp
        split at hp
        · cases hp
        · rename_i hne
          simp only [Option.map_eq_some_iff] at hp
          obtain ⟨x, _, rfl⟩ := hp
          simp only [callT, List.mem_map, List.mem_range]
          exact ⟨i, by omega, by simp [hne]⟩
      · rw [agree_all h2]
        rw [← hst, k]
        exact ⟨hev, by simp [updT, hl]⟩
    · cases ht
theorem evU_eq (nid : Nat) (s : S) (o : O) : evU pf call nid s o = (evG call nid s.env s.st o).map fun p => (⟨put s.env o.dst p.1, p.2⟩, updT s.st p.2 (touchG pf nid s.env s.st o)) := by
  unfold evU
  rw [evT_eq]
  cases evG call nid s.env s.st o <;> rfl
theorem evU_evT {nid : Nat} {s s' : S} {o : O} {t : Touch} (h : evU pf call nid s o = some (s', t)) : ∃ t0, evT pf call nid s o = some (s', t0) := by
  unfold evU at h
  simp only [Option.map_eq_some_iff] at h
  obtain ⟨⟨p, q⟩, h1, h2⟩ := h
  cases h2
  exact ⟨_, h1⟩
theorem evU_eqv {nid : Nat} {s r s' : S} {o : O} {t : Touch} (h : EqS s r) (he : evU pf call nid s o = some (s', t)) : ∃ r', evU pf call nid r o = some (r', t) ∧ EqS s' r' := by
  unfold evU at he ⊢
  simp only [Option.map_eq_some_iff] at he
  obtain ⟨⟨p, q⟩, h1, h2⟩ := he
  cases h2
  obtain ⟨r', k1, k2⟩ := evT_eqv h h1
  exact ⟨r', by rw [k1]; simp only [Option.map_some, h.1, k2.1], k2⟩
theorem swap (hpc : PureC pf call) {n1 n2 : Nat} {s s1 s2 : S} {o1 o2 : O} {t1 t2 : Touch} (h1 : evU pf call n1 s o1 = some (s1, t1)) (h2 : evU pf call n2 s1 o2 = some (s2, t2)) (hd : tmpInd o1 o2 = true) (hi : ind t1 t2 = true) :
    ∃ r1 r2, evU pf call n2 s o2 = some (r1, t2) ∧ evU pf call n1 r1 o1 = some (r2, t1) ∧ EqS s2 r2 := by
  obtain ⟨d1, d2, d3⟩ := tmpInd_inv hd
  rw [evU_eq] at h1 h2
  simp only [Option.map_eq_some_iff] at h1 h2
  obtain ⟨⟨u1, st1⟩, g1, h1⟩ := h1
  cases h1
  obtain ⟨⟨u2, st2⟩, g2, h2⟩ := h2
  cases h2
  simp only at g2 hi
  have c2 := fun st => evG_congr (call := call) (pf := pf) (nid := n2) (st := st) (o := o2) (e := s.env) (e2 := put s.env o1.dst u1) (fun n hn => by rw [get_put, if_neg (d1 n hn)])
  rw [(c2 st1).1] at g2
  rw [(c2 st1).2] at hi
  have c1 := fun u st => evG_congr (call := call) (pf := pf) (nid := n1) (st := st) (o := o1) (e := s.env) (e2 := put s.env o2.dst u) (fun n hn => by rw [get_put, if_neg (d3 n hn)])
  have fin : ∀ {st'' : List Ob}, evG call n2 s.env s.st o2 = some (u2, st'') → evG call n1 s.env st'' o1 = some (u1, st2) → updT s.st st'' (touchG pf n2 s.env s.st o2) = updT st1 st2 (touchG pf n2 s.env st1 o2) → updT st'' st2 (touchG pf n1 s.env st'' o1) = updT s.st st1 (touchG pf n1 s.env s.st o1) →
      ∃ r1 r2, evU pf call n2 s o2 = some (r1, updT st1 st2 (touchG pf n2 (put s.env o1.dst u1) st1 o2)) ∧ evU pf call n1 r1 o1 = some (r2, updT s.st st1 (touchG pf n1 s.env s.st o1)) ∧ EqS ⟨put (put s.env o1.dst u1) o2.dst u2, st2⟩ r2 := by
    intro st'' e2 e1 k2 k1
    refine ⟨⟨put s.env o2.dst u2, st''⟩, ⟨put (put s.env o2.dst u2) o1.dst u1, st2⟩, ?_, ?_, rfl, fun i => ?_⟩
    · rw [evU_eq, e2, (c2 st1).2, ← k2]; rfl
    · rw [evU_eq]
      simp only
      rw [(c1 u2 st'').1, (c1 u2 st'').2, e1, ← k1]
      rfl
    · simp only [get_put]
      by_cases ha : o1.dst = some i
      · rw [if_neg (d2 i ha), if_pos ha, if_pos ha]
      · rw [if_neg ha, if_neg ha]
  cases k1 : updT s.st st1 (touchG pf n1 s.env s.st o1) with
  | some T1 =>
    obtain ⟨ws1, w1, e1, a1⟩ := evG_locU hpc g1 k1
    subst e1
    cases k2 : updT (app ws1 s.st) st2 (touchG pf n2 s.env (app ws1 s.st) o2) with
    | some T2 =>
      rw [k1, k2] at hi
      simp only [ind, List.all_eq_true, Bool.or_eq_true, bne_iff_ne, ne_eq, Bool.and_eq_true, Bool.not_eq_true'] at hi
      obtain ⟨ws2, w2, e2, a2⟩ := evG_locU hpc g2 k2
      subst e2
      have ag2 : Agree T2 (app ws1 s.st) s.st := by
        intro p hp
        rw [app_other]
        intro q hq he
        rcases hi _ (w1 q hq) p hp with h | h
        · exact h he
        · exact absurd h.1 (by simp)
      have ag1 : Agree T1 s.st (app ws2 s.st) := by
        intro p hp
        rw [app_other]
        intro q hq he
        rcases hi p hp _ (w2 q hq) with h | h
        · exact h he.symm
        · exact absurd h.2 (by simp)
      have hcomm : app ws2 (app ws1 s.st) = app ws1 (app ws2 s.st) := app_comm fun p hp q hq he => by
        rcases hi _ (w1 q hq) _ (w2 p hp) with h | h
        · exact h he.symm
        · exact absurd h.1 (by simp)
      rw [← k1]
      exact fin (st'' := app ws2 s.st) (a2 _ ag2).1 (by rw [(a1 _ ag1).1, hcomm]) (by rw [(a2 _ ag2).2, k2]) (by rw [hcomm, (a1 _ ag1).2, k1])
    | none =>
      rw [k1, k2] at hi
      cases T1 with
      | cons _ _ => simp [ind] at hi
      | nil =>
        have : ws1 = [] := by cases ws1 with | nil => rfl | cons p _ => exact absurd (w1 p (by simp)) (by simp)
        subst this
        rw [← k1]
        have a := a1 st2 (fun p hp => by simp at hp)
        exact fin (st'' := st2) g2 a.1 rfl (a.2.trans k1.symm)
  | none =>
    cases k2 : updT st1 st2 (touchG pf n2 s.env st1 o2) with
    | none => rw [k1, k2] at hi; simp [ind] at hi
    | some T2 =>
      rw [k1, k2] at hi
      cases T2 with
      | cons _ _ => simp [ind] at hi
      | nil =>
        obtain ⟨ws2, w2, e2, a2⟩ := evG_locU hpc g2 k2
        have : ws2 = [] := by cases ws2 with | nil => rfl | cons p _ => exact absurd (w2 p (by simp)) (by simp)
        subst this
        have e2' : st2 = st1 := e2
        subst e2'
        rw [← k1]
        have a := a2 s.st (fun p hp => by simp at hp)
        exact fin (st'' := s.st) a.1 g1 (a.2.trans k2.symm) rfl
end
section
variable {call : Nat → List U → List Ob → Option (U × List Ob)} {pf : Nat → Bool}
structure It where
  j : Nat
  o : O
  nid : Nat
  b : Nat
abbrev Done := List (Nat × O × Touch)
def okIt (b : Nat) (o : O) (t : Touch) (p : Nat × O × Touch) : Prop := b.testBit p.1 = true ∨ (tmpInd p.2.1 o = true ∧ ind p.2.2 t = true)
def EvIt (pf : Nat → Bool) (call : Nat → List U → List Ob → Option (U × List Ob)) : S → Done → List It → S → Prop
  | s, _, [], sf => s = sf
  | s, done, it :: its, sf => ∃ s' t, evU pf call it.nid s it.o = some (s', t) ∧ (∀ p ∈ done, okIt it.b it.o t p) ∧ EvIt pf call s' (done ++ [(it.j, it.o, t)]) its sf
theorem EvIt.mono : ∀ {its : List It} {s sf : S} {done done' : Done}, (∀ p ∈ done', p ∈ done) → EvIt pf call s done its sf → EvIt pf call s done' its sf
  | [], _, _, _, _, _, h => h
  | it :: its, s, sf, done, done', hd, h => by
    obtain ⟨s', t, h1, h2, h3⟩ := h
    refine ⟨s', t, h1, fun p hp => h2 p (hd p hp), EvIt.mono (fun p hp => ?_) h3⟩
    simp only [List.mem_append, List.mem_singleton] at hp ⊢
    exact hp.imp (hd p) id
theorem EvIt.eqv : ∀ {its : List It} {s r sf : S} {done : Done}, EqS s r → EvIt pf call s done its sf → ∃ rf, EvIt pf call r done its rf ∧ EqS sf rf
  | [], s, r, sf, done, h, k => ⟨r, rfl, by cases k; exact h⟩
  | it :: its, s, r, sf, done, h, k => by
    obtain ⟨s', t, h1, h2, h3⟩ := k
    obtain ⟨r', h4, h5⟩ := evU_eqv h h1
    obtain ⟨rf, h6, h7⟩ := EvIt.eqv h5 h3
    exact ⟨rf, ⟨r', t, h4, h2, h6⟩, h7⟩
theorem EvIt.front (hpc : PureC pf call) {it : It} {l2 : List It} : ∀ (l : List It) {s sf : S} {done : Done}, EvIt pf call s done (l ++ it :: l2) sf → (∀ p ∈ l, it.b.testBit p.j = false) →
    ∃ s1 t sf', evU pf call it.nid s it.o = some (s1, t) ∧ (∀ p ∈ done, okIt it.b it.o t p) ∧ EvIt pf call s1 done (l ++ l2) sf' ∧ EqS sf sf'
  | [], s, sf, done, h, _ => by
    obtain ⟨s', t, h1, h2, h3⟩ := h
    exact ⟨s', t, sf, h1, h2, EvIt.mono (fun p hp => by simp [hp]) h3, EqS.refl _⟩
  | p :: l, s, sf, done, h, hb => by
    obtain ⟨sp, tp, h1, h2, h3⟩ := h
    obtain ⟨s1, t, sf', h4, h5, h6, h7⟩ := EvIt.front hpc l h3 (fun q hq => hb q (by simp [hq]))
    have hind : tmpInd p.o it.o = true ∧ ind tp t = true := by
      rcases h5 (p.j, p.o, tp) (by simp) with h | h
      · have := hb p (by simp)
        rw [this] at h; cases h
      · exact h
    obtain ⟨r1, r2, k1, k2, k3⟩ := swap hpc h1 h4 hind.1 hind.2
    obtain ⟨rf, k4, k5⟩ := EvIt.eqv k3 h6
    exact ⟨r1, t, rf, k1, fun q hq => h5 q (by simp [hq]), ⟨r2, tp, k2, h2, k4⟩, h7.trans k5⟩
def items : Nat → Nat → List O → List Nat → List It
  | j, nid, o :: os, b :: bs => ⟨j, o, nid, b⟩ :: items (j + 1) (nid + o.op.need) os bs
  | _, _, _, _ => []
def Dn (done : List (O × Touch)) : Done := done.zipIdx.map fun p => (p.2, p.1.1, p.1.2)
theorem aside_ok {b : Nat} {o : O} {t : Touch} : ∀ {done : List (O × Touch)} {i : Nat}, aside b i (o, t) done = true → ∀ p ∈ (done.zipIdx i).map (fun p => (p.2, p.1.1, p.1.2)), okIt b o t p
  | [], i, _, p, hp => by simp at hp
  | d :: done, i, h, p, hp => by
    simp only [aside, Bool.and_eq_true, Bool.or_eq_true] at h
    simp only [List.zipIdx_cons, List.map_cons, List.mem_cons] at hp
    rcases hp with rfl | hp
    · exact h.1
    · exact aside_ok h.2 p hp
theorem evDs_items : ∀ (os : List O) (bs : List Nat) (done : List (O × Touch)) (nid : Nat) (s sf : S), evDs pf call nid s done os bs = some sf → EvIt pf call s (Dn done) (items done.length nid os bs) sf
  | [], bs, done, nid, s, sf, h => by simp [evDs] at h; subst h; simp [items, EvIt]
  | o :: os, [], done, nid, s, sf, h => by simp [evDs] at h
  | o :: os, b :: bs, done, nid, s, sf, h => by
    simp only [evDs, Option.bind_eq_some_iff] at h
    obtain ⟨⟨s', t⟩, h1, h2⟩ := h
    simp only at h2
    split at h2
    · rename_i ha
      have ih := evDs_items os bs (done ++ [(o, t)]) _ _ _ h2
      refine ⟨s', t, h1, aside_ok ha, ?_⟩
      have e1 : Dn (done ++ [(o, t)]) = Dn done ++ [(done.length, o, t)] := by simp [Dn, List.zipIdx_append]
      rw [e1] at ih
      simpa [items] using ih
    · cases h2
theorem items_get : ∀ (os : List O) (bs : List Nat) (j nid : Nat), os.length ≤ bs.length → (items j nid os bs).length = os.length ∧ ∀ (i : Nat) (it : It), (items j nid os bs)[i]? = some it → it.j = j + i ∧ os[i]? = some it.o ∧ bs[i]? = some it.b
  | [], bs, j, nid, _ => by simp [items]
  | o :: os, [], j, nid, h => by simp at h
  | o :: os, b :: bs, j, nid, h => by
    obtain ⟨h1, h2⟩ := items_get os bs (j + 1) (nid + o.op.need) (by simpa using h)
    refine ⟨by simp [items, h1], fun i it hi => ?_⟩
    cases i with
    | zero => simp [items] at hi; subst hi; simp
    | succ i =>
      simp [items] at hi
      have := h2 i it hi
      exact ⟨by omega, by simpa using this.2.1, by simpa using this.2.2⟩
end
/-! ### What comes before -/
theorem befOf_bit {bs : List Nat} {o : Oper} {k : Nat} (h : (befOf bs o).testBit k = true) : ∃ e ∈ o.after.toList, Region.binds .any e = true ∧ (e.on = k ∨ (bs.getD e.on 0).testBit k = true) := by
  unfold befOf at h
  have key : ∀ (l : List Edge) (s : Nat), (l.foldl (fun s e => if Region.binds .any e then s ||| 2 ^ e.on ||| bs.getD e.on 0 else s) s).testBit k = true → s.testBit k = true ∨ ∃ e ∈ l, Region.binds .any e = true ∧ (e.on = k ∨ (bs.getD e.on 0).testBit k = true) := by
    intro l
    induction l with
    | nil => intro s h; exact .inl h
    | cons e l ih =>
      intro s h
      rw [List.foldl_cons] at h
      rcases ih _ h with h | ⟨e', he, h⟩
      · split at h
        · rename_i hb
          simp only [Nat.testBit_or, Bool.or_eq_true, Nat.testBit_two_pow] at h
          rcases h with (h | h) | h
          · exact .inl h
          · exact .inr ⟨e, by simp, hb, .inl (by simpa using h)⟩
          · exact .inr ⟨e, by simp, hb, .inr h⟩
        · exact .inl h
      · exact .inr ⟨e', by simp [he], h⟩
  rcases key _ 0 h with h | h
  · simp at h
  · exact h
theorem befs_get : ∀ (os : List Oper) (bs : List Nat), (befs bs os).length = os.length ∧ ∀ (i : Nat) (o : Oper), os[i]? = some o → (befs bs os)[i]? = some (befOf (bs ++ (befs bs os).take i) o)
  | [], bs => by simp [befs]
  | o :: os, bs => by
    obtain ⟨h1, h2⟩ := befs_get os (bs ++ [befOf bs o])
    refine ⟨by simp [befs, h1], fun i o' hi => ?_⟩
    cases i with
    | zero => simp at hi; subst hi; simp [befs]
    | succ i =>
      simp at hi
      have := h2 i o' hi
      simp only [befs, List.getElem?_cons_succ, this, List.take_succ_cons, List.append_assoc, List.singleton_append]
theorem befs_bit {os : List Oper} {i k : Nat} {o : Oper} {b : Nat} (ho : os[i]? = some o) (hb : (befs [] os)[i]? = some b) (hk : b.testBit k = true) :
    ∃ e ∈ o.after.toList, Region.binds .any e = true ∧ (e.on = k ∨ ∃ b', e.on < i ∧ (befs [] os)[e.on]? = some b' ∧ b'.testBit k = true) := by
  have := (befs_get os []).2 i o ho
  rw [hb] at this
  cases this
  obtain ⟨e, he, h1, h2⟩ := befOf_bit hk
  refine ⟨e, he, h1, ?_⟩
  rcases h2 with h2 | h2
  · exact .inl h2
  · right
    rw [List.nil_append, List.getD_eq_getElem?_getD, List.getElem?_take] at h2
    split at h2
    · rename_i hlt
      cases hg : (befs [] os)[e.on]? with
      | none => rw [hg] at h2; simp at h2
      | some b' => rw [hg] at h2; exact ⟨b', hlt, rfl, by simpa using h2⟩
    · simp at h2
theorem backs_ok : ∀ (os : List Oper) (i : Nat), backs i os = true → ∀ (k : Nat) (o : Oper), os[k]? = some o → ∀ e ∈ o.after.toList, Region.binds .any e = true → e.on < i + k
  | [], i, _, k, o, h, _, _, _ => by simp at h
  | o' :: os, i, h, k, o, hk, e, he, hb => by
    simp only [backs, Bool.and_eq_true, List.all_eq_true, Bool.or_eq_true, Bool.not_eq_true', decide_eq_true_eq] at h
    cases k with
    | zero =>
      simp at hk
      subst hk
      rcases h.1 e he with h1 | h1
      · rw [h1] at hb; cases hb
      · simpa using h1
    | succ k =>
      simp at hk
      have := backs_ok os (i + 1) h.2 k o hk e he hb
      omega
section
variable {E : En} {call : Nat → List U → List Ob → Option (U × List Ob)} {pf : Nat → Bool}
theorem St.eqv {n : Nat} {g : G} {s r : S} {a : Act} (h : EqS s r) (k : St E n g s a) : St E n g r a :=
  ⟨by rw [← h.1]; exact k.sr, fun i => by rw [← h.2 i]; exact k.env i, k.glob, k.size, k.df⟩
structure Rem (ops : Array Oper) (bs : List Nat) (n : Nat) (E : En) (listed : Array Bool) (rem : List It) : Prop where
  size : listed.size = ops.size
  out : ∀ j, j < ops.size → (listed.getD j true = false ↔ ∃ it ∈ rem, it.j = j)
  inc : rem.Pairwise fun a b => a.j < b.j
  op : ∀ it ∈ rem, ∃ o h, ops[it.j]? = some o ∧ compO E n ops.toList h o = some it.o ∧ bs[it.j]? = some it.b
  down : ∀ (j : Nat) o, ops[j]? = some o → listed.getD j false = true → ∀ e ∈ o.after, Region.binds .any e = true → listed.getD e.on false = true
theorem listed_not {l : Array Bool} {j : Nat} (hj : j < l.size) : l.getD j true = false ↔ l.getD j false = false := by
  simp [Array.getD, hj]
theorem Rem.closed {ops : Array Oper} {n : Nat} {listed : Array Bool} {rem : List It} (h : Rem ops (befs [] ops.toList) n E listed rem) : ∀ (i : Nat) (o : Oper) (b k : Nat), ops[i]? = some o → (befs [] ops.toList)[i]? = some b →
    (∀ e ∈ o.after, Region.binds .any e = true → listed.getD e.on false = true) → b.testBit k = true → listed.getD k false = true := by
  intro i
  induction i using Nat.strongRecOn with
  | _ i ih =>
    intro o b k ho hb hp hk
    obtain ⟨e, he, h1, h2⟩ := befs_bit (by simpa using ho) hb hk
    have hl := hp e (by simpa using he) h1
    rcases h2 with rfl | ⟨b', hlt, hb', hk'⟩
    · exact hl
    · have hlen : e.on < ops.size := by
        have := (List.getElem?_eq_some_iff.1 hb').1
        rw [(befs_get ops.toList []).1] at this
        simpa using this
      exact ih e.on hlt ops[e.on] b' k (Array.getElem?_eq_getElem hlen) hb' (h.down e.on _ (Array.getElem?_eq_getElem hlen) hl) hk'
theorem any_ok (hc : CallOK E call) (hpc : PureC pf call) {n : Nat} {ops : Array Oper} {Q : Exit → Act → World → Prop} (hback : backs 0 ops.toList = true) :
    ∀ (fuel : Nat) (listed : Array Bool) (rem : List It) (a : Act) (g : G) (s sf : S), Rem ops (befs [] ops.toList) n E listed rem → rem.length ≤ fuel → EvIt pf call s [] rem sf → St E n g s a →
      (∀ g' a' s', Step g s.st g' s'.st → EqS sf s' → St E n g' s' a' → Q .normal a' g'.w) → wpAny E.P .any ops Q fuel listed a g.w := by
  have done : ∀ {listed : Array Bool} {rem : List It} {a : Act} {g : G} {s sf : S}, Rem ops (befs [] ops.toList) n E listed rem → Region.ready .any ops listed = [] → EvIt pf call s [] rem sf → St E n g s a →
      (∀ g' a' s', Step g s.st g' s'.st → EqS sf s' → St E n g' s' a' → Q .normal a' g'.w) → Q .normal a g.w := by
    intro listed rem a g s sf hR hr hev hS hQ
    cases rem with
    | nil => cases hev; exact hQ g a s (Step.refl g _) (EqS.refl _) hS
    | cons it rem =>
      exfalso
      obtain ⟨o, h, ho, _, _⟩ := hR.op it (by simp)
      have hlt := (Array.getElem?_eq_some_iff.1 ho).1
      have : it.j ∈ Region.ready .any ops listed := by
        rw [mem_ready]
        refine ⟨(hR.out it.j hlt).2 ⟨it, by simp, rfl⟩, o, ho, fun e he hb => ?_⟩
        have hon := backs_ok ops.toList 0 hback it.j o (by simpa using ho) e (by simpa using he) hb
        rw [Nat.zero_add] at hon
        cases hl : listed.getD e.on false with
        | true => rfl
        | false =>
          obtain ⟨it', h1, h2⟩ := (hR.out e.on (by omega)).1 ((listed_not (by rw [hR.size]; omega)).2 hl)
          rcases List.mem_cons.1 h1 with rfl | h1
          · omega
          · have := (List.pairwise_cons.1 hR.inc).1 it' h1
            omega
      rw [hr] at this
      cases this
  intro fuel
  induction fuel with
  | zero =>
    intro listed rem a g s sf hR hl hev hS hQ
    have hnil : rem = [] := List.eq_nil_of_length_eq_zero (by omega)
    have hr : Region.ready .any ops listed = [] := by
      apply List.eq_nil_iff_forall_not_mem.2
      intro j hj
      rw [mem_ready] at hj
      obtain ⟨h0, o, ho, _⟩ := hj
      obtain ⟨it, h1, _⟩ := (hR.out j (Array.getElem?_eq_some_iff.1 ho).1).1 h0
      rw [hnil] at h1
      cases h1
    exact ⟨hr, done hR hr hev hS hQ⟩
  | succ fuel ih =>
    intro listed rem a g s sf hR hl hev hS hQ
    refine ⟨fun hr => done hR hr hev hS hQ, fun j hj => ?_⟩
    obtain ⟨h0, oj, hoj, hpre⟩ := mem_ready.1 hj
    have hjlt := (Array.getElem?_eq_some_iff.1 hoj).1
    obtain ⟨it, hmem, rfl⟩ := (hR.out j hjlt).1 h0
    obtain ⟨l, l2, rfl⟩ := List.append_of_mem hmem
    obtain ⟨o, h, ho, hco, hbs⟩ := hR.op it (by simp)
    rw [hoj] at ho
    cases ho
    have hnb : ∀ p ∈ l, it.b.testBit p.j = false := by
      intro p hp
      cases hb : it.b.testBit p.j with
      | false => rfl
      | true =>
        exfalso
        have h1 := hR.closed it.j oj it.b p.j hoj hbs hpre hb
        obtain ⟨op, _, hop, _, _⟩ := hR.op p (by simp [hp])
        have hplt := (Array.getElem?_eq_some_iff.1 hop).1
        have h2 := (hR.out p.j hplt).2 ⟨p, by simp [hp], rfl⟩
        rw [listed_not (by rw [hR.size]; exact hplt)] at h2
        rw [h1] at h2
        cases h2
    obtain ⟨s1, t, sf', hT, _, hev', heq⟩ := EvIt.front hpc l hev hnb
    have hO : evO call it.nid s it.o = some s1 := by
      obtain ⟨_, hT⟩ := evU_evT hT
      unfold evT at hT
      simp only [Option.bind_eq_some_iff] at hT
      obtain ⟨s1', h1, h2⟩ := hT
      cases h2
      exact h1
    refine evO_ok hc hoj hco hS hO ?_
    intro g' a' hs hS'
    refine ih (listed.setIfInBounds it.j true) (l ++ l2) a' g' s1 sf' ?_ (by simp at hl ⊢; omega) hev' hS' (fun g'' a'' s'' hs' he hS'' => hQ g'' a'' s'' (hs.trans hs') (heq.trans he) hS'')
    have hinc := hR.inc
    rw [List.pairwise_append] at hinc
    obtain ⟨i1, i2, i3⟩ := hinc
    rw [List.pairwise_cons] at i2
    refine ⟨by simp [hR.size], fun k hk => ?_, ?_, fun p hp => hR.op p (by simp only [List.mem_append] at hp ⊢; exact hp.imp id (fun h => List.mem_cons_of_mem _ h)), fun k o hk hlk e he hb => ?_⟩
    · by_cases hkj : it.j = k
      · subst hkj
        constructor
        · intro h
          simp [hR.size, hk] at h
        · rintro ⟨p, hp, he⟩
          exfalso
          rcases List.mem_append.1 hp with hp | hp
          · have := i3 p hp it (by simp); omega
          · have := i2.1 p hp; omega
      · rw [getD_set_ne true hkj, hR.out k hk]
        constructor
        · rintro ⟨p, hp, he⟩
          rcases List.mem_append.1 hp with hp | hp
          · exact ⟨p, by simp [hp], he⟩
          · rcases List.mem_cons.1 hp with rfl | hp
            · exact absurd he hkj
            · exact ⟨p, by simp [hp], he⟩
        · rintro ⟨p, hp, he⟩
          rcases List.mem_append.1 hp with hp | hp
          · exact ⟨p, by simp [hp], he⟩
          · exact ⟨p, by simp [hp], he⟩
    · rw [List.pairwise_append]
      exact ⟨i1, i2.2, fun a ha b hb => i3 a ha b (List.mem_cons_of_mem _ hb)⟩
    · by_cases hkj : it.j = k
      · subst hkj
        rw [hoj] at hk
        cases hk
        exact getD_set_true (hpre e he hb)
      · rw [getD_set_ne false hkj] at hlk
        exact getD_set_true (hR.down k o hk hlk e he hb)
theorem draw_grown (w : World) : w.grownBy { w with drawn := w.drawn + 1 } none := ⟨rfl, rfl, rfl, Nat.le_refl _, fun _ _ _ => rfl⟩
theorem region_draw_ok (hc : CallOK E call) (hpc : PureC pf call) {n : Nat} {id : Nat} {ops : Array Oper} {r : RH} {all : List O} (hall : compOs E n ops.toList r 0 ops.toList = some all) (hm : (E.P.follows .mixedOrders || !Region.departs ops) = true) (hback : backs 0 ops.toList = true)
    {Q : Exit → Act → World → Prop} {a : Act} {g : G} {s s' : S} (hS : St E n g s a)
    (hev : evDs pf call s.st.length ⟨s.env, s.st ++ List.replicate ((all.map (·.op.need)).sum) .hole⟩ [] all (befs [] ops.toList) = some s')
    (hQ : ∀ g' a' r, Step g s.st g' r.st → EqS s' r → St E n g' r a' → Q .normal a' g'.w) : (Code.region id ops true).wp E.P Q a g.w := by
  refine wp_region_draw fun t => ?_
  simp only [Region.schedule, hm, if_true]
  refine wpAny_sound ops.size t _ a _ ?_
  obtain ⟨s0, r0⟩ := hS.sr.world (draw_grown g.w)
  obtain ⟨s1, r1⟩ := r0.holes ((all.map (·.op.need)).sum)
  have hS1 : St E n { g with w := { g.w with drawn := g.w.drawn + 1 } } ⟨s.env, s.st ++ List.replicate ((all.map (·.op.need)).sum) .hole⟩ a :=
    ⟨r1, hS.env.ext (s0.trans s1).toExt, hS.glob.ext (s0.trans s1).toExt, hS.size, hS.df⟩
  obtain ⟨hlen, hget⟩ := compOs_get _ _ _ hall
  simp only [Array.length_toList] at hlen
  have hbl := (befs_get ops.toList []).1
  simp only [Array.length_toList] at hbl
  have hitems := evDs_items all (befs [] ops.toList) [] s.st.length _ _ hev
  obtain ⟨g1, g2⟩ := items_get all (befs [] ops.toList) 0 s.st.length (by omega)
  refine any_ok hc hpc hback ops.size (Array.replicate ops.size false) (items 0 s.st.length all (befs [] ops.toList)) a { g with w := { g.w with drawn := g.w.drawn + 1 } } _ s' ?_ (by omega) (by simpa [Dn] using hitems) hS1
    (fun g' a' r hs he hr => hQ g' a' r ((s0.trans s1).trans hs) he hr)
  refine ⟨by simp, fun j hj => ?_, ?_, fun it hit => ?_, fun j o ho hl => ?_⟩
  · constructor
    · intro _
      have hlt : j < (items 0 s.st.length all (befs [] ops.toList)).length := by omega
      have := g2 j _ (List.getElem?_eq_getElem hlt)
      exact ⟨_, List.getElem_mem hlt, by omega⟩
    · intro _
      simp [Array.getD, hj]
  · rw [List.pairwise_iff_getElem]
    intro i j hi hj hij
    have h1 := g2 i _ (List.getElem?_eq_getElem hi)
    have h2 := g2 j _ (List.getElem?_eq_getElem hj)
    omega
  · obtain ⟨i, hi⟩ := List.getElem?_of_mem hit
    obtain ⟨h1, h2, h3⟩ := g2 i it hi
    have hilt : i < ops.size := by have := (List.getElem?_eq_some_iff.1 h2).1; omega
    rw [Nat.zero_add] at h1
    obtain ⟨oo, k1, k2⟩ := hget i ops[i] (by simp [hilt])
    rw [h2] at k1
    cases k1
    exact ⟨ops[i], _, by rw [h1]; exact Array.getElem?_eq_getElem hilt, k2, by rw [h1]; exact h3⟩
  · have hj := (Array.getElem?_eq_some_iff.1 ho).1
    simp [Array.getD, hj] at hl
end
section
variable {E : En} {call : Nat → List U → List Ob → Option (U × List Ob)} {pf : Nat → Bool} {n : Nat}
theorem EqS.symm {s r : S} (h : EqS s r) : EqS r s := ⟨h.1.symm, fun i => (h.2 i).symm⟩
def exitOf : X → Exit
  | .nrm => .normal
  | .exit id => .exit id
  | .ret => .ret
def After (E : En) (n : Nat) (g : G) (s : S) (x : X) (s' : S) (Q : Exit → Act → World → Prop) : Prop :=
  ∀ g' a', Step g s.st g' s'.st → St E n g' s' a' → Q (exitOf x) a' g'.w
def LoopOK (E : En) (n : Nat) (H : Nat → RH) (rec : C → S → Option (X × S)) : Prop :=
  ∀ (k : Code) (c : C) (s s' : S) (x : X), compC E n H k = some c → rec (.loop c) s = some (x, s') →
    ∃ m, ∀ (Q : Exit → Act → World → Prop) (a : Act) (g : G), St E n g s a → After E n g s x s' Q → Code.rounds E.P k Q m a g.w
theorem trim_ok {g g0 : G} {st0 : List Ob} {s s2 : S} {a : Act} (h : St E n g s a) (hs : Step g0 st0 g s.st) (h0 : SR E g0 st0) (ht : trim st0.length s = some s2) :
    Step g0 st0 (g.cut st0.length) s2.st ∧ St E n (g.cut st0.length) s2 a := by
  unfold trim at ht
  split at ht
  · rename_i hc
    cases ht
    simp only [Bool.and_eq_true, List.all_eq_true] at hc
    obtain ⟨k1, k2⟩ := h.sr.cut hs h0 (List.all_eq_true.2 hc.2)
    refine ⟨k1, k2, fun i => ?_, h.glob.keeps (cut_keeps g _ false), h.size, h.df⟩
    have hv := h.env i
    by_cases hd : ∃ p ∈ s.env, get s.env i = p.2
    · obtain ⟨p, hp, he⟩ := hd
      have := hc.1 p hp
      rw [← he] at this
      exact blw_ok blwD _ _ hv this
    · have : get s.env i = .dead := by
        have key : ∀ (l : Env), get l i = .dead ∨ ∃ p ∈ l, get l i = p.2 := by
          intro l
          induction l with
          | nil => exact .inl rfl
          | cons p l ih =>
            obtain ⟨j, u⟩ := p
            simp only [M2.get]
            by_cases hj : j = i
            · rw [if_pos hj]; exact .inr ⟨(j, u), by simp, rfl⟩
            · rw [if_neg hj]
              rcases ih with h | ⟨q, hq, he⟩
              · exact .inl h
              · exact .inr ⟨q, by simp [hq], he⟩
        rcases key s.env with h | h
        · exact h
        · exact absurd h hd
      show VR E _ (get s.env i) _
      rw [this]
      simp only [VR]
  · cases ht
theorem trimO_ok {g g0 : G} {st0 : List Ob} {s : S} {a : Act} (h : St E n g s a) (hs : Step g0 st0 g s.st) (h0 : SR E g0 st0) : ∃ g', g'.w = g.w ∧ Step g0 st0 g' (trimO st0.length s).st ∧ St E n g' (trimO st0.length s) a := by
  unfold trimO
  cases ht : trim st0.length s with
  | none => exact ⟨g, rfl, hs, h⟩
  | some s2 =>
    obtain ⟨k1, k2⟩ := trim_ok h hs h0 ht
    exact ⟨g.cut st0.length, rfl, k1, k2⟩
theorem code_ok (hc : CallOK E call) (hpc : PureC pf call) {H : Nat → RH} {rec : C → S → Option (X × S)} (hrec : LoopOK E n H rec) : ∀ (k : Code) (c : C) (s s' : S) (x : X) (a : Act) (g : G) (Q : Exit → Act → World → Prop),
    compC E n H k = some c → evC pf call rec c s = some (x, s') → St E n g s a → After E n g s x s' Q → k.wp E.P Q a g.w := by
  intro k
  induction k with
  | skip =>
    intro c s s' x a g Q hcomp hev hS hQ
    cases hcomp
    cases hev
    exact wp_skip (hQ g a (Step.refl g _) hS)
  | region id ops draw =>
    intro c s s' x a g Q hcomp hev hS hQ
    cases draw with
    | false =>
      simp only [compC, Option.map_eq_some_iff] at hcomp
      obtain ⟨l, hl, rfl⟩ := hcomp
      simp only [evC, Option.bind_eq_some_iff, Option.some.injEq, Prod.mk.injEq] at hev
      obtain ⟨s1, h1, rfl, rfl⟩ := hev
      exact region_ok hc hl hS h1 fun g' a' hs hS' => hQ g' a' hs (hS'.keep _)
    | true =>
      simp only [compC] at hcomp
      split at hcomp
      · rename_i hb
        simp only [Bool.and_eq_true] at hb
        simp only [Option.map_eq_some_iff] at hcomp
        obtain ⟨l, hl, rfl⟩ := hcomp
        simp only [evC, Option.bind_eq_some_iff, Option.some.injEq, Prod.mk.injEq] at hev
        obtain ⟨s1, h1, rfl, rfl⟩ := hev
        refine region_draw_ok hc hpc hl hb.1 hb.2 hS h1 fun g' a' r hs he hr => hQ g' a' ?_ ((hr.eqv he.symm).keep _)
        rw [show (⟨M2.keep (H id).live s1.env, s1.st⟩ : S).st = r.st from he.1]
        exact hs
      · cases hcomp
  | seq k1 k2 ih1 ih2 =>
    intro c s s' x a g Q hcomp hev hS hQ
    simp only [compC, Option.bind_eq_some_iff, Option.map_eq_some_iff] at hcomp
    obtain ⟨c1, h1, c2, h2, rfl⟩ := hcomp
    simp only [evC, Option.bind_eq_some_iff] at hev
    obtain ⟨⟨x1, s1⟩, e1, e2⟩ := hev
    refine wp_seq (ih1 c1 s s1 x1 a g _ h1 e1 hS fun g' a' hs hS' => ?_)
    cases x1 with
    | nrm =>
      simp only at e2
      exact ih2 c2 s1 s' x a' g' Q h2 e2 hS' fun g'' a'' hs' hS'' => hQ g'' a'' (hs.trans hs') hS''
    | exit id =>
      simp only [Option.some.injEq, Prod.mk.injEq] at e2
      obtain ⟨rfl, rfl⟩ := e2
      exact hQ g' a' hs hS'
    | ret =>
      simp only [Option.some.injEq, Prod.mk.injEq] at e2
      obtain ⟨rfl, rfl⟩ := e2
      exact hQ g' a' hs hS'
  | cond cc k1 k2 ih1 ih2 =>
    intro c s s' x a g Q hcomp hev hS hQ
    simp only [compC, Option.bind_eq_some_iff, Option.map_eq_some_iff] at hcomp
    obtain ⟨y, hy, c1, h1, c2, h2, rfl⟩ := hcomp
    simp only [evC] at hev
    have hv := opA_ok hS.glob hS.env hy
    split at hev
    · rename_i b hb
      rw [hb] at hv
      simp only [VR] at hv
      cases b with
      | true => exact wp_cond_true hv (ih1 c1 s s' x a g Q h1 (by simpa using hev) hS hQ)
      | false => exact wp_cond_false hv (ih2 c2 s s' x a g Q h2 (by simpa using hev) hS hQ)
    · cases hev
  | block id k ih =>
    intro c s s' x a g Q hcomp hev hS hQ
    simp only [compC, Option.map_eq_some_iff] at hcomp
    obtain ⟨c1, h1, rfl⟩ := hcomp
    simp only [evC, Option.bind_eq_some_iff] at hev
    obtain ⟨⟨x1, s1⟩, e1, e2⟩ := hev
    refine wp_block (ih c1 s s1 x1 a g _ h1 e1 hS fun g' a' hs hS' => ?_)
    cases x1 with
    | nrm =>
      simp only [Option.some.injEq, Prod.mk.injEq] at e2
      obtain ⟨rfl, rfl⟩ := e2
      exact hQ g' a' hs hS'
    | exit id' =>
      simp only at e2
      simp only [exitOf, Exit.inBlock]
      split at e2
      · rename_i hid
        simp only [Option.some.injEq, Prod.mk.injEq] at e2
        obtain ⟨rfl, rfl⟩ := e2
        rw [if_pos hid]
        exact hQ g' a' hs hS'
      · rename_i hid
        simp only [Option.some.injEq, Prod.mk.injEq] at e2
        obtain ⟨rfl, rfl⟩ := e2
        rw [if_neg hid]
        exact hQ g' a' hs hS'
    | ret =>
      simp only [Option.some.injEq, Prod.mk.injEq] at e2
      obtain ⟨rfl, rfl⟩ := e2
      exact hQ g' a' hs hS'
  | loop k ih =>
    intro c s s' x a g Q hcomp hev hS hQ
    simp only [compC, Option.map_eq_some_iff] at hcomp
    obtain ⟨c1, h1, rfl⟩ := hcomp
    simp only [evC, Option.bind_eq_some_iff] at hev
    obtain ⟨⟨x1, s1⟩, e1, e2⟩ := hev
    cases x1 with
    | nrm =>
      simp only at e2
      obtain ⟨m, hm⟩ := hrec k c1 _ s' x h1 e2
      refine wp_loop_rounds (m + 1) ?_
      rw [rounds_succ]
      refine ih c1 s s1 .nrm a g _ h1 e1 hS fun g' a' hs hS' => ?_
      obtain ⟨g2, kw, k1, k2⟩ := trimO_ok hS' hs hS.sr
      show Code.rounds E.P k Q m a' g'.w
      rw [← kw]
      exact hm Q a' g2 k2 fun g'' a'' hs' hS'' => hQ g'' a'' (k1.trans hs') hS''
    | exit id =>
      simp only [Option.some.injEq, Prod.mk.injEq] at e2
      obtain ⟨rfl, rfl⟩ := e2
      refine wp_loop_rounds 1 ?_
      rw [rounds_succ]
      exact ih c1 s s1 (.exit id) a g _ h1 e1 hS fun g' a' hs hS' => hQ g' a' hs hS'
    | ret =>
      simp only [Option.some.injEq, Prod.mk.injEq] at e2
      obtain ⟨rfl, rfl⟩ := e2
      refine wp_loop_rounds 1 ?_
      rw [rounds_succ]
      exact ih c1 s s1 .ret a g _ h1 e1 hS fun g' a' hs hS' => hQ g' a' hs hS'
  | exit id =>
    intro c s s' x a g Q hcomp hev hS hQ
    cases hcomp
    cases hev
    exact wp_exit (hQ g a (Step.refl g _) hS)
  | ret =>
    intro c s s' x a g Q hcomp hev hS hQ
    cases hcomp
    cases hev
    exact wp_ret (hQ g a (Step.refl g _) hS)
  | _ => intro c s s' x a g Q hcomp; simp [compC] at hcomp
theorem loop_ok (hc : CallOK E call) (hpc : PureC pf call) {H : Nat → RH} {rec : C → S → Option (X × S)} (hrec : LoopOK E n H rec) : LoopOK E n H (evC pf call rec) := by
  intro k c s s' x hcomp hev
  simp only [evC, Option.bind_eq_some_iff] at hev
  obtain ⟨⟨x1, s1⟩, e1, e2⟩ := hev
  cases x1 with
  | nrm =>
    simp only at e2
    obtain ⟨m, hm⟩ := hrec k c _ s' x hcomp e2
    refine ⟨m + 1, fun Q a g hS hQ => ?_⟩
    rw [rounds_succ]
    refine code_ok hc hpc hrec k c s s1 .nrm a g _ hcomp e1 hS fun g' a' hs hS' => ?_
    obtain ⟨g2, kw, k1, k2⟩ := trimO_ok hS' hs hS.sr
    show Code.rounds E.P k Q m a' g'.w
    rw [← kw]
    exact hm Q a' g2 k2 fun g'' a'' hs' hS'' => hQ g'' a'' (k1.trans hs') hS''
  | exit id =>
    simp only [Option.some.injEq, Prod.mk.injEq] at e2
    obtain ⟨rfl, rfl⟩ := e2
    refine ⟨1, fun Q a g hS hQ => ?_⟩
    rw [rounds_succ]
    exact code_ok hc hpc hrec k c s s1 (.exit id) a g _ hcomp e1 hS fun g' a' hs hS' => hQ g' a' hs hS'
  | ret =>
    simp only [Option.some.injEq, Prod.mk.injEq] at e2
    obtain ⟨rfl, rfl⟩ := e2
    refine ⟨1, fun Q a g hS hQ => ?_⟩
    rw [rounds_succ]
    exact code_ok hc hpc hrec k c s s1 .ret a g _ hcomp e1 hS fun g' a' hs hS' => hQ g' a' hs hS'
end
section
variable {E : En}
theorem cell_ok {g : G} {st : List Ob} (h : SR E g st) {t : TypeId} {agg : Bool} {n : Nat} {u r : U} {v : Value} {cs : List U} (hA : E.isA t = some agg) (hn : E.size t = some n) (hv : VR E g u v)
    (hl : ld st (if agg then n else 1) u = some cs) (hp : part agg cs = some r) : ∃ x, (do loadVar t (← asAddr v) : Sem Value).run E.P g.w = .ok x g.w ∧ VR E g r x := by
  obtain ⟨b, o, vs, rfl, hlen, h1, hvs, hc⟩ := ld_ok h hv hl
  have hp' := part_ok h1 hvs hp
  cases agg with
  | true =>
    simp only [if_true] at hp' hlen
    refine ⟨_, ?_, hp'⟩
    have hrun := run_loadCells_list (P := E.P) g.w ⟨b, o, none⟩ vs (fun j x hx => by rw [add_none]; exact hc j x hx)
    rw [← hvs.length, hlen] at hrun
    simp [asAddr, loadVar, En.isA_run hA, En.size_run hn, hrun]
  | false =>
    simp only [Bool.false_eq_true, if_false] at hp'
    obtain ⟨x, rfl, hx⟩ := hp'
    have h0 := hc 0 x rfl
    rw [Nat.add_zero] at h0
    exact ⟨x, by simp [asAddr, loadVar, En.isA_run hA, h0], hx⟩
theorem res_list {n : Nat} {g : G} {s : S} {a : Act} (h : St E n g s a) : ∀ (rs : List ResultVar) (qs : List RV) (us : List U), compRs E rs = some qs → allM (res1 s) qs = some us →
    ∃ vs : List Value, (rs.mapM fun r => (match r with
      | .tmp t => pure (a.tmps.getD t undef)
      | .cell b t => do loadVar t (← asAddr (a.tmps.getD b undef)) : Sem Value)).run E.P g.w = .ok vs g.w ∧ VRs E g us vs
  | [], qs, us, h1, h2 => by
    simp [compRs] at h1
    subst h1
    simp [allM] at h2
    subst h2
    exact ⟨[], by simp, by simp [VRs]⟩
  | r :: rs, qs, us, h1, h2 => by
    simp only [compRs, Option.bind_eq_some_iff] at h1
    obtain ⟨q, k1, h1⟩ := h1
    simp only [Option.map_eq_some_iff] at h1
    obtain ⟨qs', k2, rfl⟩ := h1
    simp only [allM, Option.bind_eq_some_iff] at h2
    obtain ⟨u, m1, us', m2, m3⟩ := h2
    simp at m3
    subst m3
    obtain ⟨vs, hrun, hvs⟩ := res_list h rs qs' us' k2 m2
    have one : ∃ v, (match r with
      | .tmp t => pure (a.tmps.getD t undef)
      | .cell b t => do loadVar t (← asAddr (a.tmps.getD b undef)) : Sem Value).run E.P g.w = .ok v g.w ∧ VR E g u v := by
      cases r with
      | tmp t =>
        simp [compR] at k1
        subst k1
        simp [res1] at m1
        subst m1
        exact ⟨_, rfl, h.env t⟩
      | cell b t =>
        simp only [compR, Option.bind_eq_some_iff, Option.map_eq_some_iff] at k1
        obtain ⟨g', hA, n, hn, rfl⟩ := k1
        simp only [res1, Option.bind_eq_some_iff] at m1
        obtain ⟨cs, hl, hp⟩ := m1
        exact cell_ok h.sr hA hn (h.env b) hl hp
    obtain ⟨v, hv1, hv2⟩ := one
    refine ⟨v :: vs, ?_, by simp only [VRs]; exact ⟨v, vs, rfl, hv2, hvs⟩⟩
    rw [List.mapM_cons]
    simp only [Sem.run_bind, hv1, Result.andThen_ok, hrun, Sem.run_pure]
theorem res_ok {n : Nat} {g : G} {s : S} {a : Act} (h : St E n g s a) {fn : Func} {qs : List RV} {u : U} (h1 : compRs E fn.results.toList = some qs) (h2 : resU s qs = some u) : ∃ v, (results fn a.tmps).run E.P g.w = .ok v g.w ∧ VR E g u v := by
  unfold resU at h2
  simp only [Option.bind_eq_some_iff] at h2
  obtain ⟨us, h3, h4⟩ := h2
  obtain ⟨vs, hrun, hvs⟩ := res_list h _ _ us h1 h3
  have hl := hvs.length
  have hmain : (results fn a.tmps).run E.P g.w = .ok (if h : vs.toArray.size = 1 then vs.toArray[0] else .tuple vs.toArray) g.w := by
    unfold results
    simp only [Sem.run_bind, Array.mapM_eq_mapM_toList, Sem.run_map]
    erw [hrun]
    simp only [Result.andThen_ok, Sem.run_pure]
  split at h4
  · cases h4
    have : ∃ v, vs = [v] := by
      cases vs with
      | nil => simp at hl
      | cons v r => cases r with
        | nil => exact ⟨v, rfl⟩
        | cons _ _ => simp at hl
    obtain ⟨v, rfl⟩ := this
    simp only [VRs] at hvs
    obtain ⟨v', r, e, hv, _⟩ := hvs
    cases e
    exact ⟨v, by rw [hmain]; simp, hv⟩
  · rename_i hne
    cases h4
    have hvl : vs.length ≠ 1 := by
      intro hv1
      rw [hv1] at hl
      cases us with
      | nil => simp at hl
      | cons u r => cases r with
        | nil => exact hne u rfl
        | cons _ _ => simp at hl
    exact ⟨.tuple vs.toArray, by rw [hmain]; simp [hvl], by simp only [VR]; exact ⟨_, rfl, by simpa using hvs⟩⟩
theorem params_get {g : G} : ∀ {us : List U} {vs : List Value} {j : Nat}, VRs E g us vs → ∀ i, VR E g (get (params j us) i) (if j ≤ i then (vs[i - j]?).getD undef else undef)
  | [], vs, j, h, i => by simp [params, M2.get, VR]
  | u :: us, vs, j, h, i => by
    simp only [VRs] at h
    obtain ⟨v, r, rfl, hv, hr⟩ := h
    simp only [params, M2.get]
    by_cases hj : j = i
    · subst hj
      simpa using hv
    · rw [if_neg hj]
      have := params_get (j := j + 1) hr i
      by_cases hle : j ≤ i
      · rw [if_pos (by omega)] at this
        rw [if_pos hle]
        rw [show i - j = (i - (j + 1)) + 1 by omega]
        simpa using this
      · rw [if_neg (by omega)] at this
        rw [if_neg hle]
        exact this
def TabOK (E : En) (T : Nat → Option F) : Prop := ∀ f fn, T f = some fn → ∃ m H, E.P.funcs[f]? = some m ∧ compF E fn.pure H m = some fn ∧ (m.name == "runtime.NumGoroutine") = false
theorem start_ok {n : Nat} {g : G} {st : List Ob} {us : List U} {vs : List Value} (hS : SR E g st) (hG : GlobOK E g) (hv : VRs E g us vs) (hn : vs.length ≤ n) :
    St E n g ⟨params 0 us, st⟩ { tmps := vs.toArray ++ Array.replicate (n - vs.toArray.size) undef, defers := [] } := by
  refine ⟨hS, fun i => ?_, hG, by simp; omega, rfl⟩
  have := params_get (j := 0) hv i
  rw [if_pos (by omega), Nat.sub_zero] at this
  have e : (vs.toArray ++ Array.replicate (n - vs.toArray.size) undef).getD i undef = (vs[i]?).getD undef := by
    rw [Array.getD_eq_getD_getElem?, Array.getElem?_append]
    by_cases hi : i < vs.length
    · simp [hi]
    · have : vs[i]? = none := List.getElem?_eq_none (by omega)
      rw [this]
      simp [hi]
      rw [Array.getElem?_replicate]
      split <;> rfl
  rw [e]
  exact this
theorem callF_ok {T : Nat → Option F} (hT : TabOK E T) {evc : C → S → Option (X × S)}
    (hbody : ∀ (n : Nat) (H : Nat → RH) (k : Code) (c : C) (s s' : S) (x : X) (a : Act) (g : G) (Q : Exit → Act → World → Prop), compC E n H k = some c → evc c s = some (x, s') → St E n g s a → After E n g s x s' Q → k.wp E.P Q a g.w) :
    CallOK E (callF T evc) := by
  intro f args st u st' hcall g vs hS hG hv
  unfold callF at hcall
  simp only [Option.bind_eq_some_iff] at hcall
  obtain ⟨fn, hfn, hcall⟩ := hcall
  obtain ⟨m, H, hm, hcomp, hname⟩ := hT f fn hfn
  unfold compF at hcomp
  simp only [Option.bind_eq_some_iff] at hcomp
  obtain ⟨b, hb, c, hc, rs, hrs, hcomp⟩ := hcomp
  split at hcomp
  · rename_i hle
    have hf : fn = ⟨fn.pure, m.params.size + m.nfree, c, rs⟩ := (Option.some.inj hcomp).symm
    have h1 : fn.nargs = m.params.size + m.nfree := by rw [hf]
    have h2 : fn.body = c := by rw [hf]
    have h3 : fn.res = rs := by rw [hf]
    refine ⟨fun w => by simp only [beq_eq_false_iff_ne, ne_eq] at hname; simp [callFunc, hm, hname, hb], ?_⟩
    split at hcall
    · rename_i hlen
      have hvl := hv.length
      split at hcall
      · obtain ⟨us, hus, hcall⟩ := Option.bind_eq_some_iff.1 hcall
        obtain ⟨⟨x, s⟩, hev, hcall⟩ := Option.bind_eq_some_iff.1 hcall
        simp only at hcall
        split at hcall
        · rename_i hend
          obtain ⟨r, hr, hcall⟩ := Option.bind_eq_some_iff.1 hcall
          obtain ⟨⟨r', st2⟩, hfz, hcall⟩ := Option.bind_eq_some_iff.1 hcall
          simp only [Option.some.injEq, Prod.mk.injEq] at hcall
          obtain ⟨rfl, rfl⟩ := hcall
          obtain ⟨hus1, hus3⟩ := brwAs_ok hS frzD args vs us hv hus
          have hS0 := hS.sub
          have hG0 : GlobOK E (g.sub st) := hG.keeps (sub_keeps g st false)
          have hstart := start_ok (n := m.ntmps) hS0 hG0 hus1 (by omega)
          refine calls_of_wp hm hb ?_
          refine hbody m.ntmps _ b c _ s x _ (g.sub st) _ hc (by rw [← h2]; exact hev) hstart fun g1 a1 hs1 hS1 => ?_
          have hfin : a1.defers = [] ∧ ∃ v, (results m a1.tmps).run E.P g1.w = .ok v g1.w ∧ ∃ v' g', Ending.returned v = .returned v' ∧ g1.w = g'.w ∧ Step g st g' st ∧ SR E g' st ∧ VR E g' r' v' := by
            refine ⟨hS1.df, ?_⟩
            obtain ⟨v, hv1, hv2⟩ := res_ok hS1 hrs (by rw [← h3]; exact hr)
            refine ⟨v, hv1, ?_⟩
            obtain ⟨g2, s2, r2, v2, c2, w2, _⟩ := frz_ok (E := E) frzD g1 s.st r v r' st2 hS1.sr hv2 hfz
            have s02 : Step (g.sub st) [] g2 st2 := hs1.trans s2
            have hnm : ∀ b, ¬ Mut (g.sub st) [] b := by rintro b ⟨id, o, ho, _⟩; simp at ho
            have hFn : ∀ b, g2.F b → g.F b ∨ g.w.heap.size ≤ b := by
              intro b hb
              rcases s02.Fnew b hb with h | h | h
              · exact .inl h
              · exact absurd h (hnm b)
              · exact .inr h
            have hold : ∀ b, b < g.w.heap.size → g2.w.heap[b]? = g.w.heap[b]? := fun b hb => s02.old b hb (hnm b)
            have hext : Ext g { g with w := g2.w, F := g2.F } :=
              { F := fun b hb => s02.F b hb, Ft := fun _ h => h, cells := fun b hb => hold b (hS.lt b hb), D := fun _ h => h, vb := fun _ _ => rfl, len := fun _ _ => Nat.le_refl _, vr := fun _ _ _ => rfl, es := fun _ _ => rfl }
            have hblk : ∀ id o, blk { g with w := g2.w, F := g2.F } id o = blk g id o := fun id o => blk_eq rfl rfl
            refine ⟨v, { g with w := g2.w, F := g2.F }, rfl, w2.symm, ?_, ?_, ?_⟩
            · exact { hext with
                Fnew := fun b hb => (hFn b hb).imp id .inr, Fteq := fun _ h => h, old := fun b hb _ => hold b hb,
                mt := fun b ⟨id, o, ho, hb⟩ => .inl ⟨id, o, ho, by rw [← hblk]; exact hb⟩,
                size := s02.size, os := s02.os, tape := s02.tape, output := s02.output, stl := Nat.le_refl _ }
            · refine ⟨hS.dom, fun id o ho => ?_, fun id o b ho hb => ?_, fun i j o o' b hi hj hb hb' => ?_, fun b hb => ?_⟩
              · exact OR.ext hext (fun b hb => hold b (hS.fr id o b ho hb).2) rfl rfl rfl rfl (hS.ob id o ho)
              · rw [hblk] at hb
                have := hS.fr id o b ho hb
                refine ⟨?_, Nat.lt_of_lt_of_le this.2 s02.size⟩
                rintro (h | ⟨_, h⟩)
                · rcases hFn b h with h | h
                  · exact this.1 (.inl h)
                  · omega
                · exact this.1 (.inr ⟨rfl, h⟩)
              · rw [hblk] at hb hb'
                exact hS.ne i j o o' b hi hj hb hb'
              · rcases hb with h | ⟨_, h⟩
                · exact r2.lt b (.inl h)
                · exact Nat.lt_of_lt_of_le (hS.lt b (.inr ⟨rfl, h⟩)) s02.size
            · refine VR.clo (p := true) (g := g2) (g' := { g with w := g2.w, F := g2.F }) (fun q b hq hb => ⟨?_, rfl⟩) _ _ c2 v2
              rcases hb with hb | ⟨e, _⟩
              · exact .inl hb
              · rw [hq rfl] at e; cases e
          cases x with
          | nrm => exact hfin
          | ret => exact hfin
          | exit id => simp [isEnd] at hend
        · cases hcall
      · obtain ⟨⟨x, s⟩, hev, hcall⟩ := Option.bind_eq_some_iff.1 hcall
        simp only at hcall
        split at hcall
        · rename_i hend
          obtain ⟨r, hr, hcall⟩ := Option.bind_eq_some_iff.1 hcall
          simp only [Option.some.injEq, Prod.mk.injEq] at hcall
          obtain ⟨rfl, hs2⟩ := hcall
          have hstart := start_ok (n := m.ntmps) hS hG hv (by omega)
          refine calls_of_wp hm hb ?_
          refine hbody m.ntmps _ b c _ s x _ g _ hc (by rw [← h2]; exact hev) hstart fun g1 a1 hs1 hS1 => ?_
          have hfin : a1.defers = [] ∧ ∃ v, (results m a1.tmps).run E.P g1.w = .ok v g1.w ∧ ∃ v' g', Ending.returned v = .returned v' ∧ g1.w = g'.w ∧ Step g st g' st' ∧ SR E g' st' ∧ VR E g' r v' := by
            refine ⟨hS1.df, ?_⟩
            obtain ⟨v, hv1, hv2⟩ := res_ok hS1 hrs (by rw [← h3]; exact hr)
            unfold trimO at hs2
            cases ht : trim st.length ⟨[(0, r)], s.st⟩ with
            | none =>
              rw [ht] at hs2
              subst hs2
              exact ⟨v, hv1, v, g1, rfl, rfl, hs1, hS1.sr, hv2⟩
            | some s2 =>
              rw [ht] at hs2
              subst hs2
              refine ⟨v, hv1, v, g1.cut st.length, rfl, rfl, ?_⟩
              unfold trim at ht
              split at ht
              · rename_i hcd
                cases ht
                simp only [List.all_cons, List.all_nil, Bool.and_true, Bool.and_eq_true] at hcd
                obtain ⟨k1, k2⟩ := hS1.sr.cut hs1 hS hcd.2
                exact ⟨k1, k2, blw_ok blwD _ _ hv2 hcd.1⟩
              · cases ht
          cases x with
          | nrm => exact hfin
          | ret => exact hfin
          | exit id => simp [isEnd] at hend
        · cases hcall
    · cases hcall
  · cases hcomp
theorem callF_pure {T : Nat → Option F} {evc : C → S → Option (X × S)} : PureC (fun f => (T f).any (·.pure)) (callF T evc) := by
  intro f hp args st u st' hcall
  simp only at hp
  unfold callF at hcall ⊢
  cases hf : T f with
  | none => rw [hf] at hp; simp at hp
  | some fn =>
    rw [hf] at hp hcall
    simp only [Option.any_some] at hp
    simp only [Option.bind_some] at hcall ⊢
    split at hcall
    · rename_i hlen
      obtain ⟨us, hus, hcall⟩ := Option.bind_eq_some_iff.1 hcall
      obtain ⟨⟨x, s⟩, hev, hcall⟩ := Option.bind_eq_some_iff.1 hcall
      simp only at hcall
      split at hcall
      · rename_i hend
        obtain ⟨r, hr, hcall⟩ := Option.bind_eq_some_iff.1 hcall
        obtain ⟨⟨r', st2⟩, hfz, hcall⟩ := Option.bind_eq_some_iff.1 hcall
        simp only [Option.some.injEq, Prod.mk.injEq] at hcall
        obtain ⟨rfl, rfl⟩ := hcall
        refine ⟨rfl, fun st2 h2 => ?_⟩
        rw [h2, hus]
        simp [hlen, hp, hev, hend, hr, hfz]
      · cases hcall
    · cases hcall
theorem call_ok {T : Nat → Option F} (hT : TabOK E T) : ∀ n, CallOK E (call T n) ∧ ∀ (N : Nat) (H : Nat → RH), LoopOK E N H (ev T n)
  | 0 => ⟨callF_ok hT fun n H k c s s' x a g Q _ h => by simp [ev] at h, fun N H k c s s' x _ h => by simp [ev] at h⟩
  | n + 1 => by
    obtain ⟨ih1, ih2⟩ := call_ok hT n
    have hp : PureC (fun f => (T f).any (·.pure)) (callF T (ev T n)) := callF_pure
    refine ⟨callF_ok hT fun N H k c s s' x a g Q h1 h2 h3 h4 => ?_, fun N H => ?_⟩
    · have h2' : evC (fun f => (T f).any (·.pure)) (callF T (ev T n)) (ev T n) c s = some (x, s') := h2
      exact code_ok (call := callF T (ev T n)) ih1 hp (ih2 N H) k c s s' x a g Q h1 h2' h3 h4
    · exact loop_ok (call := callF T (ev T n)) ih1 hp (ih2 N H)
end
def tiles (P : Program) : Nat → List Field → Option Nat
  | off, [] => some off
  | off, f :: fs => if f.offset = off then tiles P (off + P.cellsOf f.type) fs else none
def plainT (P : Program) : Nat → TypeId → Bool
  | 0, _ => false
  | d + 1, t => match P.underlying t with
    | some .bool | some (.int _) | some .string => true
    | some (.slice e) => plainT P d e && decide (0 < P.cellsOf e)
    | some (.struct fs) => fs.toList.all (fun f => plainT P d f.type) && tiles P 0 fs.toList == some (P.cellsOf t)
    | some (.array n e) => plainT P d e && P.cellsOf t == n * P.cellsOf e
    | _ => false
def Typed (P : Program) : Nat → TypeId → List U → Prop
  | 0, _, _ => False
  | d + 1, t, us => match P.underlying t with
    | some .bool => ∃ b, us = [.bool b]
    | some (.int k) => ∃ n, us = [.int k n] ∧ (Lit.int k n).wf = true
    | some .string => ∃ s, us = [.str s] ∧ s.length ≤ maxLen
    | some (.slice e) => ∃ xs, us = [.sl true xs] ∧ xs.length ≤ maxLen ∧ ∀ x ∈ xs, Typed P d e x ∧ x.length = P.cellsOf e
    | some (.struct fs) => us.length = P.cellsOf t ∧ ∀ f ∈ fs.toList, Typed P d f.type ((us.drop f.offset).take (P.cellsOf f.type))
    | some (.array n e) => us.length = P.cellsOf t ∧ ∀ i, i < n → Typed P d e ((us.drop (i * P.cellsOf e)).take (P.cellsOf e))
    | _ => False
theorem mapM_some {α β : Type} {f : α → Option β} : ∀ {l : List α} {r : List β}, l.mapM f = some r → ∀ x ∈ l, ∃ y, f x = some y
  | [], _, _, x, hx => by simp at hx
  | a :: l, r, h, x, hx => by
    rw [List.mapM_cons] at h
    simp only [Option.bind_eq_bind, Option.bind_eq_some_iff] at h
    obtain ⟨y, h1, r', h2, _⟩ := h
    rcases List.mem_cons.1 hx with rfl | hx
    · exact ⟨y, h1⟩
    · exact mapM_some h2 x hx
theorem mapM_len {α β : Type} {f : α → Option β} : ∀ {l : List α} {r : List β}, l.mapM f = some r → r.length = l.length ∧ ∀ (i : Nat) x, l[i]? = some x → ∃ y, r[i]? = some y ∧ f x = some y
  | [], r, h => by simp at h; subst h; simp
  | a :: l, r, h => by
    rw [List.mapM_cons] at h
    simp only [Option.bind_eq_bind, Option.bind_eq_some_iff] at h
    obtain ⟨y, h1, r', h2, h3⟩ := h
    simp at h3
    subst h3
    obtain ⟨k1, k2⟩ := mapM_len h2
    refine ⟨by simp [k1], fun i x hx => ?_⟩
    cases i with
    | zero => simp at hx; subst hx; exact ⟨y, by simp, h1⟩
    | succ i => simp at hx; obtain ⟨z, hz, hz'⟩ := k2 i x hx; exact ⟨z, by simpa using hz, hz'⟩
theorem cell_spot {w : World} {a : Addr} {v : Value} (h : w.cell? a = some v) : a.spot = none ∧ a.block < w.heap.size := by
  unfold World.cell? at h
  split at h
  · rename_i hh
    split at h
    · cases h
    · rename_i hs
      exact ⟨by simpa using hs, (Array.getElem?_eq_some_iff.1 hh).1⟩
  · cases h
theorem cells_get {w : World} {base n : Nat} {a : Addr} {cs : List Value} (h : w.cells? base a n = some cs) : cs.length = n ∧ ∀ (k : Nat) v, cs[k]? = some v → w.cell? (a.add k) = some v := by
  unfold World.cells? at h
  split at h
  · obtain ⟨h1, h2⟩ := mapM_len h
    simp at h1
    refine ⟨h1, fun k v hk => ?_⟩
    have hlt := (List.getElem?_eq_some_iff.1 hk).1
    obtain ⟨y, hy, hy'⟩ := h2 k k (by rw [List.getElem?_range (by omega)])
    rw [hk] at hy
    cases hy
    exact hy'
  · cases h
def fieldAt (e : TypeId) (z i : Nat) : Field := { (default : Field) with offset := i * z, type := e }
theorem tiles_rep {P : Program} (e : TypeId) : ∀ (n k : Nat), tiles P (k * P.cellsOf e) ((List.range' k n).map (fieldAt e (P.cellsOf e))) = some ((k + n) * P.cellsOf e)
  | 0, k => by simp [tiles]
  | n + 1, k => by
    rw [List.range'_succ, List.map_cons]
    simp only [tiles, fieldAt, if_true]
    rw [show k * P.cellsOf e + P.cellsOf e = (k + 1) * P.cellsOf e by rw [Nat.add_mul, Nat.one_mul]]
    have := tiles_rep (P := P) e n (k + 1)
    rw [show k + 1 + n = k + (n + 1) by omega] at this
    exact this
section
variable {E : En} {g : G} {H : Type} {enc : TypeId × Value → H}
theorem read_parts (hF : ∀ b, b < g.w.heap.size → g.F b) {base : Nat} {spare : Nat → Bool} {held : Bool} {d : Nat}
    (ih : ∀ (fuel : Nat) (t : TypeId) (cs : List Value) (x : DataW H × List MemPlace), plainT E.P d t = true → DataW.trod enc E.P g.w base spare held fuel t cs = some x → ∃ us, VRs E g us cs ∧ One cs ∧ Clos true us ∧ Typed E.P d t us)
    {fuel : Nat} {e : TypeId} (he : plainT E.P d e = true) (hz : 0 < E.P.cellsOf e) {b o : Nat} :
    ∀ (n : Nat), (∀ i, i < n → ∃ y, ((g.w.cells? base (⟨b, o + i * E.P.cellsOf e, none⟩) (E.P.cellsOf e)).bind (DataW.trod enc E.P g.w base spare held fuel e)) = some y) →
      ∃ (xs : List (List U)) (vs : List Value), xs.length = n ∧ vs.length = n * E.P.cellsOf e ∧ VRs E g xs.flatten vs ∧ One vs ∧ Closs true xs ∧ (∀ x ∈ xs, Typed E.P d e x ∧ x.length = E.P.cellsOf e) ∧ ∀ (k : Nat) v, vs[k]? = some v → g.w.cell? ⟨b, o + k, none⟩ = some v
  | 0, _ => ⟨[], [], rfl, by simp, by simp [VRs], by simp [One], by simp [Closs], by simp, by simp⟩
  | n + 1, h => by
    obtain ⟨xs, vs, h1, h2, h3, h4, h5, h6, h7⟩ := read_parts hF ih he hz n (fun i hi => h i (by omega))
    obtain ⟨y, hy⟩ := h n (by omega)
    obtain ⟨cs, hcs, hy⟩ := Option.bind_eq_some_iff.1 hy
    obtain ⟨c1, c2⟩ := cells_get hcs
    obtain ⟨us, k1, k2, k3, k4⟩ := ih _ _ _ _ he hy
    refine ⟨xs ++ [us], vs ++ cs, by simp [h1], by simp [h2, c1, Nat.add_mul], by rw [List.flatten_append]; simpa using h3.append k1, ?_, ?_, ?_, ?_⟩
    · intro x hx
      rcases List.mem_append.1 hx with hx | hx
      · exact h4 x hx
      · exact k2 x hx
    · rw [Closs_iff]
      intro x hx
      rcases List.mem_append.1 hx with hx | hx
      · exact Closs_iff.1 h5 x hx
      · simp at hx; subst hx; exact k3
    · intro x hx
      rcases List.mem_append.1 hx with hx | hx
      · exact h6 x hx
      · simp at hx; subst hx; exact ⟨k4, by rw [k1.length, c1]⟩
    · intro k v hk
      rw [List.getElem?_append] at hk
      split at hk
      · exact h7 k v hk
      · rename_i hge
        have := c2 _ v hk
        rw [add_none] at this
        rw [h2] at this hge
        rwa [show o + n * E.P.cellsOf e + (k - n * E.P.cellsOf e) = o + k by omega] at this
theorem read_fields {base : Nat} {spare : Nat → Bool} {held : Bool} {d fuel : Nat}
    (ih : ∀ (t : TypeId) (cs : List Value) (x : DataW H × List MemPlace), plainT E.P d t = true → DataW.trod enc E.P g.w base spare held fuel t cs = some x → ∃ us, VRs E g us cs ∧ One cs ∧ Clos true us ∧ Typed E.P d t us) {cs : List Value} :
    ∀ (fs : List Field) (off fin : Nat), tiles E.P off fs = some fin → fin ≤ cs.length → (∀ f ∈ fs, plainT E.P d f.type = true) → (∀ f ∈ fs, ∃ y, DataW.trod enc E.P g.w base spare held fuel f.type ((cs.drop f.offset).take (E.P.cellsOf f.type)) = some y) →
      off ≤ fin ∧ ∃ us, VRs E g us ((cs.drop off).take (fin - off)) ∧ One ((cs.drop off).take (fin - off)) ∧ Clos true us ∧ us.length = fin - off ∧ ∀ f ∈ fs, off ≤ f.offset ∧ Typed E.P d f.type ((us.drop (f.offset - off)).take (E.P.cellsOf f.type))
  | [], off, fin, h, _, _, _ => by
    simp [tiles] at h
    subst h
    exact ⟨Nat.le_refl _, [], by simp [VRs], by simp [One], by simp [Clos], by simp, by simp⟩
  | f :: fs, off, fin, h, hl, hp, hr => by
    simp only [tiles] at h
    split at h
    · rename_i hoff
      obtain ⟨k0, us, k1, k2, k3, k4, k5⟩ := read_fields ih fs (off + E.P.cellsOf f.type) fin h hl (fun x hx => hp x (by simp [hx])) (fun x hx => hr x (by simp [hx]))
      obtain ⟨y, hy⟩ := hr f (by simp)
      obtain ⟨vs, m1, m2, m3, m4⟩ := ih _ _ _ (hp f (by simp)) hy
      rw [hoff] at m1 m2
      have hvl : vs.length = E.P.cellsOf f.type := by rw [m1.length]; simp; omega
      have hcut : (cs.drop off).take (fin - off) = (cs.drop off).take (E.P.cellsOf f.type) ++ (cs.drop (off + E.P.cellsOf f.type)).take (fin - (off + E.P.cellsOf f.type)) := by
        rw [show fin - off = E.P.cellsOf f.type + (fin - (off + E.P.cellsOf f.type)) by omega, List.take_add, List.drop_drop]
      refine ⟨by omega, vs ++ us, by rw [hcut]; exact m1.append k1, ?_, ?_, by simp [hvl, k4]; omega, ?_⟩
      · rw [hcut]
        intro x hx
        rcases List.mem_append.1 hx with hx | hx
        · exact m2 x hx
        · exact k2 x hx
      · rw [Clos_iff]
        intro x hx
        rcases List.mem_append.1 hx with hx | hx
        · exact Clos_iff.1 m3 x hx
        · exact Clos_iff.1 k3 x hx
      · intro x hx
        rcases List.mem_cons.1 hx with rfl | hx
        · refine ⟨by omega, ?_⟩
          rw [hoff, Nat.sub_self, List.drop_zero, ← hvl, List.take_left]
          exact m4
        · obtain ⟨n1, n2⟩ := k5 x hx
          refine ⟨by omega, ?_⟩
          rw [List.drop_append, List.drop_eq_nil_of_le (by omega), List.nil_append]
          rw [show x.offset - off - vs.length = x.offset - (off + E.P.cellsOf f.type) by omega]
          exact n2
    · cases h
theorem read_ok (hF : ∀ b, b < g.w.heap.size → g.F b) {base : Nat} {spare : Nat → Bool} {held : Bool} : ∀ (d fuel : Nat) (t : TypeId) (cs : List Value) (x : DataW H × List MemPlace), plainT E.P d t = true → DataW.trod enc E.P g.w base spare held fuel t cs = some x →
    ∃ us, VRs E g us cs ∧ One cs ∧ Clos true us ∧ Typed E.P d t us
  | 0, fuel, t, cs, x, h, _ => by simp [plainT] at h
  | d + 1, 0, t, cs, x, _, h => by simp [DataW.trod] at h
  | d + 1, fuel + 1, t, cs, x, hp, h => by
    have ih := read_ok hF (base := base) (spare := spare) (held := held) d
    unfold plainT at hp
    unfold DataW.trod at h
    simp only [Typed]
    split at hp <;> rename_i hu
    · simp only [hu] at h ⊢
      split at h <;> first
        | (rename_i b he; cases he; exact ⟨[.bool b], by simp [VRs, VR], by simp [One, Value.oneCell'], by simp [Clos, Clo], b, rfl⟩)
        | (rename_i he _; cases he; done)
        | (rename_i he; cases he; done)
        | cases h
    · rename_i k
      simp only [hu] at h ⊢
      split at h <;> first
        | (rename_i k2 k' n he
           cases he
           split at h
           · rename_i hc
             obtain ⟨rfl, hwf⟩ := hc
             exact ⟨[.int k' n], by simp [VRs, VR], by simp [One, Value.oneCell'], by simp [Clos, Clo], n, rfl, hwf⟩
           · cases h)
        | (rename_i he _; cases he; done)
        | (rename_i he; cases he; done)
        | cases h
    · simp only [hu] at h ⊢
      split at h <;> first
        | (rename_i sx he
           cases he
           split at h
           · rename_i hc
             refine ⟨[.str sx.data.toList], by simp [VRs, VR], by simp [One, Value.oneCell'], by simp [Clos, Clo], sx.data.toList, rfl, ?_⟩
             have : sx.size = sx.data.toList.length := by rw [Array.length_toList]; rfl
             omega
           · cases h)
        | (rename_i he _; cases he; done)
        | (rename_i he; cases he; done)
        | cases h
    · rename_i e
      simp only [Bool.and_eq_true, decide_eq_true_eq] at hp
      obtain ⟨hpe, hz⟩ := hp
      simp only [hu] at h ⊢
      have nils : ∀ {c : Value}, c = .slice none 0 0 ∨ (∃ a n, c = .slice a 0 n) → ∃ us, VRs E g us [c] ∧ One [c] ∧ Clos true us ∧ ∃ xs, us = [.sl true xs] ∧ xs.length ≤ maxLen ∧ ∀ x ∈ xs, Typed E.P d e x ∧ x.length = E.P.cellsOf e := by
        intro c hc
        refine ⟨[.sl true []], ?_, ?_, by simp [Clos, Clo, Closs], [], rfl, by simp, by simp⟩
        · rcases hc with rfl | ⟨a, n, rfl⟩ <;> simp [VRs, VR, Closs]
        · rcases hc with rfl | ⟨a, n, rfl⟩ <;> simp [One, Value.oneCell']
      split at h <;> (try (rename_i he; cases he; done)) <;> (try (cases h; done))
      · exact nils (.inl rfl)
      · rename_i e2 ad len cap he
        cases he
        split at h
        · rename_i hc
          obtain ⟨elems, h1, h⟩ := Option.bind_eq_some_iff.1 h
          obtain ⟨m1, m2⟩ := mapM_len h1
          simp at m1
          have each : ∀ i, i < len → ∃ y, ((g.w.cells? base (ad.add (i * E.P.cellsOf e)) (E.P.cellsOf e)).bind (DataW.trod enc E.P g.w base spare held fuel e)) = some y := by
            intro i hi
            obtain ⟨y, _, hy⟩ := m2 i i (by rw [List.getElem?_range hi])
            exact ⟨y, hy⟩
          by_cases h0 : len = 0
          · subst h0
            exact nils (.inr ⟨_, _, rfl⟩)
          · have hspot : ad.spot = none ∧ ad.block < g.w.heap.size := by
              obtain ⟨y, hy⟩ := each 0 (by omega)
              obtain ⟨cs0, hcs, _⟩ := Option.bind_eq_some_iff.1 hy
              obtain ⟨c1, c2⟩ := cells_get hcs
              have := c2 0 cs0[0] (List.getElem?_eq_getElem (by omega))
              simp only [Nat.zero_mul, Addr.add, if_true] at this
              exact cell_spot this
            obtain ⟨b, o, sp⟩ := ad
            simp only at hspot
            obtain ⟨rfl, hb⟩ := hspot
            obtain ⟨xs, vs, k1, k2, k3, k4, k5, k6, k7⟩ := read_parts hF ih hpe hz len (fun i hi => by have := each i hi; rwa [add_none] at this)
            refine ⟨[.sl true xs], ?_, by simp [One, Value.oneCell'], ?_, xs, rfl, by omega, k6⟩
            · simp only [VRs, VR]
              refine ⟨_, [], rfl, ⟨k5, some ⟨b, o, none⟩, cap, by rw [k1], by omega, fun _ => ⟨b, o, E.P.cellsOf e, vs, rfl, ⟨.inl (hF b hb), k4, k7⟩, fun x hx => (k6 x hx).2, VRss_flat.2 k3⟩⟩, rfl⟩
            · simp only [Clos, Clo, and_true]
              exact ⟨by simp, k5⟩
        · cases h
    · rename_i fs
      simp only [Bool.and_eq_true, List.all_eq_true, beq_iff_eq] at hp
      obtain ⟨hpf, htl⟩ := hp
      simp only [hu] at h ⊢
      split at h
      · rename_i hc
        simp only [Option.map_eq_some_iff] at h
        obtain ⟨ys, h1, _⟩ := h
        obtain ⟨_, us, k1, k2, k3, k4, k5⟩ := read_fields (fun t cs x hp hx => ih fuel t cs x hp hx) fs.toList 0 _ htl (by omega) hpf (fun f hf => mapM_some h1 f hf)
        rw [List.drop_zero, Nat.sub_zero, ← hc, List.take_length] at k1 k2
        exact ⟨us, k1, k2, k3, by omega, fun f hf => by have := (k5 f hf).2; rwa [Nat.sub_zero] at this⟩
      · cases h
    · rename_i n e
      simp only [Bool.and_eq_true, beq_iff_eq] at hp
      obtain ⟨hpe, hsz⟩ := hp
      simp only [hu] at h ⊢
      split at h
      · rename_i hc
        simp only [Option.map_eq_some_iff] at h
        obtain ⟨ys, h1, _⟩ := h
        obtain ⟨_, us, k1, k2, k3, k4, k5⟩ := read_fields (fun t cs x hp hx => ih fuel t cs x hp hx) (cs := cs) ((List.range' 0 n).map (fieldAt e (E.P.cellsOf e))) 0 (n * E.P.cellsOf e) (by have := tiles_rep (P := E.P) e n 0; simpa using this) (by omega) (by
          intro f hf
          obtain ⟨i, _, rfl⟩ := List.mem_map.1 hf
          exact hpe) (by
          intro f hf
          obtain ⟨i, hi, rfl⟩ := List.mem_map.1 hf
          exact mapM_some h1 i (by rw [List.range_eq_range']; exact hi))
        rw [List.drop_zero, Nat.sub_zero, ← hsz, ← hc, List.take_length] at k1 k2
        refine ⟨us, k1, k2, k3, by omega, fun i hi => ?_⟩
        have := (k5 (fieldAt e (E.P.cellsOf e) i) (List.mem_map.2 ⟨i, by rw [List.mem_range'_1]; omega, rfl⟩)).2
        simpa [fieldAt] using this
      · cases h
    · cases hp
end
end Go.Proofs.YtfmhnfimkpffnaaGreatDoor.M2
namespace Go.Proofs.YtfmhnfimkpffnaaGreatDoor.M2
open Go Go.ChangeShapes Go.WideShapes Go.ChangeAt Go.RowKit
section
variable {H : Type} {enc : TypeId × Value → H} {P : Program}
theorem trodAll_below (hl : laidOutB P = true) {W W' : World} (hb : Below W.heap.size W W') (sp : Nat → Bool) : ∀ (ts : List TypeId) (vs : List Value) (ds : List (DataW H)) (ps : List MemPlace), (∀ t ∈ ts, P.readableRec t = true ∧ t < P.types.size) →
    DataW.TrodAll enc P W 0 (fun _ => true) true ts vs ds ps → (∀ x ∈ ps, x.block < W.heap.size ∧ sp x.block = true) → DataW.TrodAll enc P W' 0 sp true ts vs ds ps
  | [], [], [], ps, _, h, _ => h
  | t :: ts, v :: vs, d :: ds, ps, ht, h, hp => by
    obtain ⟨p, q, h1, h2, rfl⟩ := h
    refine ⟨p, q, ?_, trodAll_below hl hb sp ts vs ds q (fun x hx => ht x (by simp [hx])) h2 (fun x hx => hp x (by simp [hx])), rfl⟩
    obtain ⟨r1, r2⟩ := ht t (by simp)
    exact WideElems.Trod_stays hl r1 r2 h1 (fun x hx => hb.same (hp x (by simp [hx])).1) (fun x hx => (hp x (by simp [hx])).2)
  | [], _ :: _, _, _, _, h, _ => h.elim
  | [], [], _ :: _, _, _, h, _ => h.elim
  | _ :: _, [], _, _, _, h, _ => h.elim
  | _ :: _, _ :: _, [], _, _, h, _ => h.elim
theorem post_below (hl : laidOutB P = true) {f : Func} {s : ChangeSpec} {apart fresh handsOn again : Bool} {W W' : World} {args : Array Value} {ds gs : List (DataW H)} {before : List MemPlace} {b : Bool} {tb : TypeId}
    (hvars : s.vars = []) (hread : ∀ t ∈ f.params.toList, P.readableRec t = true ∧ t < P.types.size) (hW : DataW.Whole enc P f.params.toList s.vars apart W args.toList ds gs before) (hb : Below W.heap.size W W')
    (hr : f.resultTypes = #[tb]) (htb : P.underlying tb = some .bool) (hs : s.fn H (ds ++ gs) = { results := [.lit (.bool b)], args := ds }) : s.post enc P f apart fresh handsOn again W args (.bool b) W' := by
  have hW0 := hW
  obtain ⟨p, q, hA, hV, rfl, hfz, hnd⟩ := hW
  rw [hvars] at hV
  obtain ⟨rfl, rfl⟩ := trodVars_none hV
  have hlt : ∀ x ∈ p, x.block < W.heap.size := fun x hx => hW0.lt x (by simpa using hx)
  have hres : ∀ (bs : Nat) (sp : Nat → Bool) (hd : Bool), DataW.TrodAll enc P W' bs sp hd f.resultTypes.toList ((Value.bool b).resultList f.resultTypes.size) (s.fn H (ds ++ [])).results [] := by
    intro bs sp hd
    rw [hs, hr]
    exact trodAll_mk1 (shut_bool htb b)
  have hargs : ∀ sp : Nat → Bool, (∀ x ∈ p, sp x.block = true) → DataW.TrodAll enc P W' 0 sp true f.params.toList args.toList (s.fn H (ds ++ [])).args p := by
    intro sp hsp
    rw [hs]
    exact trodAll_below hl hb sp _ _ _ _ hread hA (fun x hx => ⟨hlt x hx, hsp x hx⟩)
  have hvs : ∀ sp : Nat → Bool, DataW.TrodVars enc P W' sp s.vars (s.fn H (ds ++ [])).vars [] := by
    intro sp
    rw [hs, hvars]
    exact rfl
  refine ⟨ds, [], _, [], p, [], hW0, hres _ _ _, hargs _ (fun x hx => by simpa using hlt x hx), hvs _, hb.frame _, fun _ => ?_⟩
  refine ⟨ok_one hr rfl (okWide_bool_mk htb b), _, _, ([] ++ p) ++ [], ⟨[] ++ p, [], trodAll_append (hargs _ (fun _ _ => rfl)) (hres _ _ _), hvs _, rfl, ?_, ?_⟩, ?_⟩
  · intro bl off hp
    simp at hp
    rw [hb.frozen (show bl < W.heap.size from hlt _ hp)]
    exact hfz bl off (by simpa using hp)
  · intro ha
    have := hnd ha
    simpa using this
  · intro x hx _
    simpa using hx
end
section
variable {E : En}
def aggT (P : Program) (t : TypeId) : Bool := match P.underlying t with
  | some (.struct _) | some (.array _ _) => true
  | _ => false
def TypedA (P : Program) (d : Nat) (t : TypeId) (u : U) : Prop := if aggT P t = true then ∃ cs, u = .agg cs ∧ Typed P d t cs else Typed P d t [u]
theorem TypedA.one {P : Program} {d : Nat} {t : TypeId} {u : U} (h : TypedA P d t u) (ht : aggT P t = false) : Typed P d t [u] := by
  unfold TypedA at h
  rw [ht] at h
  simpa using h
theorem TypedA.cells {P : Program} {d : Nat} {t : TypeId} {u : U} (h : TypedA P d t u) (ht : aggT P t = true) : ∃ cs, u = .agg cs ∧ Typed P d t cs := by
  unfold TypedA at h
  rw [if_pos ht] at h
  exact h
def g0 (W : World) : G := { w := W, F := fun b => b < W.heap.size, Ft := fun b => b < W.heap.size, D := fun _ => False, vr := fun _ => .nilIface, vb := fun _ => 0, len := fun _ => 0, es := fun _ => 0 }
theorem g0_ok (W : World) : SR E (g0 W) [] where
  dom id := by simp [g0]
  ob id o ho := by simp at ho
  fr id o b ho := by simp at ho
  ne i j o o' b ho := by simp at ho
  lt b hb := by
    rcases hb with hb | ⟨_, hb⟩
    · exact hb
    · exact hb
def paramT (P : Program) (d : Nat) (t : TypeId) : Bool := plainT P d t && (match P.underlying t with | none => false | _ => true)
theorem args_ok {H : Type} {enc : TypeId × Value → H} {W : World} {base : Nat} {d : Nat} : ∀ (ts : List TypeId) (vs : List Value) (ds : List (DataW H)) (ps : List MemPlace), (∀ t ∈ ts, paramT E.P d t = true) →
    (∀ (j : Nat) t v, ts[j]? = some t → vs[j]? = some v → Value.okWide E.P W .any base t v) → DataW.TrodAll enc E.P W 0 (fun _ => true) true ts vs ds ps →
    ∃ us, VRs E (g0 W) us vs ∧ us.length = ts.length ∧ ∀ (j : Nat) t u, ts[j]? = some t → us[j]? = some u → TypedA E.P d t u
  | [], [], [], ps, _, _, _ => ⟨[], by simp [VRs], rfl, by simp⟩
  | t :: ts, v :: vs, x :: ds, ps, hp, hval, h => by
    obtain ⟨p, q, ⟨fuel, h1⟩, h2, rfl⟩ := h
    obtain ⟨us, k1, k2, k3⟩ := args_ok ts vs ds q (fun y hy => hp y (by simp [hy])) (fun j t v ht hv => hval (j + 1) t v (by simpa using ht) (by simpa using hv)) h2
    have hpt := hp t (by simp)
    unfold paramT at hpt
    simp only [Bool.and_eq_true] at hpt
    have hv := hval 0 t v rfl rfl
    have key : ∃ u, VR E (g0 W) u v ∧ TypedA E.P d t u := by
      cases hag : aggT E.P t with
      | true =>
        have hag2 : ∃ cs, v = .agg cs := by
          unfold aggT at hag
          unfold Value.okWide at hv
          cases hu : E.P.underlying t with
          | none => rw [hu] at hag; simp at hag
          | some td => cases td <;> rw [hu] at hv hag <;> simp at hag hv <;> (obtain ⟨cs, e, _⟩ := hv; exact ⟨cs, e⟩)
        obtain ⟨cs, rfl⟩ := hag2
        have hcells : (Value.agg cs).cells = cs := rfl
        rw [hcells] at h1
        obtain ⟨ws, m1, m2, _, m4⟩ := read_ok (E := E) (g := g0 W) (fun b hb => hb) d fuel t cs.toList _ hpt.1 h1
        refine ⟨.agg ws, by simp only [VR]; exact ⟨cs, rfl, m2, m1⟩, ?_⟩
        unfold TypedA
        rw [if_pos hag]
        exact ⟨ws, rfl, m4⟩
      | false =>
        have hcells : v.cells = #[v] := by
          have hna : ∀ cs, v ≠ .agg cs := by
            rintro cs rfl
            unfold aggT at hag
            unfold Value.okWide at hv
            cases hu : E.P.underlying t with
            | none => rw [hu] at hpt; simp at hpt
            | some td => cases td <;> rw [hu] at hv hag <;> simp [Cell.okWide, Cell.ok, hu] at hv hag
          cases v <;> first | rfl | exact absurd rfl (hna _)
        rw [hcells] at h1
        obtain ⟨ws, m1, _, _, m4⟩ := read_ok (E := E) (g := g0 W) (fun b hb => hb) d fuel t [v] _ hpt.1 h1
        have hl := m1.length
        obtain ⟨u, rfl⟩ : ∃ u, ws = [u] := by
          cases ws with
          | nil => simp at hl
          | cons u r => cases r with
            | nil => exact ⟨u, rfl⟩
            | cons _ _ => simp at hl
        simp only [VRs] at m1
        obtain ⟨v', r, e, hv', _⟩ := m1
        cases e
        refine ⟨u, hv', ?_⟩
        unfold TypedA
        rw [hag]
        simpa using m4
    obtain ⟨u, hv', m4⟩ := key
    refine ⟨u :: us, by simp only [VRs]; exact ⟨v, vs, rfl, hv', k1⟩, by simp [k2], fun j t' u' ht hu => ?_⟩
    cases j with
    | zero => simp at ht hu; subst ht; subst hu; exact m4
    | succ j => exact k3 j t' u' (by simpa using ht) (by simpa using hu)
  | [], _ :: _, _, _, _, _, h => h.elim
  | [], [], _ :: _, _, _, _, h => h.elim
  | _ :: _, [], _, _, _, _, h => h.elim
  | _ :: _, _ :: _, [], _, _, _, h => h.elim
theorem law_calls {T : Nat → Option F} (hT : TabOK E T) {f : Nat} {d : Nat} {W : World} {H : Type} {enc : TypeId × Value → H} {base : Nat} {ts : List TypeId} {args : Array Value} {ds : List (DataW H)} {ps : List MemPlace} (hG : GlobOK E (g0 W))
    (hp : ∀ t ∈ ts, paramT E.P d t = true) (hval : ∀ (j : Nat) t v, ts[j]? = some t → args[j]? = some v → Value.okWide E.P W .any base t v) (hA : DataW.TrodAll enc E.P W 0 (fun _ => true) true ts args.toList ds ps)
    (law : ∀ us, us.length = ts.length → (∀ (j : Nat) t u, ts[j]? = some t → us[j]? = some u → TypedA E.P d t u) → ∃ n, M2.call T n f us [] = some (.bool true, [])) :
    Calls E.P f args W fun e W' => e = .returned (.bool true) ∧ Below W.heap.size W W' := by
  obtain ⟨us, h1, h2, h3⟩ := args_ok ts args.toList ds ps hp (fun j t v ht hv => hval j t v ht (by simpa using hv)) hA
  obtain ⟨n, hn⟩ := law us h2 h3
  have hc := ((call_ok hT n).1 f us [] _ _ hn (g0 W) args.toList (g0_ok W) hG h1).2
  rw [Array.toArray_toList] at hc
  refine Calls.mono hc ?_
  rintro e w' ⟨v, g', rfl, rfl, hs, _, hv⟩
  simp only [VR] at hv
  subst hv
  exact ⟨rfl, hs.os, hs.tape, hs.output, hs.size, fun k hk => hs.old k hk (by rintro ⟨id, o, ho, _⟩; simp at ho)⟩
end
end Go.Proofs.YtfmhnfimkpffnaaGreatDoor.M2
namespace Go.Proofs.YtfmhnfimkpffnaaGreatDoor.M2
open Go
section
variable {T : Nat → Option F}
abbrev pfT (T : Nat → Option F) : Nat → Bool := fun f => (T f).any (·.pure)
def Evt (p : Nat → Prop) : Prop := ∃ N, ∀ n, N ≤ n → p n
theorem Evt.all {p : Nat → Prop} (h : ∀ n, p n) : Evt p := ⟨0, fun n _ => h n⟩
theorem Evt.and {p q : Nat → Prop} (h : Evt p) (k : Evt q) : Evt fun n => p n ∧ q n := by
  obtain ⟨N, h⟩ := h
  obtain ⟨M, k⟩ := k
  exact ⟨max N M, fun n hn => ⟨h n (by omega), k n (by omega)⟩⟩
theorem Evt.mono {p q : Nat → Prop} (h : Evt p) (k : ∀ n, p n → q n) : Evt q := h.imp fun _ h n hn => k n (h n hn)
theorem Evt.pred {p : Nat → Prop} (h : Evt p) : Evt fun n => ∃ m, n = m + 1 ∧ p m := by
  obtain ⟨N, h⟩ := h
  exact ⟨N + 1, fun n hn => ⟨n - 1, by omega, h _ (by omega)⟩⟩
def Ev (T : Nat → Option F) (c : C) (s : S) (x : X) (s' : S) : Prop := Evt fun n => evC (pfT T) (M2.call T n) (ev T n) c s = some (x, s')
def Cl (T : Nat → Option F) (f : Nat) (args : List U) (st : List Ob) (u : U) (st' : List Ob) : Prop := Evt fun n => M2.call T n f args st = some (u, st')
def Os (T : Nat → Option F) (s : S) (l : List O) (s' : S) : Prop := Evt fun n => evOs (M2.call T n) s l = some s'
def Ds (T : Nat → Option F) (nid : Nat) (s : S) (done : List (O × Touch)) (l : List O) (bef : List Nat) (s' : S) : Prop := Evt fun n => evDs (pfT T) (M2.call T n) nid s done l bef = some s'
theorem Ev.fuel {c : C} {s s' : S} {x : X} (h : Ev T c s x s') : Evt fun n => ev T n c s = some (x, s') :=
  h.pred.mono fun n ⟨m, hm, h⟩ => by subst hm; exact h
theorem Ev.skip {s : S} : Ev T .skip s .nrm s := .all fun _ => rfl
theorem Ev.ret {s : S} : Ev T .ret s .ret s := .all fun _ => rfl
theorem Ev.exit {s : S} {id : Nat} : Ev T (.exit id) s (.exit id) s := .all fun _ => rfl
theorem Ev.ops {s s' : S} {l : List O} {live : List Nat} (h : Os T s l s') : Ev T (.ops l live) s .nrm ⟨keep live s'.env, s'.st⟩ :=
  h.mono fun n h => by simp only [evC, h, Option.bind_some]
theorem Ev.opsD {s s' : S} {l : List O} {bef live : List Nat} (h : Ds T s.st.length ⟨s.env, s.st ++ List.replicate ((l.map (·.op.need)).sum) .hole⟩ [] l bef s') : Ev T (.opsD l bef live) s .nrm ⟨keep live s'.env, s'.st⟩ :=
  h.mono fun n h => by simp only [evC, h, Option.bind_some]
theorem Ev.seq {a b : C} {s s1 s2 : S} {x : X} (h : Ev T a s .nrm s1) (k : Ev T b s1 x s2) : Ev T (.seq a b) s x s2 :=
  (h.and k).mono fun n ⟨h, k⟩ => by simp only [evC, h, Option.bind_some, k]
theorem Ev.seqExit {a b : C} {s s1 : S} {id : Nat} (h : Ev T a s (.exit id) s1) : Ev T (.seq a b) s (.exit id) s1 :=
  h.mono fun n h => by simp only [evC, h, Option.bind_some]
theorem Ev.seqRet {a b : C} {s s1 : S} (h : Ev T a s .ret s1) : Ev T (.seq a b) s .ret s1 :=
  h.mono fun n h => by simp only [evC, h, Option.bind_some]
theorem Ev.cond {c : A} {a b : C} {s s1 : S} {x : X} {t : Bool} (hc : c.ev s.env = .bool t) (h : Ev T (if t then a else b) s x s1) : Ev T (.cond c a b) s x s1 :=
  h.mono fun n h => by cases t <;> simp_all [evC]
theorem Ev.block {id : Nat} {c : C} {s s1 : S} {x : X} (h : Ev T c s x s1) : Ev T (.block id c) s (match x with | .exit i => if i = id then .nrm else .exit i | x => x) s1 :=
  h.mono fun n h => by
    simp only [evC, h, Option.bind_some]
    cases x with
    | exit i => by_cases hi : i = id <;> simp [hi]
    | nrm => rfl
    | ret => rfl
theorem Ev.loop {c : C} {s s1 s2 : S} {x : X} (h : Ev T c s .nrm s1) (k : Ev T (.loop c) (trimO s.st.length s1) x s2) : Ev T (.loop c) s x s2 :=
  (h.and k.fuel).mono fun n ⟨h, k⟩ => by simp only [evC, h, Option.bind_some, k]
theorem Ev.loopExit {c : C} {s s1 : S} {id : Nat} (h : Ev T c s (.exit id) s1) : Ev T (.loop c) s (.exit id) s1 :=
  h.mono fun n h => by simp only [evC, h, Option.bind_some]
theorem Ev.loopRet {c : C} {s s1 : S} (h : Ev T c s .ret s1) : Ev T (.loop c) s .ret s1 :=
  h.mono fun n h => by simp only [evC, h, Option.bind_some]
theorem Os.nil {s : S} : Os T s [] s := .all fun _ => rfl
theorem Os.cons {s s1 s2 : S} {o : O} {l : List O} (h : Evt fun n => evO (M2.call T n) s.st.length s o = some s1) (k : Os T s1 l s2) : Os T s (o :: l) s2 :=
  (h.and k).mono fun n ⟨h, k⟩ => by simp only [evOs, h, Option.bind_some, k]
theorem evOs_append {cl : Nat → List U → List Ob → Option (U × List Ob)} {m : List O} {s1 : S} {r : Option S} (k : evOs cl s1 m = r) : ∀ {l : List O} {s : S}, evOs cl s l = some s1 → evOs cl s (l ++ m) = r
  | [], s, h => by simp only [evOs, Option.some.injEq] at h; subst h; exact k
  | o :: l, s, h => by
    simp only [evOs, Option.bind_eq_some_iff] at h
    obtain ⟨s', h1, h2⟩ := h
    simp only [List.cons_append, evOs, h1, Option.bind_some]
    exact evOs_append k h2
theorem Os.append {s s1 s2 : S} {l m : List O} (h : Os T s l s1) (k : Os T s1 m s2) : Os T s (l ++ m) s2 := by
  exact (h.and k).mono fun n ⟨h, k⟩ => evOs_append k h
theorem call_evO {s : S} {d : Option Nat} {f : Nat} {as : List A} {u : U} {st' : List Ob} (h : Cl T f (as.map (·.ev s.env)) s.st u st') (nid : Nat) : Evt fun n => evO (M2.call T n) nid s ⟨d, .call f as, none⟩ = some ⟨put s.env d u, st'⟩ :=
  h.mono fun n h => by simp only [evO, ev1, h, Option.bind_some]
theorem Cl.pureA {f : Nat} {fn : F} {args as : List U} {st : List Ob} {s : S} {x : X} {u u' : U} {st2 : List Ob} (hT : T f = some fn) (hp : fn.pure = true) (hn : args.length = fn.nargs) (ha : allM (brwA frzD st) args = some as)
    (h : Ev T fn.body ⟨params 0 as, []⟩ x s) (hx : isEnd x = true) (hr : resU s fn.res = some u) (hf : frz frzD s.st u = some (u', st2)) : Cl T f args st u' st :=
  h.fuel.mono fun n h => by simp only [M2.call, callF, hT, Option.bind_some, hn, if_true, hp, ha, h, hx, hr, hf]
theorem brwA_of {d : Nat} {st : List Ob} : ∀ {us us' : List U}, allM (brw d st) us = some us' → allM (brwA d st) us = some us'
  | [], us', h => h
  | u :: us, us', h => by
    simp only [allM, Option.bind_eq_some_iff] at h ⊢
    obtain ⟨y, h1, ys, h2, h3⟩ := h
    refine ⟨y, ?_, ys, brwA_of h2, h3⟩
    cases u <;> first | exact h1 | skip
    cases d <;> simp [brw] at h1
theorem Cl.pure {f : Nat} {fn : F} {args as : List U} {st : List Ob} {s : S} {x : X} {u u' : U} {st2 : List Ob} (hT : T f = some fn) (hp : fn.pure = true) (hn : args.length = fn.nargs) (ha : allM (brw frzD st) args = some as)
    (h : Ev T fn.body ⟨params 0 as, []⟩ x s) (hx : isEnd x = true) (hr : resU s fn.res = some u) (hf : frz frzD s.st u = some (u', st2)) : Cl T f args st u' st := Cl.pureA hT hp hn (brwA_of ha) h hx hr hf
theorem Cl.impure {f : Nat} {fn : F} {args : List U} {st : List Ob} {s : S} {x : X} {u : U} (hT : T f = some fn) (hp : fn.pure = false) (hn : args.length = fn.nargs)
    (h : Ev T fn.body ⟨params 0 args, st⟩ x s) (hx : isEnd x = true) (hr : resU s fn.res = some u) : Cl T f args st u (trimO st.length ⟨[(0, u)], s.st⟩).st :=
  h.fuel.mono fun n h => by simp only [M2.call, callF, hT, Option.bind_some, hn, if_true, hp, Bool.false_eq_true, if_false, h, hx, hr]
end
section
variable {T : Nat → Option F} {pf : Nat → Bool} {c1 c2 : Nat → List U → List Ob → Option (U × List Ob)} {r1 r2 : C → S → Option (X × S)}
theorem ev1_mono (hc : ∀ f as st r, c1 f as st = some r → c2 f as st = some r) {e : Env} {st : List Ob} {nid : Nat} {i : I} {r : U × List Ob} (h : ev1 c1 e st nid i = some r) : ev1 c2 e st nid i = some r := by
  cases i
  case call f as => exact hc _ _ _ _ h
  case callv f as =>
    simp only [ev1] at h ⊢
    split at h
    · rename_i f' cs he
      exact hc _ _ _ _ h
    · cases h
  all_goals exact h
theorem evO_mono (hc : ∀ f as st r, c1 f as st = some r → c2 f as st = some r) {nid : Nat} {s s' : S} {o : O} (h : evO c1 nid s o = some s') : evO c2 nid s o = some s' := by
  unfold evO at h ⊢
  cases hg : o.guard with
  | none =>
    rw [hg] at h
    simp only [Option.bind_eq_some_iff] at h ⊢
    obtain ⟨x, h1, h2⟩ := h
    exact ⟨x, ev1_mono hc h1, h2⟩
  | some gb =>
    obtain ⟨g, b⟩ := gb
    rw [hg] at h
    simp only at h ⊢
    cases hge : get s.env g
    case bool c =>
      rw [hge] at h
      simp only at h ⊢
      split at h
      · rename_i hcb
        rw [if_pos hcb]
        simp only [Option.bind_eq_some_iff] at h ⊢
        obtain ⟨x, h1, h2⟩ := h
        exact ⟨x, ev1_mono hc h1, h2⟩
      · rename_i hcb
        rw [if_neg hcb]
        exact h
    case tup vs =>
      rw [hge] at h
      cases vs with
      | nil => exact h
      | cons _ _ => cases h
    all_goals (rw [hge] at h; cases h)
theorem evOs_mono (hc : ∀ f as st r, c1 f as st = some r → c2 f as st = some r) : ∀ {l : List O} {s s' : S}, evOs c1 s l = some s' → evOs c2 s l = some s'
  | [], s, s', h => h
  | o :: l, s, s', h => by
    simp only [evOs, Option.bind_eq_some_iff] at h ⊢
    obtain ⟨x, h1, h2⟩ := h
    exact ⟨x, evO_mono hc h1, evOs_mono hc h2⟩
theorem evDs_mono (hc : ∀ f as st r, c1 f as st = some r → c2 f as st = some r) : ∀ {l : List O} {bs : List Nat} {nid : Nat} {s s' : S} {done : List (O × Touch)}, evDs pf c1 nid s done l bs = some s' → evDs pf c2 nid s done l bs = some s'
  | [], _, _, s, s', _, h => by simpa [evDs] using h
  | o :: l, [], _, s, s', _, h => by simp [evDs] at h
  | o :: l, b :: bs, nid, s, s', done, h => by
    simp only [evDs, Option.bind_eq_some_iff] at h ⊢
    obtain ⟨x, h1, h2⟩ := h
    refine ⟨x, ?_, ?_⟩
    · unfold evU evT at h1 ⊢
      simp only [Option.map_eq_some_iff, Option.bind_eq_some_iff] at h1 ⊢
      obtain ⟨z, ⟨y, k1, k2⟩, k3⟩ := h1
      exact ⟨z, ⟨y, evO_mono hc k1, k2⟩, k3⟩
    · split at h2
      · rename_i ha
        rw [if_pos ha]
        exact evDs_mono hc h2
      · cases h2
theorem evC_mono (hc : ∀ f as st r, c1 f as st = some r → c2 f as st = some r) (hr : ∀ c s r, r1 c s = some r → r2 c s = some r) : ∀ {c : C} {s : S} {r : X × S}, evC pf c1 r1 c s = some r → evC pf c2 r2 c s = some r := by
  intro c
  induction c with
  | skip => intro s r h; exact h
  | ops l v =>
    intro s r h
    simp only [evC, Option.bind_eq_some_iff] at h ⊢
    obtain ⟨x, h1, h2⟩ := h
    exact ⟨x, evOs_mono hc h1, h2⟩
  | opsD l b v =>
    intro s r h
    simp only [evC, Option.bind_eq_some_iff] at h ⊢
    obtain ⟨x, h1, h2⟩ := h
    exact ⟨x, evDs_mono hc h1, h2⟩
  | seq a b ih1 ih2 =>
    intro s r h
    simp only [evC, Option.bind_eq_some_iff] at h ⊢
    obtain ⟨⟨x, s1⟩, h1, h2⟩ := h
    refine ⟨⟨x, s1⟩, ih1 h1, ?_⟩
    cases x with
    | nrm => exact ih2 h2
    | exit id => exact h2
    | ret => exact h2
  | cond c a b ih1 ih2 =>
    intro s r h
    simp only [evC] at h ⊢
    split at h
    · rename_i t ht
      cases t
      · exact ih2 h
      · exact ih1 h
    · cases h
  | block id c ih =>
    intro s r h
    simp only [evC, Option.bind_eq_some_iff] at h ⊢
    obtain ⟨x, h1, h2⟩ := h
    exact ⟨x, ih h1, h2⟩
  | loop c ih =>
    intro s r h
    simp only [evC, Option.bind_eq_some_iff] at h ⊢
    obtain ⟨⟨x, s1⟩, h1, h2⟩ := h
    refine ⟨⟨x, s1⟩, ih h1, ?_⟩
    cases x with
    | nrm => exact hr _ _ _ h2
    | exit id => exact h2
    | ret => exact h2
  | exit id => intro s r h; exact h
  | ret => intro s r h; exact h
theorem callF_mono (hr : ∀ c s r, r1 c s = some r → r2 c s = some r) {f : Nat} {as : List U} {st : List Ob} {r : U × List Ob} (h : callF T r1 f as st = some r) : callF T r2 f as st = some r := by
  unfold callF at h ⊢
  simp only [Option.bind_eq_some_iff] at h ⊢
  obtain ⟨fn, h1, h2⟩ := h
  refine ⟨fn, h1, ?_⟩
  split at h2
  · rename_i hl
    rw [if_pos hl]
    split at h2
    · rename_i hp
      rw [if_pos hp]
      simp only [Option.bind_eq_some_iff] at h2 ⊢
      obtain ⟨a, k1, x, k2, k3⟩ := h2
      exact ⟨a, k1, x, hr _ _ _ k2, k3⟩
    · rename_i hp
      rw [if_neg hp]
      simp only [Option.bind_eq_some_iff] at h2 ⊢
      obtain ⟨x, k2, k3⟩ := h2
      exact ⟨x, hr _ _ _ k2, k3⟩
  · cases h2
theorem ev_mono : ∀ {n : Nat} {c : C} {s : S} {r : X × S}, ev T n c s = some r → ev T (n + 1) c s = some r
  | 0, c, s, r, h => by simp [ev] at h
  | n + 1, c, s, r, h => evC_mono (fun f as st r h => callF_mono (fun c s r h => ev_mono h) h) (fun c s r h => ev_mono h) h
theorem call_mono {n m : Nat} (hm : n ≤ m) {f : Nat} {as : List U} {st : List Ob} {r : U × List Ob} (h : M2.call T n f as st = some r) : M2.call T m f as st = some r := by
  induction hm with
  | refl => exact h
  | step _ ih => exact callF_mono (fun c s r h => ev_mono h) ih
theorem Cl.at {n : Nat} {f : Nat} {u : U} (h : M2.call T n f [] [] = some (u, [])) (hp : (T f).any (·.pure) = true) (st : List Ob) : Cl T f [] st u st := by
  refine ⟨n, fun m hm => ?_⟩
  have h := call_mono hm h
  unfold M2.call callF at h ⊢
  cases hf : T f with
  | none => rw [hf] at hp; simp at hp
  | some fn =>
    rw [hf] at h hp
    simp only [Option.any_some] at hp
    simp only [Option.bind_some] at h ⊢
    split at h
    · rename_i hl
      rw [if_pos hl, if_pos hp]
      simp only [allM, Option.bind_some, Option.bind_eq_some_iff] at h ⊢
      obtain ⟨x, k1, k2⟩ := h
      refine ⟨x, k1, ?_⟩
      split at k2
      · rename_i he
        rw [if_pos he]
        simp only [Option.bind_eq_some_iff] at k2 ⊢
        obtain ⟨v, m1, y, m2, m3⟩ := k2
        refine ⟨v, m1, y, m2, ?_⟩
        cases m3
        rfl
      · cases k2
    · cases h
/-! ### Regions whose order is open, in two parts: what comes out, and that the order may be open. -/
def runD (pf : Nat → Bool) (cl : Nat → List U → List Ob → Option (U × List Ob)) : Nat → S → List O → Option (S × List Touch)
  | _, s, [] => some (s, [])
  | nid, s, o :: os => (evT pf cl nid s o).bind fun p => (runD pf cl (nid + o.op.need) p.1 os).bind fun q => some (q.1, p.2 :: q.2)
def chkD : List (O × Touch) → List O → List Touch → List Nat → Bool
  | done, o :: os, t :: ts, b :: bs => aside b 0 (o, t) done && chkD (done ++ [(o, t)]) os ts bs
  | _, [], [], _ => true
  | _, _, _, _ => false
def wk : List (O × Touch) → List (O × Touch) → Prop
  | [], [] => True
  | p :: ps, q :: qs => p.1 = q.1 ∧ (p.2 = none ∨ p.2 = q.2) ∧ wk ps qs
  | _, _ => False
theorem wk_add {o : O} {t t' : Touch} (ht : t = none ∨ t = t') : ∀ {ps qs : List (O × Touch)}, wk ps qs → wk (ps ++ [(o, t)]) (qs ++ [(o, t')])
  | [], [], _ => ⟨rfl, ht, trivial⟩
  | p :: ps, q :: qs, h => ⟨h.1, h.2.1, wk_add ht h.2.2⟩
  | [], _ :: _, h => h.elim
  | _ :: _, [], h => h.elim
theorem ind_wk {s s' t t' : Touch} (hs : s = none ∨ s = s') (ht : t = none ∨ t = t') (h : ind s t = true) : ind s' t' = true := by
  rcases hs with rfl | rfl
  · cases t with
    | none => simp [ind] at h
    | some l =>
      cases l with
      | cons _ _ => simp [ind] at h
      | nil =>
        rcases ht with ht | rfl
        · cases ht
        · cases s' <;> simp [ind]
  · rcases ht with rfl | rfl
    · cases s with
      | none => simp [ind] at h
      | some l =>
        cases l with
        | cons _ _ => simp [ind] at h
        | nil => cases t' <;> simp [ind]
    · exact h
theorem aside_wk {b : Nat} {o : O} {t t' : Touch} (ht : t = none ∨ t = t') : ∀ {ps qs : List (O × Touch)} {i : Nat}, wk ps qs → aside b i (o, t) ps = true → aside b i (o, t') qs = true
  | [], [], _, _, _ => rfl
  | p :: ps, q :: qs, i, h, k => by
    simp only [aside, Bool.and_eq_true, Bool.or_eq_true] at k ⊢
    refine ⟨k.1.imp id fun k => ⟨?_, ind_wk h.2.1 ht k.2⟩, aside_wk ht h.2.2 k.2⟩
    rw [← h.1]
    exact k.1
  | [], _ :: _, _, h, _ => h.elim
  | _ :: _, [], _, h, _ => h.elim
theorem updT_wk (st st' : List Ob) (t : Touch) : t = none ∨ t = updT st st' t := by
  cases t with
  | none => exact .inl rfl
  | some _ => exact .inr rfl
theorem evDs_wk {cl : Nat → List U → List Ob → Option (U × List Ob)} : ∀ {os : List O} {bs : List Nat} {nid : Nat} {s s' : S} {ts : List Touch} {done done' : List (O × Touch)}, wk done done' → runD pf cl nid s os = some (s', ts) → chkD done os ts bs = true → evDs pf cl nid s done' os bs = some s'
  | [], bs, nid, s, s', ts, done, done', _, h, _ => by simp [runD] at h; simp [evDs, h.1]
  | o :: os, bs, nid, s, s', ts, done, done', hw, h, hc => by
    simp only [runD, Option.bind_eq_some_iff, Option.some.injEq, Prod.mk.injEq] at h
    obtain ⟨p, h1, q, h2, rfl, rfl⟩ := h
    cases bs with
    | nil => simp [chkD] at hc
    | cons b bs =>
      simp only [chkD, Bool.and_eq_true] at hc
      have hu := updT_wk s.st p.1.st p.2
      have e1 : evU pf cl nid s o = some (p.1, updT s.st p.1.st p.2) := by unfold evU; rw [h1]; rfl
      simp only [evDs, e1, Option.bind_some, aside_wk hu hw hc.1, if_true]
      exact evDs_wk (wk_add hu hw) h2 hc.2
theorem evDs_of {cl : Nat → List U → List Ob → Option (U × List Ob)} {os : List O} {bs : List Nat} {nid : Nat} {s s' : S} {ts : List Touch} (h : runD pf cl nid s os = some (s', ts)) (hc : chkD [] os ts bs = true) : evDs pf cl nid s [] os bs = some s' :=
  evDs_wk (done := []) trivial h hc
theorem Ev.draw {s s' : S} {l : List O} {bef live : List Nat} {ts : List Touch} (h : Evt fun n => (runD (pfT T) (M2.call T n) s.st.length ⟨s.env, s.st ++ List.replicate ((l.map (·.op.need)).sum) .hole⟩ l).map (fun q => ((⟨keep live q.1.env, q.1.st⟩ : S), q.2)) = some (s', ts))
    (hc : chkD [] l ts bef = true) : Ev T (.opsD l bef live) s .nrm s' :=
  h.mono fun n h => by
    simp only [Option.map_eq_some_iff, Prod.mk.injEq] at h
    obtain ⟨⟨q, ts'⟩, h1, rfl, rfl⟩ := h
    simp only [evC, evDs_of h1 hc, Option.bind_some]
end
section
variable {T : Nat → Option F}
def Wp (T : Nat → Option F) (c : C) (s : S) (K R : S → Prop) (B : Nat → S → Prop) : Prop :=
  ∃ x s', Ev T c s x s' ∧ (match x with | .nrm => K s' | .ret => R s' | .exit i => B i s')
variable {K R : S → Prop} {B : Nat → S → Prop}
theorem Wp.nrm {c : C} {s s' : S} (h : Ev T c s .nrm s') (k : K s') : Wp T c s K R B := ⟨.nrm, s', h, k⟩
theorem Wp.ofRet {c : C} {s s' : S} (h : Ev T c s .ret s') (k : R s') : Wp T c s K R B := ⟨.ret, s', h, k⟩
theorem Wp.ofExit {c : C} {s s' : S} {i : Nat} (h : Ev T c s (.exit i) s') (k : B i s') : Wp T c s K R B := ⟨.exit i, s', h, k⟩
theorem Wp.imp {K' R' : S → Prop} {B' : Nat → S → Prop} {c : C} {s : S} (h : Wp T c s K' R' B') (hk : ∀ s, K' s → K s) (hr : ∀ s, R' s → R s) (hb : ∀ i s, B' i s → B i s) : Wp T c s K R B := by
  obtain ⟨x, s', h1, h2⟩ := h
  refine ⟨x, s', h1, ?_⟩
  cases x with
  | nrm => exact hk _ h2
  | ret => exact hr _ h2
  | exit i => exact hb _ _ h2
theorem Wp.imp0 {K' : S → Prop} {c : C} {s : S} (h : Wp T c s K' (fun _ => False) (fun _ _ => False)) (hk : ∀ s, K' s → K s) : Wp T c s K R B := h.imp hk (fun _ h => h.elim) (fun _ _ h => h.elim)
theorem Wp.impB {B' : Nat → S → Prop} {c : C} {s : S} (h : Wp T c s (fun _ => False) (fun _ => False) B') (hb : ∀ i s, B' i s → B i s) : Wp T c s K R B := h.imp (fun _ h => h.elim) (fun _ h => h.elim) hb
theorem Wp.skip {s : S} (k : K s) : Wp T .skip s K R B := .nrm .skip k
theorem Wp.ret {s : S} (k : R s) : Wp T .ret s K R B := .ofRet .ret k
theorem Wp.exit {s : S} {i : Nat} (k : B i s) : Wp T (.exit i) s K R B := .ofExit .exit k
theorem Wp.ops {l : List O} {live : List Nat} {s s' : S} (h : Evt fun n => evC (pfT T) (M2.call T n) (ev T n) (.ops l live) s = some (.nrm, s')) (k : K s') : Wp T (.ops l live) s K R B := .nrm h k
theorem Wp.opsD {s s' : S} {l : List O} {bef live : List Nat} {ts : List Touch} (h : Evt fun n => (runD (pfT T) (M2.call T n) s.st.length ⟨s.env, s.st ++ List.replicate ((l.map (·.op.need)).sum) .hole⟩ l).map (fun q => ((⟨keep live q.1.env, q.1.st⟩ : S), q.2)) = some (s', ts))
    (hc : chkD [] l ts bef = true) (k : K s') : Wp T (.opsD l bef live) s K R B := .nrm (Ev.draw h hc) k
theorem Wp.seq {a b : C} {s : S} (h : Wp T a s (fun s' => Wp T b s' K R B) R B) : Wp T (.seq a b) s K R B := by
  obtain ⟨x, s', h1, h2⟩ := h
  cases x with
  | nrm =>
    obtain ⟨y, s2, h3, h4⟩ := h2
    exact ⟨y, s2, .seq h1 h3, h4⟩
  | ret => exact ⟨.ret, s', .seqRet h1, h2⟩
  | exit i => exact ⟨.exit i, s', .seqExit h1, h2⟩
theorem Wp.cond {c : A} {a b : C} {s : S} {t : Bool} (hc : c.ev s.env = .bool t) (h1 : t = true → Wp T a s K R B) (h2 : t = false → Wp T b s K R B) : Wp T (.cond c a b) s K R B := by
  cases t with
  | true =>
    obtain ⟨x, s', h3, h4⟩ := h1 rfl
    exact ⟨x, s', .cond hc h3, h4⟩
  | false =>
    obtain ⟨x, s', h3, h4⟩ := h2 rfl
    exact ⟨x, s', .cond hc h3, h4⟩
theorem Wp.block {id : Nat} {c : C} {s : S} (h : Wp T c s K R (fun i s' => if i = id then K s' else B i s')) : Wp T (.block id c) s K R B := by
  obtain ⟨x, s', h1, h2⟩ := h
  refine ⟨_, s', .block h1, ?_⟩
  cases x with
  | nrm => exact h2
  | ret => exact h2
  | exit i =>
    simp only at h2 ⊢
    by_cases hi : i = id
    · simp only [hi, if_true] at h2 ⊢
      exact h2
    · simp only [hi, if_false] at h2 ⊢
      exact h2
theorem Wp.loop {α : Type} (μ : α → Nat) (σ : α → S) (P : α → Prop) {c : C}
    (step : ∀ a, P a → Wp T c (σ a) (fun s' => ∃ b, trimO (σ a).st.length s' = σ b ∧ μ b < μ a ∧ P b) R B) : ∀ a, P a → Wp T (.loop c) (σ a) K R B := by
  intro a
  induction hk : μ a using Nat.strongRecOn generalizing a with
  | _ k ih =>
    intro ha
    obtain ⟨x, s', h1, h2⟩ := step a ha
    cases x with
    | nrm =>
      obtain ⟨b, hb, hm, hp⟩ := h2
      obtain ⟨y, s2, h3, h4⟩ := ih (μ b) (hk ▸ hm) b rfl hp
      exact ⟨y, s2, .loop h1 (by rw [hb]; exact h3), h4⟩
    | ret => exact ⟨.ret, s', .loopRet h1, h2⟩
    | exit i => exact ⟨.exit i, s', .loopExit h1, h2⟩
theorem Wp.count (n : Nat) (σ : Nat → S) (P : Nat → Prop) {c : C}
    (step : ∀ i, i < n → P i → Wp T c (σ i) (fun s' => trimO (σ i).st.length s' = σ (i + 1) ∧ P (i + 1)) R B) (last : P n → Wp T c (σ n) (fun _ => False) R B) : ∀ i, i ≤ n → P i → Wp T (.loop c) (σ i) K R B := by
  intro i hi hp
  refine Wp.loop (fun i => n - i) σ (fun i => i ≤ n ∧ P i) (fun a ⟨ha, hp⟩ => ?_) i ⟨hi, hp⟩
  by_cases h : a = n
  · subst h
    exact (last hp).imp (fun _ h => h.elim) (fun _ h => h) (fun _ _ h => h)
  · refine (step a (by omega) hp).imp (fun s ⟨h1, h2⟩ => ⟨a + 1, h1, by omega, by omega, h2⟩) (fun _ h => h) (fun _ _ h => h)
/-! One operation at a time. -/
theorem Wp.op0 {live : List Nat} {e e' : Env} {st : List Ob} (h : M2.keep live e = e') (k : K ⟨e', st⟩) : Wp T (.ops [] live) ⟨e, st⟩ K R B :=
  .nrm (.all fun n => by simp [evC, evOs, h]) k
theorem evC_cons {pf : Nat → Bool} {cl : Nat → List U → List Ob → Option (U × List Ob)} {r : C → S → Option (X × S)} {o : O} {l : List O} {live : List Nat} {s s1 : S} (h : evO cl s.st.length s o = some s1) : evC pf cl r (.ops (o :: l) live) s = evC pf cl r (.ops l live) s1 := by
  simp only [evC, evOs, h, Option.bind_some]
theorem Wp.op1 {o : O} {l : List O} {live : List Nat} {s s1 : S} (h : Evt fun n => evO (M2.call T n) s.st.length s o = some s1) (k : Wp T (.ops l live) s1 K R B) : Wp T (.ops (o :: l) live) s K R B := by
  obtain ⟨x, s', h1, h2⟩ := k
  exact ⟨x, s', (h.and h1).mono fun n ⟨h, h1⟩ => by rw [evC_cons h]; exact h1, h2⟩
theorem Wp.op {d : Nat} {i : I} {l : List O} {live : List Nat} {e : Env} {st st1 : List Ob} {u : U} (h : Evt fun n => ev1 (M2.call T n) e st st.length i = some (u, st1)) (k : Wp T (.ops l live) ⟨(d, u) :: e, st1⟩ K R B) : Wp T (.ops (⟨some d, i, none⟩ :: l) live) ⟨e, st⟩ K R B :=
  Wp.op1 (h.mono fun n h => by simp only [evO, h, Option.bind_some, put]) k
theorem Wp.opN {i : I} {l : List O} {live : List Nat} {e : Env} {st st1 : List Ob} {u : U} (h : Evt fun n => ev1 (M2.call T n) e st st.length i = some (u, st1)) (k : Wp T (.ops l live) ⟨e, st1⟩ K R B) : Wp T (.ops (⟨none, i, none⟩ :: l) live) ⟨e, st⟩ K R B :=
  Wp.op1 (h.mono fun n h => by simp only [evO, h, Option.bind_some, put]) k
theorem Wp.opG {d g : Nat} {b : Bool} {i : I} {l : List O} {live : List Nat} {e : Env} {st st1 : List Ob} {u : U} (hg : M2.get e g = .bool b) (h : Evt fun n => ev1 (M2.call T n) e st st.length i = some (u, st1)) (k : Wp T (.ops l live) ⟨(d, u) :: e, st1⟩ K R B) : Wp T (.ops (⟨some d, i, some (g, b)⟩ :: l) live) ⟨e, st⟩ K R B :=
  Wp.op1 (h.mono fun n h => by simp only [evO, hg, h, if_true, Option.bind_some, put]) k
theorem Wp.opS {d g : Nat} {b c : Bool} {i : I} {l : List O} {live : List Nat} {e : Env} {st : List Ob} (hg : M2.get e g = .bool c) (hn : c ≠ b) (k : Wp T (.ops l live) ⟨(d, .tup []) :: e, st⟩ K R B) : Wp T (.ops (⟨some d, i, some (g, b)⟩ :: l) live) ⟨e, st⟩ K R B :=
  Wp.op1 (.all fun n => by simp only [evO, hg, hn, if_false, put]) k
theorem Wp.opS0 {d g : Nat} {b : Bool} {i : I} {l : List O} {live : List Nat} {e : Env} {st : List Ob} (hg : M2.get e g = .tup []) (k : Wp T (.ops l live) ⟨(d, .tup []) :: e, st⟩ K R B) : Wp T (.ops (⟨some d, i, some (g, b)⟩ :: l) live) ⟨e, st⟩ K R B :=
  Wp.op1 (.all fun n => by simp only [evO, hg, put]) k
theorem Wp.call {d f : Nat} {as : List A} {l : List O} {live : List Nat} {e : Env} {st st1 : List Ob} {u : U} (h : Cl T f (as.map (·.ev e)) st u st1) (k : Wp T (.ops l live) ⟨(d, u) :: e, st1⟩ K R B) : Wp T (.ops (⟨some d, .call f as, none⟩ :: l) live) ⟨e, st⟩ K R B :=
  Wp.op (h.mono fun n h => h) k
theorem Wp.callG {d f g : Nat} {b : Bool} {as : List A} {l : List O} {live : List Nat} {e : Env} {st st1 : List Ob} {u : U} (hg : M2.get e g = .bool b) (h : Cl T f (as.map (·.ev e)) st u st1) (k : Wp T (.ops l live) ⟨(d, u) :: e, st1⟩ K R B) : Wp T (.ops (⟨some d, .call f as, some (g, b)⟩ :: l) live) ⟨e, st⟩ K R B :=
  Wp.opG hg (h.mono fun n h => h) k
def Dr (T : Nat → Option F) (nid : Nat) (s : S) (l : List O) (s' : S) (ts : List Touch) : Prop := Evt fun n => runD (pfT T) (M2.call T n) nid s l = some (s', ts)
theorem Dr.nil {nid : Nat} {s : S} : Dr T nid s [] s [] := .all fun _ => rfl
theorem Dr.cons {nid nid' : Nat} {s s1 s' : S} {o : O} {l : List O} {t : Touch} {ts : List Touch} (h : Evt fun n => evT (pfT T) (M2.call T n) nid s o = some (s1, t)) (hn : nid + o.op.need = nid') (k : Dr T nid' s1 l s' ts) : Dr T nid s (o :: l) s' (t :: ts) :=
  (h.and k).mono fun n ⟨h, k⟩ => by simp only [runD, h, hn, k, Option.bind_some]
theorem Dr.op {nid nid' d : Nat} {i : I} {e : Env} {st st1 : List Ob} {u : U} {s' : S} {l : List O} {t : Touch} {ts : List Touch} (ht : touch (pfT T) e st nid i = t) (h : Evt fun n => ev1 (M2.call T n) e st nid i = some (u, st1)) (hn : nid + i.need = nid') (k : Dr T nid' ⟨(d, u) :: e, st1⟩ l s' ts) : Dr T nid ⟨e, st⟩ (⟨some d, i, none⟩ :: l) s' (t :: ts) :=
  Dr.cons (h.mono fun n h => by simp only [evT, evO, h, ht, Option.bind_some, put]) hn k
theorem Dr.opN {nid nid' : Nat} {i : I} {e : Env} {st st1 : List Ob} {u : U} {s' : S} {l : List O} {t : Touch} {ts : List Touch} (ht : touch (pfT T) e st nid i = t) (h : Evt fun n => ev1 (M2.call T n) e st nid i = some (u, st1)) (hn : nid + i.need = nid') (k : Dr T nid' ⟨e, st1⟩ l s' ts) : Dr T nid ⟨e, st⟩ (⟨none, i, none⟩ :: l) s' (t :: ts) :=
  Dr.cons (h.mono fun n h => by simp only [evT, evO, h, ht, Option.bind_some, put]) hn k
theorem Dr.opG {nid nid' d g : Nat} {b : Bool} {i : I} {e : Env} {st st1 : List Ob} {u : U} {s' : S} {l : List O} {t : Touch} {ts : List Touch} (hg : M2.get e g = .bool b) (ht : touch (pfT T) e st nid i = t) (h : Evt fun n => ev1 (M2.call T n) e st nid i = some (u, st1)) (hn : nid + i.need = nid') (k : Dr T nid' ⟨(d, u) :: e, st1⟩ l s' ts) : Dr T nid ⟨e, st⟩ (⟨some d, i, some (g, b)⟩ :: l) s' (t :: ts) :=
  Dr.cons (h.mono fun n h => by simp only [evT, evO, hg, h, ht, if_true, Option.bind_some, put]) hn k
theorem Dr.opS {nid nid' d g : Nat} {b c : Bool} {i : I} {e : Env} {st : List Ob} {s' : S} {l : List O} {ts : List Touch} (hg : M2.get e g = .bool c) (hc : c ≠ b) (hn : nid + i.need = nid') (k : Dr T nid' ⟨(d, .tup []) :: e, st⟩ l s' ts) : Dr T nid ⟨e, st⟩ (⟨some d, i, some (g, b)⟩ :: l) s' (some [] :: ts) :=
  Dr.cons (.all fun n => by simp only [evT, evO, hg, hc, if_false, Option.bind_some, put]) hn k
theorem Dr.opS0 {nid nid' d g : Nat} {b : Bool} {i : I} {e : Env} {st : List Ob} {s' : S} {l : List O} {ts : List Touch} (hg : M2.get e g = .tup []) (hn : nid + i.need = nid') (k : Dr T nid' ⟨(d, .tup []) :: e, st⟩ l s' ts) : Dr T nid ⟨e, st⟩ (⟨some d, i, some (g, b)⟩ :: l) s' (some [] :: ts) :=
  Dr.cons (.all fun n => by simp only [evT, evO, hg, Option.bind_some, put]) hn k
theorem Dr.call {nid d f : Nat} {as : List A} {e : Env} {st st1 : List Ob} {u : U} {s' : S} {l : List O} {t : Touch} {ts : List Touch} (ht : touch (pfT T) e st nid (.call f as) = t) (h : Cl T f (as.map (·.ev e)) st u st1) (k : Dr T nid ⟨(d, u) :: e, st1⟩ l s' ts) : Dr T nid ⟨e, st⟩ (⟨some d, .call f as, none⟩ :: l) s' (t :: ts) :=
  Dr.op ht (h.mono fun n h => h) rfl k
theorem Wp.draw {e e' : Env} {st st0 : List Ob} {s' : S} {l : List O} {bef live : List Nat} {ts : List Touch} {m k : Nat} (hm : ((l.map (·.op.need)).sum) = m) (hl : st.length = k) (hs : st ++ List.replicate m .hole = st0) (h : Dr T k ⟨e, st0⟩ l s' ts) (hc : chkD [] l ts bef = true) (he : M2.keep live s'.env = e') (kk : K ⟨e', s'.st⟩) : Wp T (.opsD l bef live) ⟨e, st⟩ K R B := by
  subst hm
  subst hl
  subst hs
  exact .nrm (Ev.draw (h.mono fun n h => by simp only [h, Option.map_some, he]) hc) kk
/-! Freezing, as rewritings. -/
theorem accM_nil {α : Type} (f : List Ob → α → Option (α × List Ob)) (st : List Ob) : accM f st [] = some ([], st) := rfl
theorem accM_cons (st : List Ob) (x : U) (xs : List U) : accM (frz frzD) st (x :: xs) = (frz frzD st x).bind fun p => (accM (frz frzD) p.2 xs).bind fun q => some (p.1 :: q.1, q.2) := rfl
theorem accMM_nil (st : List Ob) : accM (accM (frz frzD)) st [] = some ([], st) := rfl
theorem accMM_cons (st : List Ob) (x : List U) (xs : List (List U)) : accM (accM (frz frzD)) st (x :: xs) = (accM (frz frzD) st x).bind fun p => (accM (accM (frz frzD)) p.2 xs).bind fun q => some (p.1 :: q.1, q.2) := rfl
theorem frz_int (st : List Ob) (k : IntKind) (n : Int) : frz frzD st (.int k n) = some (.int k n, st) := rfl
theorem frz_bool (st : List Ob) (b : Bool) : frz frzD st (.bool b) = some (.bool b, st) := rfl
theorem frz_str (st : List Ob) (s : List UInt8) : frz frzD st (.str s) = some (.str s, st) := rfl
theorem frz_slt (st : List Ob) (xs : List (List U)) : frz frzD st (.sl true xs) = some (.sl true xs, st) := rfl
theorem frz_nils (st : List Ob) : frz frzD st .nils = some (.sl true [], st) := rfl
theorem frz_nilI (st : List Ob) : frz frzD st .nilI = some (.nilI, st) := rfl
theorem frz_nilF (st : List Ob) : frz frzD st .nilF = some (.nilF, st) := rfl
def frzRow (n : Nat) (st : List Ob) (id : Nat) : Option Ob → Option (U × List Ob)
  | some (.frow xs) => if xs.length = n then some (.sl true xs, st) else none
  | some (.row _ _ false xs) => if xs.length = n then some (.sl true xs, st.set id (.frow xs)) else none
  | some (.row _ _ true xs) => if xs.length = n then (accM (accM (frz 11)) st xs).bind fun (xs, st) => match st[id]? with
        | some (.row _ _ _ ys) => if ys.length = n then some (.sl true xs, st.set id (.frow xs)) else none
        | _ => none
        else none
  | _ => none
theorem frz_own (st : List Ob) (id n : Nat) : frz frzD st (.own id n) = frzRow n st id st[id]? := by
  rw [frzD, frz]
  unfold frzRow
  rfl
theorem frzRow_row (n : Nat) (st : List Ob) (id t e : Nat) (xs : List (List U)) : frzRow n st id (some (.row t e false xs)) = if xs.length = n then some (.sl true xs, st.set id (.frow xs)) else none := rfl
theorem frzRow_frow (n : Nat) (st : List Ob) (id : Nat) (xs : List (List U)) : frzRow n st id (some (.frow xs)) = if xs.length = n then some (.sl true xs, st) else none := rfl
theorem blw_bool (L : Nat) (b : Bool) : blw blwD L (.bool b) = true := rfl
theorem blw_int (L : Nat) (k : IntKind) (n : Int) : blw blwD L (.int k n) = true := rfl
theorem blw_str (L : Nat) (s : List UInt8) : blw blwD L (.str s) = true := rfl
theorem blw_nils (L : Nat) : blw blwD L .nils = true := rfl
theorem blw_nilI (L : Nat) : blw blwD L .nilI = true := rfl
theorem blw_nilF (L : Nat) : blw blwD L .nilF = true := rfl
theorem blw_nilp (L : Nat) : blw blwD L .nilp = true := rfl
theorem blw_nilm (L : Nat) : blw blwD L .nilm = true := rfl
theorem blw_sl (L : Nat) (p : Bool) (xs : List (List U)) : blw blwD L (.sl p xs) = true := rfl
theorem blw_own (L id n : Nat) : blw blwD L (.own id n) = decide (id < L) := rfl
theorem blw_bp (L id n : Nat) : blw blwD L (.bp id n) = decide (id < L) := rfl
theorem blw_rp (L id n i o : Nat) : blw blwD L (.rp id n i o) = decide (id < L) := rfl
theorem blw_mp (L id : Nat) : blw blwD L (.mp id) = decide (id < L) := rfl
theorem blw_it (L id : Nat) : blw blwD L (.it id) = decide (id < L) := rfl
theorem trimO_len {L : Nat} {s : S} (h : s.st.length = L) : trimO L s = s := by
  unfold trimO trim
  rw [← h, List.take_length]
  split <;> rfl
def Res (fn : F) (u' : U) (s : S) : Prop := (resU s fn.res).bind (fun u => (frz frzD s.st u).map (·.1)) = some u'
theorem Wp.pureA {f : Nat} {fn : F} {args as : List U} {st : List Ob} {u' : U} (hT : T f = some fn) (hp : fn.pure = true) (hn : args.length = fn.nargs) (ha : allM (brwA frzD st) args = some as)
    (h : Wp T fn.body ⟨params 0 as, []⟩ (Res fn u') (Res fn u') (fun _ _ => False)) : Cl T f args st u' st := by
  obtain ⟨x, s', h1, h2⟩ := h
  cases x with
  | nrm =>
    simp only [Res, Option.bind_eq_some_iff, Option.map_eq_some_iff] at h2
    obtain ⟨u, h3, ⟨u2, st2⟩, h4, rfl⟩ := h2
    exact .pureA hT hp hn ha h1 rfl h3 h4
  | ret =>
    simp only [Res, Option.bind_eq_some_iff, Option.map_eq_some_iff] at h2
    obtain ⟨u, h3, ⟨u2, st2⟩, h4, rfl⟩ := h2
    exact .pureA hT hp hn ha h1 rfl h3 h4
  | exit i => exact h2.elim
theorem Wp.pure {f : Nat} {fn : F} {args as : List U} {st : List Ob} {u' : U} (hT : T f = some fn) (hp : fn.pure = true) (hn : args.length = fn.nargs) (ha : allM (brw frzD st) args = some as)
    (h : Wp T fn.body ⟨params 0 as, []⟩ (Res fn u') (Res fn u') (fun _ _ => False)) : Cl T f args st u' st := by
  obtain ⟨x, s', h1, h2⟩ := h
  cases x with
  | nrm =>
    simp only [Res, Option.bind_eq_some_iff, Option.map_eq_some_iff] at h2
    obtain ⟨u, h3, ⟨u2, st2⟩, h4, rfl⟩ := h2
    exact .pure hT hp hn ha h1 rfl h3 h4
  | ret =>
    simp only [Res, Option.bind_eq_some_iff, Option.map_eq_some_iff] at h2
    obtain ⟨u, h3, ⟨u2, st2⟩, h4, rfl⟩ := h2
    exact .pure hT hp hn ha h1 rfl h3 h4
  | exit i => exact h2.elim
theorem Wp.pureEx {α : Type} {P : α → Prop} {v : α → U} {f : Nat} {fn : F} {args as : List U} (hT : T f = some fn) (hp : fn.pure = true) (hn : args.length = fn.nargs)
    (h : Wp T fn.body ⟨params 0 as, []⟩ (fun s => ∃ a, P a ∧ Res fn (v a) s) (fun s => ∃ a, P a ∧ Res fn (v a) s) (fun _ _ => False)) : ∃ a, P a ∧ ∀ st, allM (brw frzD st) args = some as → Cl T f args st (v a) st := by
  obtain ⟨x, s', h1, h2⟩ := h
  cases x with
  | nrm =>
    obtain ⟨a, h3, h4⟩ := h2
    exact ⟨a, h3, fun st ha => Wp.pure hT hp hn ha ⟨.nrm, s', h1, h4⟩⟩
  | ret =>
    obtain ⟨a, h3, h4⟩ := h2
    exact ⟨a, h3, fun st ha => Wp.pure hT hp hn ha ⟨.ret, s', h1, h4⟩⟩
  | exit i => exact h2.elim
theorem Wp.impure {f : Nat} {fn : F} {args : List U} {st st' : List Ob} {u : U} (hT : T f = some fn) (hp : fn.pure = false) (hn : args.length = fn.nargs)
    (h : Wp T fn.body ⟨params 0 args, st⟩ (fun s => resU s fn.res = some u ∧ (trimO st.length ⟨[(0, u)], s.st⟩).st = st') (fun s => resU s fn.res = some u ∧ (trimO st.length ⟨[(0, u)], s.st⟩).st = st') (fun _ _ => False)) : Cl T f args st u st' := by
  obtain ⟨x, s', h1, h2⟩ := h
  cases x with
  | nrm =>
    obtain ⟨h3, h4⟩ := h2
    rw [← h4]
    exact .impure hT hp hn h1 rfl h3
  | ret =>
    obtain ⟨h3, h4⟩ := h2
    rw [← h4]
    exact .impure hT hp hn h1 rfl h3
  | exit i => exact h2.elim
theorem newOb_end (st : List Ob) (o : Ob) : newOb st st.length o = some (st ++ [o]) := by
  unfold newOb
  rw [List.getElem?_eq_none (Nat.le_refl _)]
  simp
theorem trim_back {st : List Ob} {b : Ob} {e : Env} (he : e.all (fun p => blw blwD st.length p.2) = true) (hB : st.all (Ob.blw st.length) = true) : trimO st.length ⟨e, st ++ [b]⟩ = ⟨e, st⟩ := by
  unfold trimO trim
  simp only [List.take_left, he, hB, Bool.and_self, if_true, Option.getD_some]
theorem Wp.toEv {c : C} {s s' : S} (h : Wp T c s (fun s2 => s2 = s') (fun _ => False) (fun _ _ => False)) : Ev T c s .nrm s' := by
  obtain ⟨x, s2, h1, h2⟩ := h
  cases x with
  | nrm => exact h2 ▸ h1
  | ret => exact h2.elim
  | exit i => exact h2.elim
end
attribute [irreducible] Wp Dr
section
variable {T : Nat → Option F} {K R : S → Prop} {B : Nat → S → Prop}
theorem Wp.ung {d g : Nat} {b c : Bool} {i : I} {l : List O} {live : List Nat} {e : Env} {st : List Ob} (hg : M2.get e g = .bool c) (hc : c = b) (k : Wp T (.ops (⟨some d, i, none⟩ :: l) live) ⟨e, st⟩ K R B) : Wp T (.ops (⟨some d, i, some (g, b)⟩ :: l) live) ⟨e, st⟩ K R B := by
  unfold Wp at k ⊢
  obtain ⟨x, s', h1, h2⟩ := k
  subst hc
  refine ⟨x, s', h1.mono fun n h => ?_, h2⟩
  simp only [evC, evOs, evO, hg, if_true] at h ⊢
  exact h
theorem Wp.opSt {d g : Nat} {c : Bool} {i : I} {l : List O} {live : List Nat} {e : Env} {st : List Ob} (hg : M2.get e g = .bool c) (hc : c = false) (k : Wp T (.ops l live) ⟨(d, .tup []) :: e, st⟩ K R B) : Wp T (.ops (⟨some d, i, some (g, true)⟩ :: l) live) ⟨e, st⟩ K R B :=
  Wp.opS hg (by rw [hc]; decide) k
theorem Wp.opSf {d g : Nat} {c : Bool} {i : I} {l : List O} {live : List Nat} {e : Env} {st : List Ob} (hg : M2.get e g = .bool c) (hc : c = true) (k : Wp T (.ops l live) ⟨(d, .tup []) :: e, st⟩ K R B) : Wp T (.ops (⟨some d, i, some (g, false)⟩ :: l) live) ⟨e, st⟩ K R B :=
  Wp.opS hg (by rw [hc]; decide) k
theorem Wp.grdT {d g : Nat} {c : Bool} {i : I} {l : List O} {live : List Nat} {e : Env} {st : List Ob} (hg : M2.get e g = .bool c) (h1 : c = true → Wp T (.ops (⟨some d, i, none⟩ :: l) live) ⟨e, st⟩ K R B) (h2 : c = false → Wp T (.ops l live) ⟨(d, .tup []) :: e, st⟩ K R B) : Wp T (.ops (⟨some d, i, some (g, true)⟩ :: l) live) ⟨e, st⟩ K R B := by
  cases hc : c with
  | true => exact Wp.ung hg hc (h1 hc)
  | false => exact Wp.opSt hg hc (h2 hc)
theorem Wp.grdF {d g : Nat} {c : Bool} {i : I} {l : List O} {live : List Nat} {e : Env} {st : List Ob} (hg : M2.get e g = .bool c) (h1 : c = true → Wp T (.ops l live) ⟨(d, .tup []) :: e, st⟩ K R B) (h2 : c = false → Wp T (.ops (⟨some d, i, none⟩ :: l) live) ⟨e, st⟩ K R B) : Wp T (.ops (⟨some d, i, some (g, false)⟩ :: l) live) ⟨e, st⟩ K R B := by
  cases hc : c with
  | true => exact Wp.opSf hg hc (h1 hc)
  | false => exact Wp.ung hg hc (h2 hc)
theorem Wp.pickT {d : Nat} {c : Bool} {x y z : A} {l : List O} {live : List Nat} {e : Env} {st : List Ob} {u : U} (hx : x.ev e = .bool c) (hc : c = true) (hu : y.ev e = u) (k : Wp T (.ops l live) ⟨(d, u) :: e, st⟩ K R B) : Wp T (.ops (⟨some d, .pick x y z, none⟩ :: l) live) ⟨e, st⟩ K R B :=
  Wp.op (u := u) (.all fun n => by simp only [ev1, hx, hc, if_true, hu]) k
theorem Wp.pickF {d : Nat} {c : Bool} {x y z : A} {l : List O} {live : List Nat} {e : Env} {st : List Ob} {u : U} (hx : x.ev e = .bool c) (hc : c = false) (hu : z.ev e = u) (k : Wp T (.ops l live) ⟨(d, u) :: e, st⟩ K R B) : Wp T (.ops (⟨some d, .pick x y z, none⟩ :: l) live) ⟨e, st⟩ K R B :=
  Wp.op (u := u) (.all fun n => by simp only [ev1, hx, hc, Bool.false_eq_true, if_false, hu]) k
theorem Dr.callG {nid d f g : Nat} {b : Bool} {xs : List A} {e : Env} {st st1 : List Ob} {u : U} {s' : S} {l : List O} {t : Touch} {ts : List Touch} (hg : M2.get e g = .bool b) (ht : touch (pfT T) e st nid (.call f xs) = t) (h : Cl T f (xs.map (·.ev e)) st u st1) (k : Dr T nid ⟨(d, u) :: e, st1⟩ l s' ts) : Dr T nid ⟨e, st⟩ (⟨some d, .call f xs, some (g, b)⟩ :: l) s' (t :: ts) :=
  Dr.opG hg ht (h.mono fun n h => h) rfl k
theorem Wp.next {P : S → Prop} {L : Nat} {s' s2 : S} (h : trimO L s' = s2) (k : P s2) : ∃ s2, trimO L s' = s2 ∧ P s2 := ⟨s2, h, k⟩
theorem Wp.unroll {c : C} {s : S} (h : Wp T c s (fun s' => ∃ s2, trimO s.st.length s' = s2 ∧ Wp T (.loop c) s2 K R B) R B) : Wp T (.loop c) s K R B := by
  unfold Wp at h ⊢
  obtain ⟨x, s', h1, h2⟩ := h
  cases x with
  | nrm =>
    obtain ⟨s2, e, y, s3, h3, h4⟩ := h2
    exact ⟨y, s3, .loop h1 (by rw [e]; exact h3), h4⟩
  | ret => exact ⟨.ret, s', .loopRet h1, h2⟩
  | exit i => exact ⟨.exit i, s', .loopExit h1, h2⟩
theorem Wp.condT {c : A} {a b : C} {s : S} {t : Bool} (hc : c.ev s.env = .bool t) (ht : t = true) (h : Wp T a s K R B) : Wp T (.cond c a b) s K R B := Wp.cond hc (fun _ => h) (fun h2 => by rw [ht] at h2; cases h2)
theorem Wp.condF {c : A} {a b : C} {s : S} {t : Bool} (hc : c.ev s.env = .bool t) (ht : t = false) (h : Wp T b s K R B) : Wp T (.cond c a b) s K R B := Wp.cond hc (fun h2 => by rw [ht] at h2; cases h2) (fun _ => h)
end
/-! Freezing values in values. -/
theorem frz_agg (st : List Ob) (cs : List U) : frz frzD st (.agg cs) = (accM (frz 11) st cs).bind fun p => some (.agg p.1, p.2) := rfl
theorem frz_tup (st : List Ob) (cs : List U) : frz frzD st (.tup cs) = (accM (frz 11) st cs).bind fun p => some (.tup p.1, p.2) := rfl
theorem frz_iface (st : List Ob) (t : Nat) (u : U) : frz frzD st (.iface t u) = (frz 11 st u).bind fun p => some (.iface t p.1, p.2) := rfl
theorem frzS_agg (d : Nat) (st : List Ob) (cs : List U) : frz (d + 1) st (.agg cs) = (accM (frz d) st cs).bind fun p => some (.agg p.1, p.2) := rfl
theorem frzS_iface (d : Nat) (st : List Ob) (t : Nat) (u : U) : frz (d + 1) st (.iface t u) = (frz d st u).bind fun p => some (.iface t p.1, p.2) := rfl
theorem accMS_cons (d : Nat) (st : List Ob) (x : U) (xs : List U) : accM (frz d) st (x :: xs) = (frz d st x).bind fun p => (accM (frz d) p.2 xs).bind fun q => some (p.1 :: q.1, q.2) := rfl
theorem frzS_int (d : Nat) (st : List Ob) (k : IntKind) (n : Int) : frz (d + 1) st (.int k n) = some (.int k n, st) := rfl
theorem frzS_bool (d : Nat) (st : List Ob) (b : Bool) : frz (d + 1) st (.bool b) = some (.bool b, st) := rfl
theorem frzS_str (d : Nat) (st : List Ob) (s : List UInt8) : frz (d + 1) st (.str s) = some (.str s, st) := rfl
theorem frzS_slt (d : Nat) (st : List Ob) (xs : List (List U)) : frz (d + 1) st (.sl true xs) = some (.sl true xs, st) := rfl
theorem frzS_nils (d : Nat) (st : List Ob) : frz (d + 1) st .nils = some (.sl true [], st) := rfl
theorem frzS_nilI (d : Nat) (st : List Ob) : frz (d + 1) st .nilI = some (.nilI, st) := rfl
theorem frzS_row {d : Nat} {st : List Ob} {id n t e : Nat} {xs : List (List U)} (h : st[id]? = some (.row t e false xs)) (hn : xs.length = n) : frz (d + 1) st (.own id n) = some (.sl true xs, st.set id (.frow xs)) := by
  rw [frz]
  simp only [h, hn, if_true]
/-! One step forward, which is found by itself: `W.a` as it comes, `W.f` with facts; `W.u`, `W.v` the same where tests are known or open; `W.c` parts at a test; `W.i` parts at a condition. -/
structure Fa (A : Prop) : Prop where
  a : A
section
variable {P Q A : Prop}
theorem fa (a : A) : Fa A := ⟨a⟩
theorem Wp.a (k : Q) (h : Q → P := by
  first
  | apply Wp.seq
  | apply Wp.skip
  | apply Wp.block
  | (apply Wp.op0; ((simp [M2.keep]) <;> rfl))
  | ((first | apply Wp.op | apply Wp.opN | (apply Wp.opG; exact rfl)); (apply Evt.all; intro; (simp) <;> (try simp (disch := omega) only [wrap_id]) <;> first | exact ⟨rfl, rfl⟩ | exact rfl))
  | (apply Wp.opS; exact rfl; decide)
  | (apply Wp.opS0; exact rfl)) : P := h k
theorem Wp.f (k : Q) (h : Q → P := by
  first
  | apply Wp.seq
  | apply Wp.skip
  | apply Wp.block
  | (apply Wp.op0; ((simp [M2.keep]) <;> rfl))
  | ((first | apply Wp.op | apply Wp.opN | (apply Wp.opG; exact rfl)); (apply Evt.all; intro; (simp [(‹Fa _›).a]) <;> (try simp (disch := omega) only [wrap_id]) <;> first | exact ⟨rfl, rfl⟩ | exact rfl))
  | (apply Wp.opS; exact rfl; decide)
  | (apply Wp.opS0; exact rfl)) : P := h k
theorem Wp.u (k : Q) (h : Q → P := by
  first
  | apply Wp.seq
  | apply Wp.skip
  | apply Wp.block
  | (apply Wp.op0; ((simp [M2.keep]) <;> rfl))
  | ((first | (apply Wp.pickT; (exact rfl); (first | exact rfl | assumption)) | (apply Wp.pickF; (exact rfl); (first | exact rfl | assumption))); ((simp) <;> exact rfl))
  | ((first | apply Wp.op | apply Wp.opN); (apply Evt.all; intro; (simp) <;> (try simp (disch := omega) only [wrap_id]) <;> first | exact ⟨rfl, rfl⟩ | exact rfl))
  | (first | (apply Wp.ung; (exact rfl); (first | exact rfl | assumption)) | (apply Wp.opSt; (exact rfl); (first | exact rfl | assumption)) | (apply Wp.opSf; (exact rfl); (first | exact rfl | assumption)))
  | (apply Wp.opS0; (exact rfl))
  | (first | (apply Wp.condT; (exact rfl); (first | exact rfl | assumption)) | (apply Wp.condF; (exact rfl); (first | exact rfl | assumption)))) : P := h k
theorem Wp.v (k : Q) (h : Q → P := by
  first
  | apply Wp.seq
  | apply Wp.skip
  | apply Wp.block
  | (apply Wp.op0; ((simp [M2.keep]) <;> rfl))
  | ((first | (apply Wp.pickT; (exact rfl); (first | exact rfl | assumption)) | (apply Wp.pickF; (exact rfl); (first | exact rfl | assumption))); ((simp) <;> exact rfl))
  | ((first | apply Wp.op | apply Wp.opN); (apply Evt.all; intro; (simp [(‹Fa _›).a]) <;> (try simp (disch := omega) only [wrap_id]) <;> first | exact ⟨rfl, rfl⟩ | exact rfl))
  | (first | (apply Wp.ung; (exact rfl); (first | exact rfl | assumption)) | (apply Wp.opSt; (exact rfl); (first | exact rfl | assumption)) | (apply Wp.opSf; (exact rfl); (first | exact rfl | assumption)))
  | (apply Wp.opS0; (exact rfl))
  | (first | (apply Wp.condT; (exact rfl); (first | exact rfl | assumption)) | (apply Wp.condF; (exact rfl); (first | exact rfl | assumption)))) : P := h k
theorem Wp.s (k : Q) (h : Q → P := by
  first
  | apply Wp.seq
  | apply Wp.skip
  | apply Wp.block
  | (apply Wp.op0; ((simp [M2.keep]) <;> rfl))
  | (apply Wp.opS; exact rfl; decide)
  | (apply Wp.opS0; exact rfl)) : P := h k
theorem Wp.t (k : Q) (h : Q → P := by
  first
  | apply Wp.seq
  | apply Wp.skip
  | apply Wp.block
  | (apply Wp.op0; ((simp [M2.keep]) <;> rfl))
  | ((first | (apply Wp.pickT; (exact rfl); (first | exact rfl | assumption)) | (apply Wp.pickF; (exact rfl); (first | exact rfl | assumption))); ((simp) <;> exact rfl))
  | (first | (apply Wp.ung; (exact rfl); (first | exact rfl | assumption)) | (apply Wp.opSt; (exact rfl); (first | exact rfl | assumption)) | (apply Wp.opSf; (exact rfl); (first | exact rfl | assumption)))
  | (apply Wp.opS0; (exact rfl))
  | (first | (apply Wp.condT; (exact rfl); (first | exact rfl | assumption)) | (apply Wp.condF; (exact rfl); (first | exact rfl | assumption)))) : P := h k
theorem Wp.l (k : Q) (h : Q → P := by
  first
  | (apply Wp.unroll)
  | (apply Wp.next; ((simp [trimO, trim]) <;> rfl))
  | (refine fun k => Wp.exit ?_; revert k; (first | rw [if_pos rfl] | (rw [if_neg (by decide)]; first | rw [if_pos rfl] | (rw [if_neg (by decide)]; rw [if_pos rfl]))); exact id)) : P := h k
theorem Wp.c {Q1 Q2 : Prop} (k1 : Q1) (k2 : Q2) (h : Q1 → Q2 → P := by
  (first | apply Wp.grdT | apply Wp.grdF | apply Wp.cond); (exact rfl)) : P := h k1 k2
theorem a2 {B : Prop} (a : A) (b : B) : A ∧ B := ⟨a, b⟩
theorem a3 {B C : Prop} (a : A) (b : B) (c : C) : A ∧ B ∧ C := ⟨a, b, c⟩
theorem a4 {B C D : Prop} (a : A) (b : B) (c : C) (d : D) : A ∧ B ∧ C ∧ D := ⟨a, b, c, d⟩
theorem a5 {B C D E : Prop} (a : A) (b : B) (c : C) (d : D) (e : E) : A ∧ B ∧ C ∧ D ∧ E := ⟨a, b, c, d, e⟩
end
theorem Wp.i {T : Nat → Option F} {K R : S → Prop} {B : Nat → S → Prop} {c : A} {a b : C} {s : S} {t : Bool} (h1 : t = true → Wp T a s K R B) (h2 : t = false → Wp T b s K R B) (hc : c.ev s.env = .bool t := by first | rfl | (simp; rfl)) : Wp T (.cond c a b) s K R B := Wp.cond hc h1 h2
def dataU : Nat → DataW Unit → Option (List U)
  | 0, _ => none
  | d + 1, x => match x with
    | .lit (.bool b) => some [.bool b]
    | .lit (.int k n) => some [.int k n]
    | .lit (.string s) => some [.str s]
    | .agg ps => (allM (dataU d) ps).map List.flatten
    | _ => none
def tilesI (P : Program) : Nat → List (Nat × TypeId) → Option Nat
  | off, [] => some off
  | off, f :: fs => if f.1 = off then tilesI P (off + P.cellsOf f.2) fs else none
def flatT (P : Program) : Nat → TypeId → Bool
  | 0, _ => false
  | d + 1, t => match P.underlying t with
    | some .bool | some (.int _) | some .string => true
    | some (.struct fs) => fs.toList.all (fun f => flatT P d f.type) && tilesI P 0 (fs.toList.map fun f => (f.offset, f.type)) == some (P.cellsOf t)
    | some (.array n e) => flatT P d e && P.cellsOf t == n * P.cellsOf e
    | _ => false
theorem tilesI_rep {P : Program} (e : TypeId) : ∀ (n k : Nat), tilesI P (k * P.cellsOf e) ((List.range' k n).map fun i => (i * P.cellsOf e, e)) = some ((k + n) * P.cellsOf e)
  | 0, k => by simp [tilesI]
  | n + 1, k => by
    rw [List.range'_succ, List.map_cons]
    simp only [tilesI, if_true]
    rw [show k * P.cellsOf e + P.cellsOf e = (k + 1) * P.cellsOf e by rw [Nat.add_mul, Nat.one_mul]]
    have := tilesI_rep (P := P) e n (k + 1)
    rw [show k + 1 + n = k + (n + 1) by omega] at this
    exact this
section
variable {E : En} {g : G}
theorem data_parts {base : Nat} {spare : Nat → Bool} {held : Bool} {d fuel D : Nat}
    (ih : ∀ (t : TypeId) (cs : List Value) (x : DataW Unit × List MemPlace) (us : List U), flatT E.P d t = true → DataW.trod (fun _ => ()) E.P g.w base spare held fuel t cs = some x → dataU D x.1 = some us → VRs E g us cs ∧ One cs ∧ Clos false us) {cs : List Value} :
    ∀ (its : List (Nat × TypeId)) (xs : List (DataW Unit × List MemPlace)) (uss : List (List U)) (off fin : Nat), tilesI E.P off its = some fin → fin ≤ cs.length → its.length = xs.length →
      (∀ (i : Nat) it x, its[i]? = some it → xs[i]? = some x → DataW.trod (fun _ => ()) E.P g.w base spare held fuel it.2 ((cs.drop it.1).take (E.P.cellsOf it.2)) = some x) → (∀ it ∈ its, flatT E.P d it.2 = true) → allM (dataU D) (xs.map (·.1)) = some uss →
      off ≤ fin ∧ VRs E g uss.flatten ((cs.drop off).take (fin - off)) ∧ One ((cs.drop off).take (fin - off)) ∧ Clos false uss.flatten
  | [], xs, uss, off, fin, h, _, hl, _, _, hu => by
    have : xs = [] := List.eq_nil_of_length_eq_zero hl.symm
    subst this
    simp [tilesI] at h
    subst h
    simp [allM] at hu
    subst hu
    exact ⟨Nat.le_refl _, by simp [VRs], by simp [One], by simp [Clos]⟩
  | it :: its, x :: xs, uss, off, fin, h, hle, hl, hr, hp, hu => by
    simp only [tilesI] at h
    split at h
    · rename_i hoff
      simp only [List.map_cons, allM, Option.bind_eq_some_iff] at hu
      obtain ⟨u, h1, us, h2, h3⟩ := hu
      simp only [Option.some.injEq] at h3
      subst h3
      obtain ⟨k0, k1, k2, k3⟩ := data_parts ih its xs us (off + E.P.cellsOf it.2) fin h hle (by simpa using hl) (fun i a b ha hb => hr (i + 1) a b (by simpa using ha) (by simpa using hb)) (fun a ha => hp a (by simp [ha])) h2
      obtain ⟨m1, m2, m3⟩ := ih _ _ _ _ (hp it (by simp)) (hr 0 it x rfl rfl) h1
      rw [hoff] at m1 m2
      have hcut : (cs.drop off).take (fin - off) = (cs.drop off).take (E.P.cellsOf it.2) ++ (cs.drop (off + E.P.cellsOf it.2)).take (fin - (off + E.P.cellsOf it.2)) := by
        rw [show fin - off = E.P.cellsOf it.2 + (fin - (off + E.P.cellsOf it.2)) by omega, List.take_add, List.drop_drop]
      refine ⟨by omega, ?_, ?_, ?_⟩
      · rw [hcut, List.flatten_cons]
        exact m1.append k1
      · rw [hcut]
        intro x hx
        rcases List.mem_append.1 hx with hx | hx
        · exact m2 x hx
        · exact k2 x hx
      · rw [List.flatten_cons, Clos_iff]
        intro x hx
        rcases List.mem_append.1 hx with hx | hx
        · exact Clos_iff.1 m3 x hx
        · exact Clos_iff.1 k3 x hx
    · cases h
  | _ :: _, [], _, _, _, _, _, hl, _, _, _ => by simp at hl
theorem data_ok {base : Nat} {spare : Nat → Bool} {held : Bool} : ∀ (d D fuel : Nat) (t : TypeId) (cs : List Value) (x : DataW Unit × List MemPlace) (us : List U), flatT E.P d t = true → DataW.trod (fun _ => ()) E.P g.w base spare held fuel t cs = some x → dataU D x.1 = some us → VRs E g us cs ∧ One cs ∧ Clos false us
  | 0, _, _, _, _, _, _, h, _, _ => by simp [flatT] at h
  | _, 0, _, _, _, _, _, _, _, h => by simp [dataU] at h
  | d + 1, D + 1, 0, t, cs, x, us, _, h, _ => by simp [DataW.trod] at h
  | d + 1, D + 1, fuel + 1, t, cs, x, us, hp, h, hu => by
    unfold flatT at hp
    unfold DataW.trod at h
    split at hp <;> rename_i ht
    · simp only [ht] at h
      split at h <;> first
        | (rename_i b he; cases he; cases h; simp only [dataU, Option.some.injEq] at hu; subst hu; exact ⟨by simp [VRs, VR], by simp [One, Value.oneCell'], by simp [Clos, Clo]⟩)
        | (rename_i he _; cases he; done)
        | (rename_i he; cases he; done)
        | cases h
    · simp only [ht] at h
      split at h <;> first
        | (rename_i k2 k' n he
           cases he
           split at h
           · rename_i hc
             obtain ⟨rfl, hwf⟩ := hc
             cases h
             simp only [dataU, Option.some.injEq] at hu
             subst hu
             exact ⟨by simp [VRs, VR], by simp [One, Value.oneCell'], by simp [Clos, Clo]⟩
           · cases h)
        | (rename_i he _; cases he; done)
        | (rename_i he; cases he; done)
        | cases h
    · simp only [ht] at h
      split at h <;> first
        | (rename_i sx he
           cases he
           split at h
           · cases h
             simp only [dataU, Option.some.injEq] at hu
             subst hu
             exact ⟨by simp [VRs, VR], by simp [One, Value.oneCell'], by simp [Clos, Clo]⟩
           · cases h)
        | (rename_i he _; cases he; done)
        | (rename_i he; cases he; done)
        | cases h
    · rename_i fs
      simp only [Bool.and_eq_true, List.all_eq_true, beq_iff_eq] at hp
      obtain ⟨hpf, htl⟩ := hp
      simp only [ht] at h
      split at h
      · rename_i hc
        simp only [Option.map_eq_some_iff] at h
        obtain ⟨ys, h1, rfl⟩ := h
        obtain ⟨m1, m2⟩ := mapM_len h1
        simp only [dataU, Option.map_eq_some_iff] at hu
        obtain ⟨uss, hu, rfl⟩ := hu
        obtain ⟨_, k1, k2, k3⟩ := data_parts (fun t cs x us a b c => data_ok d D fuel t cs x us a b c) (cs := cs) (fs.toList.map fun f => (f.offset, f.type)) ys uss 0 _ htl (by omega) (by simp [m1]) (fun i it x hi hx => by
          rw [List.getElem?_map, Option.map_eq_some_iff] at hi
          obtain ⟨f, hf, rfl⟩ := hi
          obtain ⟨y, hy, hy'⟩ := m2 i f hf
          rw [hx] at hy
          cases hy
          exact hy') (fun it hit => by
          obtain ⟨f, hf, rfl⟩ := List.mem_map.1 hit
          exact hpf f hf) hu
        rw [List.drop_zero, Nat.sub_zero, ← hc, List.take_length] at k1 k2
        exact ⟨k1, k2, k3⟩
      · cases h
    · rename_i n e
      simp only [Bool.and_eq_true, beq_iff_eq] at hp
      obtain ⟨hpe, hsz⟩ := hp
      simp only [ht] at h
      split at h
      · rename_i hc
        simp only [Option.map_eq_some_iff] at h
        obtain ⟨ys, h1, rfl⟩ := h
        obtain ⟨m1, m2⟩ := mapM_len h1
        simp only [dataU, Option.map_eq_some_iff] at hu
        obtain ⟨uss, hu, rfl⟩ := hu
        have htl := tilesI_rep (P := E.P) e n 0
        rw [Nat.zero_mul, Nat.zero_add] at htl
        obtain ⟨_, k1, k2, k3⟩ := data_parts (fun t cs x us a b c => data_ok d D fuel t cs x us a b c) (cs := cs) ((List.range' 0 n).map fun i => (i * E.P.cellsOf e, e)) ys uss 0 _ htl (by omega) (by simp [m1]) (fun i it x hi hx => by
          rw [List.getElem?_map, Option.map_eq_some_iff] at hi
          obtain ⟨f, hf, rfl⟩ := hi
          rw [← List.range_eq_range'] at hf
          obtain ⟨y, hy, hy'⟩ := m2 i f hf
          rw [hx] at hy
          cases hy
          exact hy') (fun it hit => by
          obtain ⟨f, hf, rfl⟩ := List.mem_map.1 hit
          exact hpe) hu
        rw [List.drop_zero, Nat.sub_zero, ← hsz, ← hc, List.take_length] at k1 k2
        exact ⟨k1, k2, k3⟩
      · cases h
    · cases hp
theorem laid_var {W : World} : ∀ (laid : List (String × DataW Unit)) (ps : List MemPlace), DataW.LaidVars E.P W laid ps → ∀ (name : String) (d : DataW Unit), (name, d) ∈ laid → ∀ (n : Nat) (t : TypeId) (u : U) (us : List U), E.P.globalNamed name = some n → (E.P.globals[n]?).map (·.type) = some t → flatT E.P 6 t = true → dataU 6 d = some (u :: us) →
    VR E (g0 W) (.fp (u :: us)) (.pointer (some ⟨n, 0, none⟩))
  | [], _, _, _, _, hm, _, _, _, _, _, _, _, _ => by cases hm
  | (nm, dt) :: laid, ps, h, name, d, hm, n, t, u, us, hn, ht, hf, hd => by
    obtain ⟨g, t', cs, f, p, q, hg, ht', hv, hr, hrest, _⟩ := h
    rcases List.mem_cons.1 hm with e | hm
    · cases e
      obtain rfl := Option.some.inj (hn.symm.trans hg)
      obtain rfl := Option.some.inj (ht.symm.trans ht')
      obtain ⟨k1, k2, k3⟩ := data_ok (E := E) (g := g0 W) 6 6 f t cs.toList _ _ hf hr hd
      have hcell : ∀ (k : Nat) v, cs.toList[k]? = some v → W.cell? ⟨n, 0 + k, none⟩ = some v := fun k v hk => by
        rw [Nat.zero_add, World.var?_cell hg hv k]
        simpa using hk
      simp only [VR]
      refine ⟨k3, n, 0, cs.toList, rfl, ⟨.inr ⟨rfl, ?_⟩, k2, hcell⟩, k1⟩
      simp only [VRs] at k1
      obtain ⟨v, r, e, _⟩ := k1
      exact (cell_spot (hcell 0 v (by rw [e]; rfl))).2
    · exact laid_var laid _ hrest name d hm n t u us hn ht hf hd
end
end Go.Proofs.YtfmhnfimkpffnaaGreatDoor.M2
