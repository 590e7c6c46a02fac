/- One operation of each kind. -/
import Derived.Test.YtfmhnfimkpffnaaGreatDoorCa
import Derived.Lib.Strings
import Derived.MapKept
import Derived.Laws.BytesString
import Derived.Lib.ConvBytes
import Derived.WideKeyRuns
set_option linter.unusedSimpArgs false
set_option linter.unusedVariables false
set_option linter.unusedSectionVars false
namespace Go.Proofs.YtfmhnfimkpffnaaGreatDoor.M2
open Go
section
variable {E : En}
theorem rep_flat {α : Type} (l : List α) (hl : 0 < l.length) : ∀ (n k : Nat), (List.replicate n l).flatten[k]? = if k < n * l.length then l[k % l.length]? else none
  | 0, k => by simp
  | n + 1, k => by
    rw [List.replicate_succ, List.flatten_cons, List.getElem?_append, rep_flat l hl n]
    by_cases h : k < l.length
    · rw [if_pos h, if_pos (by rw [Nat.add_mul, Nat.one_mul]; omega), Nat.mod_eq_of_lt h]
    · rw [if_neg h]
      by_cases h2 : k < (n + 1) * l.length
      · have h3 : k - l.length < n * l.length := by rw [Nat.add_mul, Nat.one_mul] at h2; omega
        rw [if_pos h2, if_pos h3, Nat.mod_eq_sub_mod (a := k) (by omega)]
      · have h3 : ¬ k - l.length < n * l.length := by rw [Nat.add_mul, Nat.one_mul] at h2; omega
        rw [if_neg h2, if_neg h3]
theorem made_ok {g : G} {z : List U} {v : Array Value} (hv : VRs E g z v.toList) (h1 : One v.toList) (hz : 0 < z.length) (n s : Nat) (hs : z.length = s) :
    VRs E g (List.replicate n z).flatten ((Array.range (n * s)).map (v[· % v.size]!)).toList ∧ One ((Array.range (n * s)).map (v[· % v.size]!)).toList := by
  have hl := hv.length
  simp only [Array.length_toList] at hl
  have hlen : (List.replicate n z).flatten.length = n * s := by rw [flat_length (es := s)]; simp; intro x hx; rw [List.eq_of_mem_replicate hx]; exact hs
  constructor
  · refine VRs_iff.2 ⟨by rw [hlen]; simp, fun k u x hu hx => ?_⟩
    rw [rep_flat z hz] at hu
    split at hu
    · rename_i hk
      have hm : k % z.length < z.length := Nat.mod_lt _ hz
      simp only [Array.toList_map, List.getElem?_map, Array.getElem?_toList, Option.map_eq_some_iff] at hx
      obtain ⟨j, hj, rfl⟩ := hx
      rw [Array.getElem?_range] at hj
      split at hj
      · cases hj
        obtain ⟨y, hy1, hy2⟩ := hv.get hu
        rw [show v[k % v.size]! = y by rw [← hl]; rw [Array.getElem?_toList] at hy1; simp [getElem!_def, hy1]]
        exact hy2
      · cases hj
    · cases hu
  · intro x hx
    simp only [Array.toList_map, List.mem_map] at hx
    obtain ⟨k, hk, rfl⟩ := hx
    have hm : k % v.size < v.size := Nat.mod_lt _ (by omega)
    rw [getElem!_pos v _ hm]
    exact h1 _ (by simp)
theorem new_row {g : G} {st st' : List Ob} (h : SR E g st) {nid tag es : Nat} {keep : Bool} {xs : List (List U)} (hn : newOb st nid (.row tag es keep xs) = some st') {cs : Array Value} (hv : VRss E g xs cs.toList) (h1 : One cs.toList)
    (hes : ∀ x ∈ xs, x.length = es) (hpos : 0 < es) (hc : keep = false → Closs true xs) (hm : xs.length ≤ maxLen) :
    ∃ g', Step g st g' st' ∧ SR E g' st' ∧ g'.w = g.w.alloc (.cells cs tag) ∧ VR E g' (.own nid xs.length) (.slice (some ⟨g.w.heap.size, 0, none⟩) xs.length xs.length) := by
  have hl := (VRss_flat.1 hv).length
  rw [flat_length hes] at hl
  have hg : g.w.grownBy (g.w.alloc (.cells cs tag)) none := World.grownBy_alloc _ _ _
  have hown := World.ownsRow_lit (base := 0) (e := tag) (size := es) g.w cs xs.length (by omega) hm (by simpa using hl.symm)
  obtain ⟨s, r⟩ := h.new hn hg (.slice (some ⟨g.w.heap.size, 0, none⟩) xs.length xs.length) 0 xs.length es rfl
    (fun hx => ⟨cs.toList, by simp only [G.add, upd_same]; exact hown, h1, VRss.ext hx _ _ hv, hes, by simp [G.add, upd_same], by simp [G.add, upd_same], hc, hpos⟩)
    (fun c hc => by simp only [blk, G.add, upd_same, Value.ownBlock, Option.some.injEq] at hc; subst hc; simp)
  exact ⟨_, s, r, rfl, by simp only [VR, G.add, upd_same]; exact ⟨⟨_, _, _, rfl⟩, by simp, by simp, by simp⟩⟩
theorem fillR_ok {g : G} {e : Env} {a : Act} (hg : GlobOK E g) (he : EnvR E g e a) (s : Nat) :
    ∀ (ps : List (Nat × Operand)) (qs : List (Nat × A)) (xs xs' : List (List U)) (ws : Array Value), parts2 E ps = some qs → fillR e s qs xs = some xs' → VRs E g xs.flatten ws.toList → One ws.toList → (∀ x ∈ xs, x.length = s) →
      ∃ ws' : Array Value, Instr.fill (fun i => some (i * s, s)) ws (ps.map fun p => (p.1, a.eval p.2)) = some ws' ∧ VRs E g xs'.flatten ws'.toList ∧ One ws'.toList ∧ (∀ x ∈ xs', x.length = s) ∧ xs'.length = xs.length
  | [], qs, xs, xs', ws, h1, h2, h3, h4, h5 => by
    simp [parts2] at h1
    subst h1
    simp [fillR] at h2
    subst h2
    exact ⟨ws, by simp [Instr.fill], h3, h4, h5, rfl⟩
  | (i, x) :: ps, qs, xs, xs', ws, h1, h2, h3, h4, h5 => by
    simp only [parts2, Option.bind_eq_some_iff, Option.map_eq_some_iff] at h1
    obtain ⟨y, hy, qs', hq, rfl⟩ := h1
    simp only [fillR, Option.bind_eq_some_iff] at h2
    obtain ⟨us, hus, h2⟩ := h2
    split at h2
    · rename_i hc
      have hv := opA_ok hg he hy
      have hcells := cells_of_VR hv hus
      have hl : (a.eval x).cells.size = s := by rw [← hc.1, hcells.length]; simp
      have hl3 := h3.length
      rw [flat_length h5] at hl3
      simp only [Array.length_toList] at hl3
      have hmul : i * s + s ≤ xs.length * s := by rw [← Nat.succ_mul]; exact Nat.mul_le_mul_right _ hc.2
      have hfit : i * s + (a.eval x).cells.size ≤ ws.size := by omega
      have hfl := flat_length h5
      obtain ⟨ws', hf, hv', h1', h6, h7⟩ := fillR_ok hg he s ps qs' _ xs' _ hq h2 (by
        rw [fill_step (i * s) _ ws hfit, flat_set h5 hc.1 hc.2]
        exact h3.splice hcells (by omega)) (one_fill hfit h4 (one_of_VR hv hus))
        (by intro y hy
            rcases List.mem_or_eq_of_mem_set hy with hy | rfl
            · exact h5 y hy
            · exact hc.1)
      refine ⟨ws', ?_, hv', h1', h6, by rw [h7]; simp⟩
      simp only [List.map_cons, Instr.fill]
      rw [if_neg (by simp [hl]; omega)]
      exact hf
    · cases h2
theorem lit_ok {g : G} {st st' : List Ob} (h : SR E g st) {e : Env} {a : Act} (hg : GlobOK E g) (he : EnvR E g e a) {t el : TypeId} {n s nid : Nat} {keep : Bool} {z : List U} {ps : List (Nat × Operand)} {qs : List (Nat × A)} {xs : List (List U)} {u : U}
    (hu : E.elem t = some el) (hs : E.size el = some s) (hz : E.zero el = some z) (hpos : 0 < s) (hzs : z.length = s) (hsm : n * s ≤ 16777216) (hq : parts2 E ps = some qs) (hf : fillR e s qs (List.replicate n z) = some xs)
    (hn : (if keep then (newOb st nid (.row el s keep xs)).bind fun st => some (U.own nid n, st) else (accM (accM (frz frzD)) st xs).bind fun (xs, st) => (newOb st nid (.row el s keep xs)).bind fun st => some (.own nid n, st)) = some (u, st')) :
    RunOK E g st (Instr.buildSlice t n (ps.map fun p => (p.1, a.eval p.2)).toArray) u st' := by
  obtain ⟨v, h1, h2, h3⟩ := En.zero_run hz g.w
  have hvl := (h3 g).length
  simp only [Array.length_toList] at hvl
  have hmade := made_ok (h3 g) h2 (by omega) n s hzs
  obtain ⟨ws', hfill, hv, ho, hes, hlen⟩ := fillR_ok hg he s ps qs (List.replicate n z) xs _ hq hf hmade.1 hmade.2 (by intro x hx; rw [List.eq_of_mem_replicate hx]; exact hzs)
  rw [List.length_replicate] at hlen
  have hm : xs.length ≤ maxLen := by
    have : n ≤ n * s := Nat.le_mul_of_pos_right _ hpos
    rw [hlen]; simp [maxLen]; omega
  have hel : E.P.underlying t = some (.slice el) := by
    unfold En.elem at hu
    split at hu
    · rename_i hu'; cases hu; exact hu'
    · cases hu
  have hrun : ∀ w' : World, w' = g.w.alloc (.cells ws' el) → (Instr.buildSlice t n (ps.map fun p => (p.1, a.eval p.2)).toArray).run E.P g.w = .ok (.slice (some ⟨g.w.heap.size, 0, none⟩) n n) w' := by
    rintro w' rfl
    have hng : ¬ (n * s > 16777216) := by omega
    by_cases h0 : n * s = 0
    · have hn0 : n = 0 := by rcases Nat.mul_eq_zero.1 h0 with h | h <;> omega
      subst hn0
      simp only [Nat.zero_mul] at hfill hng
      simp [Instr.buildSlice, run_underlying hel, En.size_run hs]
      have e0 : (Array.map (fun x => v.cells[x % v.cells.size]!) (Array.range 0)) = #[] := by simp
      rw [e0] at hfill
      rw [show (Array.map (fun _ => (default : Value)) (Array.range 0)) = #[] by simp, hfill]
      simp [newRow]
    · simp [Instr.buildSlice, run_underlying hel, En.size_run hs, h0, h1]
      rw [if_neg (by omega)]
      simp [hfill, newRow]
  cases keep with
  | true =>
    simp only [if_true, Option.bind_eq_some_iff] at hn
    obtain ⟨st1, hn1, hn2⟩ := hn
    cases hn2
    obtain ⟨g', sp, r, hw, hval⟩ := new_row h hn1 (VRss_flat.2 hv) ho hes hpos (by simp) hm
    exact ⟨_, g', hrun _ hw, sp, r, by rw [hlen] at hval; exact hval⟩
  | false =>
    simp only [Bool.false_eq_true, if_false, Option.bind_eq_some_iff] at hn
    obtain ⟨⟨ys, st1⟩, ha, st2, hn1, hn2⟩ := hn
    cases hn2
    obtain ⟨g1, s1, r1, v1, c1, w1, l1⟩ := (frz_ok (E := E) frzD).list.rows g st xs ws'.toList ys st1 h (VRss_flat.2 hv) ha
    have hyl := accM_length _ xs st ys st1 ha
    obtain ⟨g', sp, r, hw, hval⟩ := new_row r1 hn1 v1 ho (accM_rows_len xs st ys st1 ha hes) hpos (fun _ => c1) (by rw [hyl]; exact hm)
    rw [w1] at hw hval
    exact ⟨_, g', hrun _ hw, s1.trans sp, r, by rw [hyl, hlen] at hval; exact hval⟩
theorem Closs_replicate {p : Bool} {z : List U} (h : Clos p z) : ∀ n, Closs p (List.replicate n z)
  | 0 => by simp [Closs]
  | n + 1 => by rw [List.replicate_succ]; simp only [Closs]; exact ⟨h, Closs_replicate h n⟩
theorem mkslice_ok {g : G} {st st1 st' : List Ob} (h : SR E g st) {t el : TypeId} {i : TypeInfo} {nid : Nat} {keep : Bool} {z z' : List U} {k k' : IntKind} {n : Int} (hu : E.elem t = some el) (hi : E.info el = some i) (hz : E.zero el = some z) (hpos : 0 < i.size) (hzs : z.length = i.size)
    (hc : (if keep then some (z, st) else accM (frz frzD) st z) = some (z', st1)) (h0 : 0 ≤ n) (hb : n * i.bytes ≤ limit) (hb0 : 0 < i.bytes) (hn : newOb st1 nid (.row el i.size keep (List.replicate n.toNat z')) = some st') :
    RunOK E g st (Instr.makeSlice t (.int k n) (.int k' n)) (.own nid n.toNat) st' := by
  have hel : E.P.underlying t = some (.slice el) := by
    unfold En.elem at hu
    split at hu
    · rename_i hu'; cases hu; exact hu'
    · cases hu
  unfold En.zero at hz
  simp only [Option.bind_eq_some_iff] at hz
  obtain ⟨v, ⟨i', hi', hz'⟩, h3⟩ := hz
  unfold En.info at hi
  rw [hi] at hi'
  cases hi'
  split at h3
  · rename_i hone
    have hv : VRs E g z v.cells.toList := ofVals_ok (fun v u => ofVal_ok _ v u) _ _ h3
    obtain ⟨g1, s1, r1, v1, c1, w1, hzl⟩ : ∃ g1, Step g st g1 st1 ∧ SR E g1 st1 ∧ VRs E g1 z' v.cells.toList ∧ (keep = false → Clos true z') ∧ g1.w = g.w ∧ z'.length = z.length := by
      cases keep with
      | true => simp at hc; obtain ⟨rfl, rfl⟩ := hc; exact ⟨g, Step.refl g _, h, hv, by simp, rfl, rfl⟩
      | false =>
        simp only [Bool.false_eq_true, if_false] at hc
        obtain ⟨g1, s1, r1, v1, c1, w1, _⟩ := (frz_ok (E := E) frzD).list g st z _ z' st1 h hv hc
        exact ⟨g1, s1, r1, v1, fun _ => c1, w1, accM_length _ z st z' st1 hc⟩
    have hvl := v1.length
    simp only [Array.length_toList] at hvl
    have hmade := made_ok v1 (fun x hx => List.all_eq_true.1 hone x hx) (by omega) n.toNat i.size (by omega)
    have hn63 : n ≤ 140737488355328 := by
      simp only [limit] at hb
      have h2 : n * 1 ≤ n * i.bytes := Int.mul_le_mul_of_nonneg_left (by omega) h0
      omega
    have hrun := run_make (P := E.P) g.w t el i v hel hi hz' k k' n n h0 (Int.le_refl _) (by simp only [limit] at hb; rw [Int.mul_comm]; omega) (by omega)
    obtain ⟨g', s, r, hw, hval⟩ := new_row r1 hn (cs := madeCells v.cells (n.toNat * i.size)) (VRss_flat.2 hmade.1) hmade.2 (by intro x hx; rw [List.eq_of_mem_replicate hx]; omega) hpos (fun e => Closs_replicate (c1 e) _) (by simp [maxLen]; omega)
    rw [List.length_replicate, w1] at hval
    rw [w1] at hw
    exact ⟨_, g', by rw [hw]; exact hrun, s1.trans s, r, hval⟩
  · cases h3
theorem elems_ok {g : G} {st : List Ob} (h : SR E g st) {u : U} {v : Value} {ys : List (List U)} (hv : VR E g u v) (hl : elems st u = some ys) :
    ∃ a c, v = .slice a ys.length c ∧ (ys = [] ∨ ∃ b o vs, a = some ⟨b, o, none⟩ ∧ One vs ∧ VRss E g ys vs ∧ ∀ k x, vs[k]? = some x → g.w.cell? ⟨b, o + k, none⟩ = some x) := by
  have sl : ∀ {p : Bool} {xs : List (List U)}, VR E g (.sl p xs) v → ∃ a c, v = .slice a xs.length c ∧ (xs = [] ∨ ∃ b o vs, a = some ⟨b, o, none⟩ ∧ One vs ∧ VRss E g xs vs ∧ ∀ k x, vs[k]? = some x → g.w.cell? ⟨b, o + k, none⟩ = some x) := by
    intro p xs hv
    simp only [VR] at hv
    obtain ⟨_, a, c, rfl, hle, hx⟩ := hv
    refine ⟨a, c, rfl, ?_⟩
    by_cases hne : xs = []
    · exact .inl hne
    · obtain ⟨b, o, es, vs, ha, hc, _, hvs⟩ := hx hne
      exact .inr ⟨b, o, vs, ha, hc.2.1, hvs, hc.2.2⟩
  cases u <;> simp only [elems, Option.some.injEq, reduceCtorEq] at hl
  case sl p xs => subst hl; exact sl hv
  case nils => subst hl; simp only [VR] at hv; exact ⟨none, 0, by simpa using hv, .inl rfl⟩
  case own id n =>
    simp only [VR] at hv
    obtain ⟨_, hd, hle, hv⟩ := hv
    unfold rowAt at hl
    split at hl
    · rename_i tag es' keep xs hid
      split at hl
      · rename_i hn
        cases hl
        obtain ⟨vs, hown, h1, hvs, hes', hlen, _⟩ := h.ob id _ hid
        have e1 := hv (by rw [hlen, hn])
        rcases hown.2 with ⟨h0, hn0⟩ | ⟨b, cap, cur, h0, _, hh, hle', _⟩
        · exact ⟨none, 0, by rw [e1, h0, hn0], .inl (List.eq_nil_of_length_eq_zero hn0)⟩
        · refine ⟨some ⟨b, 0, none⟩, cap, by rw [e1, h0], .inr ⟨b, 0, vs, rfl, h1, hvs, fun k x hk => ?_⟩⟩
          have := hown.cells (g := b) (by rw [h0]; rfl) k x hk
          rwa [add_none] at this
      · cases hl
    · rename_i xs hid
      split at hl
      · rename_i hn
        cases hl
        have ho := h.ob id _ hid
        have e1 := hv (by rw [ho.2, hn])
        exact sl (p := true) (by rw [e1]; exact ho.1)
      · cases hl
    · cases hl
theorem own_lt' {w : World} {e : TypeId} {size n b : Nat} {v : Value} {xs : List Value} (h : w.ownsRow 0 e size v n xs) (hb : v.ownBlock = some b) : b < w.heap.size := by
  rcases h.2 with ⟨rfl, _⟩ | ⟨g, cap, cur, rfl, _, hh, _⟩
  · cases hb
  · simp [Value.ownBlock] at hb; subst hb; exact (Array.getElem?_eq_some_iff.1 hh).1
section
variable {P : Program} (w : World)
theorem runZ_nil (t u ty e : TypeId) (i : TypeInfo) (z : Value) {k' : IntKind} (ht : P.underlying t = some (.slice e)) (hu : P.underlying u = some (.int k')) (hi : P.info? e = some i) (hz : i.zero = some z) (m : Nat)
    (h0 : 0 < m) (hs : 0 < i.size) (hb : 0 < i.bytes) (h48 : m * i.bytes ≤ 140737488355328) :
    (Builtin.append_ #[t, u] ty #[.slice none 0 0, .int .i64 m]).run P w =
      .ok (.slice (some ⟨w.heap.size, 0, none⟩) m (grownCap w m 0 e)) (w.drew.alloc (.cells (Builtin.zeroCells z.cells m ++ Builtin.zeroCells z.cells (grownCap w m 0 e - m)) e)) := by
  have hmb : m ≤ m * i.bytes := Nat.le_mul_of_pos_right _ hb
  have hw : IntKind.wrap .i64 (m : Int) = m := by simp [IntKind.wrap, IntKind.bits, IntKind.signed]; omega
  have hn : m ≠ 0 := by omega
  have hms : ¬ (m * i.size = 0) := by have := Nat.mul_pos h0 hs; omega
  have h1 : ¬ ((m : Int) < 0) := by omega
  have h2 : ¬ (281474976710656 < (m : Int) * (i.bytes : Int)) := by rw [← Int.natCast_mul]; omega
  have h63' : ¬ (9223372036854775807 < (m : Int)) := by omega
  have h48' : ¬ (281474976710656 < Builtin.nextslicecap m 0 * i.bytes) := by rw [nextslicecap_zero h0]; omega
  simp [Builtin.append_, run_underlying ht, run_underlying hu, sizeOf, typeInfo, zeroValue, hi, hz, asInt, asIntOf, hw, h1, h2, hn, h63', h48', hms, Question.forced, run_firstCells_none, newRow, grownCap]
theorem zeroCells_one {z : Value} (h : ∀ x ∈ z.cells.toList, x.oneCell' = true) (m : Nat) (hz : 0 < z.cells.size) : ∀ x ∈ (Builtin.zeroCells z.cells m).toList, x.oneCell' = true := by
  intro x hx
  simp only [Builtin.zeroCells, Array.toList_map, List.mem_map] at hx
  obtain ⟨k, _, rfl⟩ := hx
  have hm : k % z.cells.size < z.cells.size := Nat.mod_lt _ hz
  rw [getElem!_pos z.cells _ hm]
  exact h _ (by simp)
theorem runZ_room (t u ty e : TypeId) (i : TypeInfo) (z : Value) {k' : IntKind} (ht : P.underlying t = some (.slice e)) (hu : P.underlying u = some (.int k')) (hi : P.info? e = some i) (hz : i.zero = some z) (hzs : z.cells.size = i.size)
    (hone : ∀ x ∈ z.cells.toList, x.oneCell' = true) (g n cap : Nat) (cur : Array Value) (hg : w.heap[g]? = some (.cells cur e (0, 0))) (m : Nat) (h0 : 0 < m) (hs : 0 < i.size) (hb : 0 < i.bytes) (h48 : (n + m) * i.bytes ≤ 140737488355328)
    (hroom : n + m ≤ cap) (hfit : n * i.size + m * i.size ≤ cur.size) :
    (Builtin.append_ #[t, u] ty #[.slice (some ⟨g, 0, none⟩) n cap, .int .i64 m]).run P w =
      .ok (.slice (some ⟨g, 0, none⟩) (n + m) cap) (w.setRow g (cur.toList.take (n * i.size) ++ (Builtin.zeroCells z.cells m).toList ++ cur.toList.drop (n * i.size + (Builtin.zeroCells z.cells m).toList.length)).toArray) := by
  have hmb : m ≤ m * i.bytes := Nat.le_mul_of_pos_right _ hb
  have hmn : m * i.bytes ≤ (n + m) * i.bytes := Nat.mul_le_mul_right _ (by omega)
  have hw : IntKind.wrap .i64 (m : Int) = m := by simp [IntKind.wrap, IntKind.bits, IntKind.signed]; omega
  have hms : ¬ (m * i.size = 0) := by have := Nat.mul_pos h0 hs; omega
  have h1 : ¬ ((m : Int) < 0) := by omega
  have h2 : ¬ (281474976710656 < (m : Int) * (i.bytes : Int)) := by rw [← Int.natCast_mul]; omega
  have hn : m ≠ 0 := by omega
  have hzl : (Builtin.zeroCells z.cells m).toList.length = m * i.size := by rw [Array.length_toList, size_zeroCells, hzs]
  have hst := run_storeCells_at P g (n * i.size) e (Builtin.zeroCells z.cells m).toList 0 cur w hg (by rw [hzl]; omega) (zeroCells_one hone m (by omega))
  simp only [Nat.add_zero] at hst
  simp [Builtin.append_, run_underlying ht, run_underlying hu, sizeOf, typeInfo, zeroValue, hi, hz, asInt, asIntOf, hw, h1, h2, hn, hms, hroom, Addr.add_lit] at hst ⊢
  rw [hst]
  rfl
theorem runZ_grow (t u ty e : TypeId) (i : TypeInfo) (z : Value) {k' : IntKind} (ht : P.underlying t = some (.slice e)) (hu : P.underlying u = some (.int k')) (hi : P.info? e = some i) (hz : i.zero = some z)
    (b : Addr) (n cap : Nat) (olds : List Value) (hlo : olds.length = n * i.size) (holds : ∀ j v, olds[j]? = some v → w.cell? (b.add j) = some v) (m : Nat)
    (h0 : 0 < m) (hs : 0 < i.size) (hb : 0 < i.bytes) (hg : cap < n + m) (h48 : (n + m) * i.bytes ≤ 140737488355328) :
    (Builtin.append_ #[t, u] ty #[.slice (some b) n cap, .int .i64 m]).run P w =
      .ok (.slice (some ⟨w.heap.size, 0, none⟩) (n + m) (grownCap w (n + m) cap e)) (w.drew.alloc (.cells (olds.toArray ++ Builtin.zeroCells z.cells m ++ Builtin.zeroCells z.cells (grownCap w (n + m) cap e - (n + m))) e)) := by
  have hmb : m ≤ m * i.bytes := Nat.le_mul_of_pos_right _ hb
  have hmn : m * i.bytes ≤ (n + m) * i.bytes := Nat.mul_le_mul_right _ (by omega)
  have hnb : n + m ≤ (n + m) * i.bytes := Nat.le_mul_of_pos_right _ hb
  have hw : IntKind.wrap .i64 (m : Int) = m := by simp [IntKind.wrap, IntKind.bits, IntKind.signed]; omega
  have hn : m ≠ 0 := by omega
  have hms : ¬ (m * i.size = 0) := by have := Nat.mul_pos h0 hs; omega
  have h1 : ¬ ((m : Int) < 0) := by omega
  have h2 : ¬ (281474976710656 < (m : Int) * (i.bytes : Int)) := by rw [← Int.natCast_mul]; omega
  have hnc : ¬ (n + m ≤ cap) := by omega
  have h63' : ¬ (9223372036854775807 < ((n : Int) + (m : Int))) := by omega
  have h48' : ¬ (281474976710656 < Builtin.nextslicecap (n + m) cap * i.bytes) := by have := growslice_fits (bytes := i.bytes) hg h48; omega
  have hfo := run_firstCells_some (P := P) w.drew i.size n b n cap olds hlo (by simpa using holds)
  simp [Builtin.append_, run_underlying ht, run_underlying hu, sizeOf, typeInfo, zeroValue, hi, hz, asInt, asIntOf, hw, h1, h2, hn, hnc, h63', h48', hms, Question.forced, hfo, newRow, grownCap]
theorem runZ_own (t u ty e : TypeId) (i : TypeInfo) (z : Value) {k' : IntKind} (ht : P.underlying t = some (.slice e)) (hu : P.underlying u = some (.int k')) (hi : P.info? e = some i) (hz : i.zero = some z) (hzs : z.cells.size = i.size)
    (hone : ∀ x ∈ z.cells.toList, x.oneCell' = true) (hs : 0 < i.size) (hb : 0 < i.bytes) (v : Value) (n : Nat) (xs : List Value) (hown : w.ownsRow 0 e i.size v n xs) (m : Nat) (h0 : 0 < m) (h63 : n + m ≤ maxLen) (hbytes : (n + m) * i.bytes ≤ 140737488355328) :
    ∃ v' w', (Builtin.append_ #[t, u] ty #[v, .int .i64 m]).run P w = .ok v' w' ∧ w'.ownsRow 0 e i.size v' (n + m) (xs ++ (Builtin.zeroCells z.cells m).toList) ∧ w.grownBy w' v.ownBlock ∧ (v'.ownBlock = v.ownBlock ∨ v'.ownBlock = some w.heap.size) := by
  have hzl : (Builtin.zeroCells z.cells m).toList.length = m * i.size := by rw [Array.length_toList, size_zeroCells, hzs]
  have hlen : (xs ++ (Builtin.zeroCells z.cells m).toList).length = (n + m) * i.size := by rw [List.length_append, hown.1, hzl, Nat.add_mul]
  have grown : ∀ (old : Nat) (row : Option Nat),
      (w.drew.alloc (.cells (xs.toArray ++ Builtin.zeroCells z.cells m ++ Builtin.zeroCells z.cells (grownCap w (n + m) old e - (n + m))) e)).ownsRow 0 e i.size
        (.slice (some ⟨w.heap.size, 0, none⟩) (n + m) (grownCap w (n + m) old e)) (n + m) (xs ++ (Builtin.zeroCells z.cells m).toList) ∧
      w.grownBy (w.drew.alloc (.cells (xs.toArray ++ Builtin.zeroCells z.cells m ++ Builtin.zeroCells z.cells (grownCap w (n + m) old e - (n + m))) e)) row := by
    intro old row
    have hge := grownCap_ge w (n + m) old e
    have hcm : grownCap w (n + m) old e ≤ maxLen := grownCap_le_maxLen w (n + m) old e h63
    refine ⟨⟨hlen, .inr ⟨w.heap.size, _, _, rfl, Nat.zero_le _, heap_alloc_new w.drew _, hge, hcm, ?_, ?_⟩⟩, ⟨rfl, rfl, rfl, by simp, fun k hk _ => heap_alloc_old w.drew _ hk⟩⟩
    · have hx : xs.length = n * i.size := hown.1
      have : n * i.size + m * i.size + (grownCap w (n + m) old e - (n + m)) * i.size = grownCap w (n + m) old e * i.size := by
        rw [← Nat.add_mul, ← Nat.add_mul]
        congr 1
        omega
      simp only [Array.size_append, List.size_toArray, size_zeroCells, hzs, hx]
      exact this
    · simp only [Array.toList_append]
      rw [← hlen]
      exact List.take_left
  rcases hown.2 with ⟨rfl, rfl⟩ | ⟨g, cap, cur, rfl, hbg, hg, hnc, hcm, hcs, htake⟩
  · have hx : xs = [] := List.eq_nil_of_length_eq_zero (by simpa using hown.1)
    subst hx
    have hr := runZ_nil w t u ty e i z ht hu hi hz m h0 hs hb (by simpa using hbytes)
    have hgr := grown 0 (Value.ownBlock (.slice none 0 0))
    simp only [Nat.zero_add, List.nil_append, Array.empty_append] at hgr ⊢
    exact ⟨_, _, hr, hgr.1, hgr.2, Or.inr rfl⟩
  · by_cases hroom : n + m ≤ cap
    · have hfit : n * i.size + m * i.size ≤ cur.size := by rw [hcs, ← Nat.add_mul]; exact Nat.mul_le_mul_right _ hroom
      have hr := runZ_room w t u ty e i z ht hu hi hz hzs hone g n cap cur hg m h0 hs hb hbytes hroom hfit
      refine ⟨_, _, hr, ⟨hlen, .inr ⟨g, cap, _, rfl, hbg, setRow_heap w g cur _ e _ hg, hroom, hcm, ?_, ?_⟩⟩, ⟨rfl, rfl, rfl, by simp, fun k _ hk => setRow_other w g k _ (fun e => hk (by simp [Value.ownBlock, e]))⟩, Or.inl rfl⟩
      · simp only [List.size_toArray, List.length_append, List.length_take, List.length_drop, Array.length_toList] at hzl ⊢
        omega
      · rw [htake, ← hlen]
        exact List.take_left
    · have holds : ∀ j u, xs[j]? = some u → w.cell? ((⟨g, 0, none⟩ : Addr).add j) = some u := hown.cells (g := g) rfl
      have hr := runZ_grow w t u ty e i z ht hu hi hz ⟨g, 0, none⟩ n cap xs hown.1 holds m h0 hs hb (by omega) hbytes
      have hgr := grown cap (Value.ownBlock (.slice (some ⟨g, 0, none⟩) n cap))
      exact ⟨_, _, hr, hgr.1, hgr.2, Or.inr rfl⟩
end
theorem append_none_run {w : World} {t ty e : TypeId} {i : TypeInfo} {v : Value} {n c : Nat} {a : Option Addr} {xs : List Value} (hel : E.P.underlying t = some (.slice e)) (hi : E.P.info? e = some i) (hown : w.ownsRow 0 e i.size v n xs) :
    (Builtin.append_ #[t, t] ty #[v, .slice a 0 c]).run E.P w = .ok v w := by
  rcases hown.2 with ⟨rfl, rfl⟩ | ⟨g, cap, cur, rfl, _, _, hnc, _⟩
  · cases a <;> simp [Builtin.append_, run_underlying hel, sizeOf, typeInfo, hi, Builtin.lenOf, Builtin.firstCells, loadCells, loadCellsFrom]
  · cases a <;> simp [Builtin.append_, run_underlying hel, sizeOf, typeInfo, hi, Builtin.lenOf, Builtin.firstCells, loadCells, loadCellsFrom, hnc, storeCells]
theorem appRow_ok {g : G} {st st' : List Ob} (h : SR E g st) {t ty el : TypeId} {i : TypeInfo} {z : Value} {id n by_ c : Nat} {a : Option Addr} {ys : List (List U)} {v : Value} {vs : List Value} (hel : E.P.underlying t = some (.slice el)) (hi : E.P.info? el = some i) (hz : i.zero = some z) (hzs : z.cells.size = i.size) (hpos : 0 < i.size) (hb0 : 0 < i.bytes)
    (hv : VR E g (.own id n) v) (hs : appRow st id n el i.size i.bytes ys = some st') (hes : ∀ y ∈ ys, y.length = i.size) (hc : ∀ tag es xs, st[id]? = some (.row tag es false xs) → Closs true ys)
    (hsrc : ys = [] ∨ ∃ b o, a = some ⟨b, o, none⟩ ∧ One vs ∧ VRss E g ys vs ∧ ∀ k x, vs[k]? = some x → g.w.cell? ⟨b, o + k, none⟩ = some x) :
    RunOK E g st (Builtin.append_ #[t, t] ty #[v, .slice a ys.length c]) (.own id (n + ys.length)) st' := by
  have hv0 := hv
  simp only [VR] at hv
  obtain ⟨_, hd, hle, hv⟩ := hv
  unfold appRow at hs
  split at hs
  · rename_i tag' es' keep xs hid
    split at hs
    · rename_i hcond
      obtain ⟨hn, rfl, rfl, hlim⟩ := hcond
      cases hs
      obtain ⟨ws, hown, h1, hvs, hes', hlen, hge, hck, _⟩ := h.ob id _ hid
      have e1 := hv (by rw [hlen, hn])
      subst e1
      rw [hn] at hown
      rcases hsrc with rfl | ⟨b, o, rfl, h2, hys, hcells⟩
      · have hrun := append_none_run (ty := ty) (c := c) (a := a) hel hi hown
        simp only [List.append_nil, List.length_nil, Nat.add_zero]
        have hset : st.set id (.row tag' i.size keep xs) = st := by
          apply List.ext_getElem?
          intro j
          by_cases hj : j = id
          · subst hj; rw [List.getElem?_set_self (List.getElem?_eq_some_iff.1 hid).1, hid]
          · rw [List.getElem?_set_ne (Ne.symm hj)]
        rw [hset]
        exact RunOK.same h hrun hv0
      · have hyl := (VRss_flat.1 hys).length
        rw [flat_length hes] at hyl
        have hm1 : n + ys.length ≤ maxLen := by
          have := Nat.le_mul_of_pos_right (n + ys.length) hb0
          simp [maxLen]; omega
        by_cases hy0 : ys = []
        · subst hy0
          have hrun := append_none_run (ty := ty) (c := c) (a := some ⟨b, o, none⟩) hel hi hown
          simp only [List.append_nil, List.length_nil, Nat.add_zero]
          have hset : st.set id (.row tag' i.size keep xs) = st := by
            apply List.ext_getElem?
            intro j
            by_cases hj : j = id
            · subst hj; rw [List.getElem?_set_self (List.getElem?_eq_some_iff.1 hid).1, hid]
            · rw [List.getElem?_set_ne (Ne.symm hj)]
          rw [hset]
          exact RunOK.same h hrun hv0
        · have hyp : 0 < ys.length := List.length_pos_iff.2 hy0
          obtain ⟨v', w', hrun, hown', hg, _, hat⟩ := run_append_own_at (P := E.P) g.w 0 t ty tag' i z i.size i.bytes hel hi hz rfl rfl hzs hpos (g.vr id) n ws hown ⟨b, o, none⟩ ys.length c vs (by rw [hyl])
            (fun j u hu => by rw [add_none]; exact hcells j u hu) h2 hm1 hlim (by omega)
          have hblk : blk g id (.row tag' i.size keep xs) = (g.vr id).ownBlock := rfl
          obtain ⟨s, r⟩ := h.put hid rfl (w' := w') (by rw [hblk]; exact hg) v' (n + ys.length) (.row tag' i.size keep (xs ++ ys)) rfl (by rw [hlen, hn]; omega) (fun e => by rw [hlen, hn] at e; omega)
            (fun hx => ⟨ws ++ vs, by simp only [G.put, upd_same, List.length_append, hn]; exact hown', by
                intro x hx
                rcases List.mem_append.1 hx with hx | hx
                · exact h1 x hx
                · exact h2 x hx, by
                rw [VRss_flat, List.flatten_append]
                exact (VRs.ext hx _ _ (VRss_flat.1 hvs)).append (VRs.ext hx _ _ (VRss_flat.1 hys)), by
                intro x hx
                rcases List.mem_append.1 hx with hx | hx
                · exact hes' x hx
                · exact hes x hx, by simp only [G.put, upd_same, List.length_append, hn], by simp only [G.put]; exact hge, by
                rintro rfl
                rw [Closs_iff]
                intro x hx
                rcases List.mem_append.1 hx with hx | hx
                · exact Closs_iff.1 (hck rfl) x hx
                · exact Closs_iff.1 (hc _ _ _ hid) x hx, hpos⟩)
            (fun cc hcc => by
              simp only [blk, G.put, upd_same] at hcc
              rcases hat with hat | hat
              · exact .inl (by rw [hblk, ← hat]; exact hcc)
              · rw [hat] at hcc; cases hcc
                refine .inr ⟨Nat.le_refl _, ?_⟩
                have := own_lt' hown' hat
                exact this)
          exact ⟨v', _, hrun, s, r, by
            simp only [VR, G.put, upd_same]
            refine ⟨?_, hd, by simp, by simp⟩
            rcases hown'.2 with ⟨rfl, _⟩ | ⟨_, _, _, rfl, _⟩
            · exact ⟨_, _, _, rfl⟩
            · exact ⟨_, _, _, rfl⟩⟩
    · cases hs
  · cases hs
theorem cpyRow_ok {g : G} {st st' : List Ob} (h : SR E g st) {id n es : Nat} {ys : List (List U)} {vs : List Value} {v : Value} (hv : VR E g (.own id n) v) (hu : VRss E g ys vs) (h1 : One vs) (hs : cpyRow st id n es ys = some st')
    (hc : ∀ tag es xs, st[id]? = some (.row tag es false xs) → Closs true ys) :
    ∃ a c g', v = .slice a n c ∧ ys.length ≤ n ∧ vs.length = ys.length * es ∧ Step g st g' st' ∧ SR E g' st' ∧ ((∃ ad, a = some ad ∧ (storeCells ad vs).run E.P g.w = .ok () g'.w) ∨ a = none ∧ g'.w = g.w) := by
  simp only [VR] at hv
  obtain ⟨_, hd, hle, hv⟩ := hv
  unfold cpyRow at hs
  split at hs
  · rename_i tag es' keep xs hid
    split at hs
    · rename_i hcond
      obtain ⟨hn, rfl, hyn, hall⟩ := hcond
      cases hs
      obtain ⟨ws, hown, h2, hvs, hes, hlen, hge, hck, hpos⟩ := h.ob id _ hid
      have hey : ∀ y ∈ ys, y.length = es' := by
        rw [List.all_eq_true] at hall
        exact fun y hy => by simpa using hall y hy
      have e1 := hv (by rw [hlen, hn])
      subst e1
      have hvl := (VRss_flat.1 hu).length
      rw [flat_length hey] at hvl
      rcases hown.2 with ⟨h0, hx0⟩ | ⟨b', cap, cur, h0, hbase, hh, hle', hcap, hcs, ht⟩
      · have hy0 : ys = [] := List.eq_nil_of_length_eq_zero (by omega)
        subst hy0
        have hset : st.set id (.row tag es' keep ([] ++ xs.drop ([] : List (List U)).length)) = st := by
          apply List.ext_getElem?
          intro j
          by_cases hj : j = id
          · subst hj; rw [List.getElem?_set_self (List.getElem?_eq_some_iff.1 hid).1, hid]; rfl
          · rw [List.getElem?_set_ne (Ne.symm hj)]
        refine ⟨none, 0, g, by rw [h0]; simp; omega, by simp, by simpa using hvl.symm, ?_, ?_, .inr ⟨rfl, rfl⟩⟩
        · rw [hset]; exact Step.refl _ _
        · rw [hset]; exact h
      · have hcapm : xs.length * es' ≤ cap * es' := Nat.mul_le_mul_right _ hle'
        have hym : ys.length * es' ≤ xs.length * es' := Nat.mul_le_mul_right _ (by omega)
        have hrun := run_storeCells_at E.P b' 0 tag vs 0 cur g.w hh (by omega) h1
        simp only [Nat.add_zero, Nat.zero_add, List.take_zero, List.nil_append] at hrun
        have hwl : ws.length = xs.length * es' := hown.1
        have hvs' : VRss E g (ys ++ xs.drop ys.length) (vs ++ ws.drop vs.length) := by
          rw [VRss_flat, List.flatten_append, flat_drop _ hes, ← hvl]
          exact (VRss_flat.1 hu).append ((VRss_flat.1 hvs).drop _)
        obtain ⟨g', s, r, hw⟩ := h.setRow hid (w' := g.w.setRow b' (vs ++ cur.toList.drop vs.length).toArray) (by rw [h0]; exact grownBy_setRow _ _ _)
          (xs' := ys ++ xs.drop ys.length) (vs' := vs ++ ws.drop vs.length)
          (by
            have hll : (ys ++ xs.drop ys.length).length = xs.length := by simp; omega
            rw [hll]
            refine ⟨by simp only [List.length_append, List.length_drop]; omega, .inr ⟨b', cap, _, by rw [h0], hbase, setRow_heap g.w b' cur _ tag (0, 0) hh, hle', hcap, ?_, ?_⟩⟩
            · simp only [List.size_toArray, List.length_append, List.length_drop, Array.length_toList]; omega
            · rw [← ht]
              apply List.ext_getElem?
              intro j
              simp only [List.getElem?_take, List.getElem?_append, List.getElem?_drop, List.length_append, List.length_drop, Array.length_toList, List.length_take]
              by_cases a1 : j < vs.length
              · simp [a1, show j < xs.length * es' by omega]
              · simp only [a1, if_false, show vs.length + (j - vs.length) = j by omega]
          )
          (by intro y hy
              rcases List.mem_append.1 hy with hy | hy
              · exact h1 y hy
              · exact h2 y (List.mem_of_mem_drop hy)) hvs'
          (by intro y hy
              rcases List.mem_append.1 hy with hy | hy
              · exact hey y hy
              · exact hes y (List.mem_of_mem_drop hy)) (by simp; omega)
          (by rintro rfl
              rw [Closs_iff]
              intro y hy
              rcases List.mem_append.1 hy with hy | hy
              · exact Closs_iff.1 (hc tag es' xs hid) y hy
              · exact Closs_iff.1 (hck rfl) y (List.mem_of_mem_drop hy))
        exact ⟨some ⟨b', 0, none⟩, cap, g', by rw [h0, hn], hyn, hvl.symm, s, r, .inl ⟨_, rfl, by rw [hw]; exact hrun⟩⟩
    · cases hs
  · cases hs
end
section
variable {E : En}
def shift (off : Nat) : U → Option U
  | .bp id o => some (.bp id (o + off))
  | .rp id n j o => some (.rp id n j (o + off))
  | .fp cs => if off < cs.length then some (.fp (cs.drop off)) else none
  | _ => none
theorem shift_ok {g : G} {off : Nat} {u r : U} {v : Value} (hv : VR E g u v) (hr : shift off u = some r) : ∃ b o, v = .pointer (some ⟨b, o, none⟩) ∧ VR E g r (.pointer (some ⟨b, o + off, none⟩)) := by
  cases u <;> simp only [shift, Option.some.injEq, reduceCtorEq] at hr
  case bp id o =>
    subst hr
    simp only [VR] at hv ⊢
    exact ⟨_, _, hv.2, hv.1, rfl⟩
  case rp id n j o =>
    subst hr
    simp only [VR] at hv ⊢
    obtain ⟨b, o', rfl, hd, hle, hv⟩ := hv
    exact ⟨b, o', rfl, b, o' + off, rfl, hd, hle, fun hn => ⟨(hv hn).1, by rw [(hv hn).2, Nat.add_assoc]⟩⟩
  case fp cs =>
    split at hr
    · rename_i hlt
      cases hr
      simp only [VR] at hv ⊢
      obtain ⟨hc, b, o, vs, rfl, hcl, hvs⟩ := hv
      refine ⟨b, o, rfl, Clos_iff.2 fun u hu => Clos_iff.1 hc u (List.mem_of_mem_drop hu), b, o + off, vs.drop off, rfl, ⟨hcl.1, fun x hx => hcl.2.1 x (List.mem_of_mem_drop hx), fun k x hk => ?_⟩, hvs.drop _⟩
      rw [List.getElem?_drop] at hk
      rw [Nat.add_assoc]
      exact hcl.2.2 _ _ hk
    · cases hr
theorem faddr_ok {g : G} {st : List Ob} (h : SR E g st) {s : TypeId} {fs : Array Field} {f : Field} {i z : Nat} {u r : U} {v : Value} (hu : E.P.underlying s = some (.struct fs)) (hf : fs[i]? = some f) (hz : E.size f.type = some z) (hz0 : z ≠ 0) (hv : VR E g u v)
    (hr : shift f.offset u = some r) : RunOK E g st (Instr.fieldAt s v i) r st := by
  obtain ⟨b, o, rfl, hr'⟩ := shift_ok hv hr
  exact RunOK.same h (by simp [Instr.fieldAt, run_underlying hu, hf, Instr.sureAddr, fieldPlace, En.size_run hz, hz0, add_none]) hr'
theorem idx_ok {i : Int} {n k : Nat} (h : idx i n = some k) : 0 ≤ i ∧ i < n ∧ i.toNat = k := by
  unfold idx at h
  split at h
  · rename_i hc; cases h; exact ⟨hc.1, hc.2, rfl⟩
  · cases h
theorem iaddrA_ok {g : G} {st : List Ob} (h : SR E g st) {t el : TypeId} {n s k : Nat} {q : IntKind} {i : Int} {u r : U} {v : Value} (hu : E.P.underlying t = some (.array n el)) (hs : E.size el = some s) (hi : idx i n = some k) (hv : VR E g u v) (hr : shift (k * s) u = some r) :
    RunOK E g st (Instr.indexAt t v (.int q i)) r st := by
  obtain ⟨b, o, rfl, hr'⟩ := shift_ok hv hr
  obtain ⟨h0, h1, rfl⟩ := idx_ok hi
  exact RunOK.same h (by simp [Instr.indexAt, asIntOf, run_underlying hu, Instr.sureAddr, h0, h1, En.size_run hs, add_none]) hr'
theorem fp_of_sl {g : G} {st : List Ob} (h : SR E g st) {t el : TypeId} {s k : Nat} {q : IntKind} {i : Int} {p : Bool} {xs : List (List U)} {x : List U} {v : Value} (hu : E.P.underlying t = some (.slice el)) (hs : E.size el = some s) (hi : idx i xs.length = some k) (hv : VR E g (.sl p xs) v) (hx : xs[k]? = some x) (hl : x.length = s) :
    RunOK E g st (Instr.indexAt t v (.int q i)) (.fp x) st := by
  obtain ⟨h0, h1, rfl⟩ := idx_ok hi
  simp only [VR] at hv
  obtain ⟨hc, a, c, rfl, hle, hne⟩ := hv
  have hxm := List.mem_of_getElem? hx
  obtain ⟨b, o, es, vs, rfl, hcl, hes, hvs⟩ := hne (by rintro rfl; simp at hx)
  have : es = s := by rw [← hes x hxm, hl]
  subst this
  refine RunOK.same (v := .pointer (some ⟨b, o + i.toNat * es, none⟩)) h (by simp [Instr.indexAt, asIntOf, run_underlying hu, h0, h1, En.size_run hs, add_none]) ?_
  simp only [VR]
  refine ⟨?_, b, o + i.toNat * es, _, rfl, ⟨hcl.1.any, fun y hy => hcl.2.1 y (List.mem_of_mem_drop (List.mem_of_mem_take hy)), fun k y hk => ?_⟩, hvs.get hes hx⟩
  · have := Closs_iff.1 hc x hxm
    cases p with
    | false => exact this
    | true => exact Clos.weak _ this
  · rw [List.getElem?_take] at hk
    split at hk
    · rw [List.getElem?_drop] at hk
      rw [Nat.add_assoc]
      exact hcl.2.2 _ _ hk
    · cases hk
theorem iaddr_ok {g : G} {st : List Ob} (h : SR E g st) {t el : TypeId} {s : Nat} {q : IntKind} {i : Int} {u r : U} {v : Value} (hu : E.P.underlying t = some (.slice el)) (hs : E.size el = some s) (hv : VR E g u v)
    (hr : (match (generalizing := false) u with
      | .sl _ xs => (idx i xs.length).bind fun i => (xs[i]?).bind fun x => if x.length = s then some (U.fp x, st) else none
      | .own id n => match st[id]? with
        | some (.row _ es' _ xs) => if xs.length = n ∧ es' = s then (idx i n).bind fun i => some (.rp id n i 0, st) else none
        | some (.frow xs) => if xs.length = n then (idx i n).bind fun i => (xs[i]?).bind fun x => if x.length = s then some (.fp x, st) else none else none
        | _ => none
      | .bs id off n es' => if es' = s then (idx i n).bind fun i => some (.bp id (off + i * s), st) else none
      | _ => none) = some (r, st)) : RunOK E g st (Instr.indexAt t v (.int q i)) r st := by
  cases u <;> simp only [reduceCtorEq] at hr
  case sl p xs =>
    simp only [Option.bind_eq_some_iff] at hr
    obtain ⟨k, hk, x, hx, hr⟩ := hr
    split at hr
    · rename_i hl
      cases hr
      exact fp_of_sl h hu hs hk hv hx hl
    · cases hr
  case own id n =>
    simp only [VR] at hv
    obtain ⟨_, hd, hle, hv⟩ := hv
    split at hr
    · rename_i tag es' keep xs hid
      split at hr
      · rename_i hc
        obtain ⟨hn, rfl⟩ := hc
        simp only [Option.bind_eq_some_iff] at hr
        obtain ⟨k, hk, hr⟩ := hr
        cases hr
        obtain ⟨h0, h1, rfl⟩ := idx_ok hk
        obtain ⟨ws, hown, h2, hvs, hes, hlen, hge, hck, hpos⟩ := h.ob id _ hid
        have e1 := hv (by rw [hlen, hn])
        rcases hown.2 with ⟨hx0, hn0⟩ | ⟨b, cap, cur, hx0, _⟩
        · omega
        · rw [hn] at hx0
          refine RunOK.same (v := .pointer (some ⟨b, i.toNat * es', none⟩)) h (by rw [e1, hx0]; simp [Instr.indexAt, asIntOf, run_underlying hu, h0, h1, En.size_run hs, add_none]) ?_
          simp only [VR]
          exact ⟨b, _, rfl, hd, hle, fun _ => ⟨by rw [hx0]; rfl, by rw [hge]; omega⟩⟩
      · cases hr
    · rename_i xs hid
      split at hr
      · rename_i hn
        simp only [Option.bind_eq_some_iff] at hr
        obtain ⟨k, hk, x, hx, hr⟩ := hr
        split at hr
        · rename_i hl
          cases hr
          have ho := h.ob id _ hid
          have e1 := hv (by rw [ho.2, hn])
          exact fp_of_sl h hu hs (by rw [hn]; exact hk) (p := true) (by rw [e1]; exact ho.1) hx hl
        · cases hr
      · cases hr
    · cases hr
  case bs id off n es' =>
    split at hr
    · rename_i he
      subst he
      simp only [Option.bind_eq_some_iff] at hr
      obtain ⟨k, hk, hr⟩ := hr
      cases hr
      obtain ⟨h0, h1, rfl⟩ := idx_ok hk
      simp only [VR] at hv
      obtain ⟨hd, c, rfl, hle⟩ := hv
      exact RunOK.same h (by simp [Instr.indexAt, asIntOf, run_underlying hu, h0, h1, En.size_run hs, add_none]; rfl) (by simp only [VR]; exact ⟨hd, by simp⟩)
    · cases hr
theorem fld_ok {g : G} {st : List Ob} (h : SR E g st) {t : TypeId} {fs : Array Field} {f : Field} {i z : Nat} {agg : Bool} {cs ds : List U} {r : U} {v : Value} (hu : E.P.underlying t = some (.struct fs)) (hf : fs[i]? = some f) (hz : E.size f.type = some z) (hA : E.isA f.type = some agg) (hv : VR E g (.agg cs) v)
    (hs : sub cs f.offset (if agg then z else 1) = some ds) (hp : M2.part agg ds = some r) : RunOK E g st (Instr.field t v i) r st := by
  simp only [VR] at hv
  obtain ⟨xs, rfl, h1, hvs⟩ := hv
  obtain ⟨hd, hle⟩ := hvs.sub hs
  have hl := hvs.length
  simp only [Array.length_toList] at hl
  have hp' := part_ok (g := g) (fun x hx => h1 x (List.mem_of_mem_drop (List.mem_of_mem_take hx))) hd hp
  cases agg with
  | true =>
    simp only [if_true] at hp' hle
    refine RunOK.same h ?_ hp'
    have := part_run (E := E) (by rw [hA]; simp) hz xs f.offset (by omega) (by rw [hA]; simp) g.w
    simp only [mkv, hA, if_true] at this
    simp [Instr.field, run_underlying hu, hf, asAgg, this]
  | false =>
    simp only [Bool.false_eq_true, if_false] at hp' hle
    obtain ⟨x, hx, hr⟩ := hp'
    refine RunOK.same h (v := x) ?_ hr
    have hlt : f.offset < xs.size := by omega
    have e : xs[f.offset]? = some x := by
      rw [← Array.getElem?_toList]
      have := congrArg (·[0]?) hx
      simpa using this
    simp [Instr.field, run_underlying hu, hf, asAgg, Go.part, En.isA_run hA, e]
theorem idxA_ok {g : G} {st : List Ob} (h : SR E g st) {t el : TypeId} {n s k : Nat} {q : IntKind} {i : Int} {agg : Bool} {cs ds : List U} {r : U} {v : Value} (hu : E.P.underlying t = some (.array n el)) (hs : E.size el = some s) (hA : E.isA el = some agg) (hag : agg = true ∨ s = 1) (hi : idx i n = some k) (hv : VR E g (.agg cs) v)
    (hd : sub cs (k * s) s = some ds) (hp : M2.part agg ds = some r) : RunOK E g st (Instr.index t v (.int q i)) r st := by
  obtain ⟨h0, h1, rfl⟩ := idx_ok hi
  simp only [VR] at hv
  obtain ⟨xs, rfl, h2, hvs⟩ := hv
  obtain ⟨hdv, hle⟩ := hvs.sub hd
  have hl := hvs.length
  simp only [Array.length_toList] at hl
  have hp' := part_ok (g := g) (fun x hx => h2 x (List.mem_of_mem_drop (List.mem_of_mem_take hx))) hdv hp
  have hrun := part_run (E := E) (by rw [hA]; simp) hs xs (i.toNat * s) (by omega) (by rw [hA]; intro e; cases e; simpa using hag) g.w
  cases agg with
  | true =>
    simp only [if_true] at hp'
    refine RunOK.same h ?_ hp'
    simp only [mkv, hA, if_true] at hrun
    simp [Instr.index, asIntOf, run_underlying hu, h0, h1, En.size_run hs, hrun]
  | false =>
    simp only [Bool.false_eq_true, if_false] at hp'
    obtain ⟨x, hx, hr⟩ := hp'
    refine RunOK.same h (v := x) ?_ hr
    rw [hx] at hrun
    simp only [mkv, hA] at hrun
    simp at hrun
    simp [Instr.index, asIntOf, run_underlying hu, h0, h1, En.size_run hs, hrun]
theorem idxS_ok {g : G} {st : List Ob} (h : SR E g st) {t : TypeId} {k : Nat} {q : IntKind} {i : Int} {s : List UInt8} {b : UInt8} {v : Value} (hu : E.P.underlying t = some .string) (hi : idx i s.length = some k) (hv : VR E g (.str s) v) (hb : s[k]? = some b) :
    RunOK E g st (Instr.index t v (.int q i)) (.int .u8 b.toNat) st := by
  obtain ⟨h0, h1, rfl⟩ := idx_ok hi
  simp only [VR] at hv
  obtain ⟨x, rfl, rfl⟩ := hv
  refine RunOK.same h (v := .int .u8 b.toNat) ?_ (by simp only [VR])
  have hx : x[i.toNat]? = some b := by
    rw [Array.getElem?_toList] at hb
    have : i.toNat < x.data.size := (Array.getElem?_eq_some_iff.1 hb).1
    rw [getElem?_pos x i.toNat this]
    rw [Array.getElem?_eq_getElem this] at hb
    exact hb
  simp [Instr.index, asIntOf, run_underlying hu, h0, hx]
theorem iface_ok {g : G} {st : List Ob} (h : SR E g st) {t : TypeId} {u : U} {v : Value} (hc : E.P.concrete t = true) (hv : VR E g u v) : RunOK E g st (Instr.makeInterface t v) (.iface t u) st :=
  RunOK.same h (run_makeInterface g.w t v hc) (by simp only [VR]; exact ⟨v, rfl, hv⟩)
theorem extract_ok {g : G} {st : List Ob} (h : SR E g st) {i : Nat} {us : List U} {r : U} {v : Value} (hv : VR E g (.tup us) v) (hr : us[i]? = some r) : RunOK E g st (Instr.extract v i) r st := by
  simp only [VR] at hv
  obtain ⟨xs, rfl, hvs⟩ := hv
  obtain ⟨x, hx, hxr⟩ := hvs.get hr
  rw [Array.getElem?_toList] at hx
  exact RunOK.same h (by simp [Instr.extract, hx]) hxr
theorem assert_ok {g : G} {st : List Ob} (h : SR E g st) {xt a : TypeId} {d : TypeDesc} {ok : Bool} {z u r : U} {v : Value} (hd : E.P.underlying a = some d) (hni : ∀ ms, d ≠ .interface ms) (hz : E.zeroV a = some z) (hv : VR E g u v)
    (hr : (match (generalizing := false) u with
      | .nilI => if ok then some (.tup [z, .bool false], st) else none
      | .iface t' u => if t' = a then some (if ok then .tup [u, .bool true] else u, st) else if ok then some (.tup [z, .bool false], st) else none
      | _ => none) = some (r, st)) : RunOK E g st (Instr.typeAssert v xt a ok) r st := by
  obtain ⟨zv, hz1, hz2⟩ := En.zeroV_run hz g.w
  have hz3 : VR E g (.tup [z, .bool false]) (.tuple #[zv, .bool false]) := by simp only [VR, VRs]; exact ⟨_, rfl, _, _, rfl, hz2 g, _, _, rfl, rfl, rfl⟩
  cases u <;> simp only [reduceCtorEq] at hr
  case nilI =>
    simp only [VR] at hv
    subst hv
    cases ok with
    | false => cases hr
    | true =>
      cases hr
      refine RunOK.same h (v := .tuple #[zv, .bool false]) ?_ hz3
      cases d <;> first
        | exact absurd rfl (hni _)
        | simp [Instr.typeAssert, run_underlying hd, hz1]
  case iface t' u =>
    simp only [VR] at hv
    obtain ⟨x, rfl, hx⟩ := hv
    split at hr
    · rename_i ht
      subst ht
      cases hr
      cases ok with
      | true =>
        refine RunOK.same h (v := .tuple #[x, .bool true]) ?_ (by simp only [if_true, VR, VRs]; exact ⟨_, rfl, _, _, rfl, hx, _, _, rfl, rfl, rfl⟩)
        cases d <;> first
          | exact absurd rfl (hni _)
          | simp [Instr.typeAssert, run_underlying hd]
      | false =>
        refine RunOK.same h (v := x) ?_ (by simpa using hx)
        cases d <;> first
          | exact absurd rfl (hni _)
          | simp [Instr.typeAssert, run_underlying hd]
    · rename_i ht
      cases ok with
      | false => cases hr
      | true =>
        cases hr
        refine RunOK.same h (v := .tuple #[zv, .bool false]) ?_ hz3
        cases d <;> first
          | exact absurd rfl (hni _)
          | simp [Instr.typeAssert, run_underlying hd, ht, hz1]
end
section
variable {E : En}
theorem cut_ok {α : Type} {xs ys : List α} {lo hi : Int} (h : M2.cut xs lo hi = some ys) : 0 ≤ lo ∧ lo ≤ hi ∧ hi ≤ xs.length ∧ ys = (xs.take hi.toNat).drop lo.toNat := by
  unfold M2.cut at h
  split at h
  · rename_i hc; cases h; exact ⟨hc.1, hc.2.1, hc.2.2, rfl⟩
  · cases h
def BR (E : En) (g : G) (e : Env) (a : Act) (x : Option Operand) (y : Option A) : Prop := match x, y with
  | none, none => True
  | some x, some y => VR E g (y.ev e) (a.eval x)
  | _, _ => False
theorem opO_ok {g : G} {e : Env} {a : Act} (hg : GlobOK E g) (he : EnvR E g e a) {x : Option Operand} {y : Option A} (h : E.opO x = some y) : BR E g e a x y := by
  cases x with
  | none => simp [En.opO] at h; subst h; trivial
  | some x =>
    simp only [En.opO, Option.map_eq_some_iff] at h
    obtain ⟨y, hy, rfl⟩ := h
    exact opA_ok hg he hy
theorem bound_ok {g : G} {e : Env} {a : Act} {x : Option Operand} {y : Option A} {d r : Int} (hb : BR E g e a x y) (h : opt e d y = some r) : (x = none ∧ r = d) ∨ ∃ o k, x = some o ∧ a.eval o = .int k r := by
  cases x with
  | none => cases y <;> simp_all [BR, opt]
  | some o =>
    cases y with
    | none => simp [BR] at hb
    | some y =>
      simp only [BR, opt] at hb h
      right
      cases hy : y.ev e <;> simp only [hy, Option.some.injEq, reduceCtorEq] at h
      subst h
      rw [hy] at hb
      simp only [VR] at hb
      exact ⟨o, _, rfl, hb⟩
theorem bounds_run {w : World} {e : Env} {g : G} {a : Act} (isS : Bool) {n c : Nat} {lo hi mx : Option Operand} {l h m : Int} (hnc : n ≤ c) (hl : (lo = none ∧ l = 0) ∨ ∃ o k, lo = some o ∧ a.eval o = .int k l) (hh : (hi = none ∧ h = n) ∨ ∃ o k, hi = some o ∧ a.eval o = .int k h)
    (hm : (mx = none ∧ m = n) ∨ ∃ o k, mx = some o ∧ a.eval o = .int k m) (hmh : mx ≠ none → hi ≠ none) (h0 : 0 ≤ l) (h1 : l ≤ h) (h2 : h ≤ m) (h3 : m ≤ n) :
    ∃ m', h.toNat ≤ m' ∧ (Instr.sliceBounds isS n c (lo.map a.eval) (hi.map a.eval) (mx.map a.eval)).run E.P w = .ok (l.toNat, h.toNat, m') w := by
  have e0 : 0 ≤ h := by omega
  have e1 : 0 ≤ m := by omega
  rcases hm with ⟨rfl, rfl⟩ | ⟨om, km, rfl, em⟩
  · refine ⟨c, by omega, ?_⟩
    have hc : h ≤ (c : Int) := by omega
    rcases hh with ⟨rfl, rfl⟩ | ⟨oh, kh, rfl, eh⟩ <;> rcases hl with ⟨rfl, rfl⟩ | ⟨ol, kl, rfl, el⟩
    · simp [Instr.sliceBounds]
    · have hx := run_sliceBound (P := E.P) w kl l n (if false then .slice3C else .sliceB) h0 h1
      simp [Instr.sliceBounds, el, run_sliceBound w kl l n _ h0 h1]
    · simp [Instr.sliceBounds, eh, run_sliceBound w kh h c _ e0 hc]
    · simp [Instr.sliceBounds, eh, el, run_sliceBound w kh h c _ e0 hc, run_sliceBound w kl l h.toNat _ h0 (by omega)]
  · refine ⟨m.toNat, by omega, ?_⟩
    have hc : m ≤ (c : Int) := by omega
    rcases hh with ⟨rfl, rfl⟩ | ⟨oh, kh, rfl, eh⟩
    · exact absurd rfl (hmh (by simp))
    · rcases hl with ⟨rfl, rfl⟩ | ⟨ol, kl, rfl, el⟩
      · simp [Instr.sliceBounds, eh, em, run_sliceBound w km m c _ e1 hc, run_sliceBound w kh h m.toNat _ e0 (by omega)]
      · simp [Instr.sliceBounds, eh, el, em, run_sliceBound w km m c _ e1 hc, run_sliceBound w kh h m.toNat _ e0 (by omega), run_sliceBound w kl l h.toNat _ h0 (by omega)]
theorem sl_cut {g : G} {p : Bool} {xs ys : List (List U)} {l h : Int} {m' c : Nat} {s : Nat} {a : Option Addr} (hv : VR E g (.sl p xs) (.slice a xs.length c)) (hs : headLen s xs = true) (hcut : M2.cut xs l h = some ys) (hm : h.toNat ≤ m') :
    VR E g (.sl p ys) (.slice (if m' = l.toNat then a else a.map (·.add (l.toNat * s))) (h.toNat - l.toNat) (m' - l.toNat)) := by
  obtain ⟨h0, h1, h2, rfl⟩ := cut_ok hcut
  have hlen : ((xs.take h.toNat).drop l.toNat).length = h.toNat - l.toNat := by simp; omega
  simp only [VR] at hv ⊢
  obtain ⟨hc, a', c', e, hle, hne⟩ := hv
  cases e
  refine ⟨Closs_iff.2 fun x hx => Closs_iff.1 hc x (List.mem_of_mem_take (List.mem_of_mem_drop hx)), _, _, by rw [hlen], by rw [hlen]; omega, fun hys => ?_⟩
  have hpos : 0 < h.toNat - l.toNat := by rw [← hlen]; exact List.length_pos_iff.2 hys
  obtain ⟨b, o, es, vs, rfl, hcl, hes, hvs⟩ := hne (by rintro rfl; simp at hys)
  have : es = s := by
    cases xs with
    | nil => simp at hys
    | cons x _ => simp only [headLen, beq_iff_eq] at hs; rw [← hes x (by simp), hs]
  subst this
  refine ⟨b, o + l.toNat * es, es, (vs.take (h.toNat * es)).drop (l.toNat * es), by rw [if_neg (by omega)]; simp [add_none], ⟨hcl.1, fun y hy => hcl.2.1 y (List.mem_of_mem_take (List.mem_of_mem_drop hy)), fun k y hk => ?_⟩, fun x hx => hes x (List.mem_of_mem_take (List.mem_of_mem_drop hx)), ?_⟩
  · rw [List.getElem?_drop, List.getElem?_take] at hk
    split at hk
    · rw [Nat.add_assoc]; exact hcl.2.2 _ _ hk
    · cases hk
  · rw [VRss_flat, flat_drop _ (fun x hx => hes x (List.mem_of_mem_take hx)), flat_take _ hes]
    exact ((VRss_flat.1 hvs).take _).drop _
theorem slice_sl {g : G} {st : List Ob} (h : SR E g st) {e : Env} {a : Act} {t el : TypeId} {s : Nat} {p : Bool} {xs ys : List (List U)} {lo hi mx : Option Operand} {lo' hi' mx' : Option A} {l hh m : Int} {v : Value} (hu : E.P.underlying t = some (.slice el)) (hs : E.size el = some s) (hv : VR E g (.sl p xs) v) (hes : headLen s xs = true)
    (b1 : BR E g e a lo lo') (b2 : BR E g e a hi hi') (b3 : BR E g e a mx mx') (o1 : opt e 0 lo' = some l) (o2 : opt e xs.length hi' = some hh) (o3 : opt e xs.length mx' = some m) (hmh : mx ≠ none → hi ≠ none) (c1 : hh ≤ m) (c2 : m ≤ xs.length) (hcut : M2.cut xs l hh = some ys) :
    RunOK E g st (Instr.sliceAt t v (lo.map a.eval) (hi.map a.eval) (mx.map a.eval)) (.sl p ys) st := by
  have hc := cut_ok hcut
  have hv' := hv
  simp only [VR] at hv'
  obtain ⟨_, ad, c, rfl, hle, _⟩ := hv'
  obtain ⟨m', hm', hrun⟩ := bounds_run (E := E) (w := g.w) (e := e) (g := g) (a := a) true hle (bound_ok b1 o1) (bound_ok b2 o2) (bound_ok b3 o3) hmh hc.1 hc.2.1 c1 c2
  refine RunOK.same h ?_ (sl_cut hv hes hcut hm')
  simp only [Instr.sliceAt, Sem.run_bind, run_underlying hu, Result.andThen_ok, Instr.slice, hrun, En.size_run hs, Sem.run_pure]
theorem slice_str {g : G} {st : List Ob} (h : SR E g st) {e : Env} {a : Act} {t : TypeId} {s r : List UInt8} {lo hi : Option Operand} {lo' hi' : Option A} {l hh : Int} {v : Value} (hu : E.P.underlying t = some .string) (hv : VR E g (.str s) v)
    (b1 : BR E g e a lo lo') (b2 : BR E g e a hi hi') (o1 : opt e 0 lo' = some l) (o2 : opt e s.length hi' = some hh) (hcut : M2.cut s l hh = some r) :
    RunOK E g st (Instr.sliceAt t v (lo.map a.eval) (hi.map a.eval) none) (.str r) st := by
  obtain ⟨h0, h1, h2, rfl⟩ := cut_ok hcut
  simp only [VR] at hv
  obtain ⟨x, rfl, rfl⟩ := hv
  have hsz : x.size = x.data.toList.length := by rw [Array.length_toList]; rfl
  obtain ⟨m', hm', hrun⟩ := bounds_run (E := E) (w := g.w) (e := e) (g := g) (a := a) (lo := lo) (hi := hi) (mx := none) (l := l) (h := hh) (m := x.size) (n := x.size) (c := x.size) false (Nat.le_refl _) (bound_ok b1 o1) (by rw [hsz]; exact bound_ok b2 o2) (.inl ⟨rfl, rfl⟩) (by simp) h0 h1 (by omega) (Int.le_refl _)
  refine RunOK.same h (v := .string (x.extract l.toNat hh.toNat)) ?_ (by
    simp only [VR]
    refine ⟨_, rfl, ?_⟩
    rw [Lib.extract_data, List.drop_take])
  simp only [Option.map_none] at hrun
  simp [Instr.sliceAt, run_underlying hu, Instr.slice, hrun]
end
section
variable {E : En}
theorem sliceA_ok {g : G} {st : List Ob} (h : SR E g st) {e : Env} {a : Act} {t el : TypeId} {n s id off : Nat} {lo hi : Option Operand} {lo' hi' : Option A} {l hh : Int} {v : Value} (hu : E.P.underlying t = some (.array n el)) (hs : E.size el = some s) (hv : VR E g (.bp id off) v)
    (b1 : BR E g e a lo lo') (b2 : BR E g e a hi hi') (o1 : opt e 0 lo' = some l) (o2 : opt e n hi' = some hh) (h0 : 0 ≤ l) (h1 : l ≤ hh) (h2 : hh ≤ n) (h3 : l < n) :
    RunOK E g st (Instr.sliceAt t v (lo.map a.eval) (hi.map a.eval) none) (.bs id (off + l.toNat * s) (hh - l).toNat s) st := by
  simp only [VR] at hv
  obtain ⟨hd, rfl⟩ := hv
  obtain ⟨m', hm', hrun⟩ := bounds_run (E := E) (w := g.w) (e := e) (g := g) (a := a) (lo := lo) (hi := hi) (mx := none) (l := l) (h := hh) (m := n) (n := n) (c := n) false (Nat.le_refl _) (bound_ok b1 o1) (bound_ok b2 o2) (.inl ⟨rfl, rfl⟩) (by simp) h0 h1 h2 (Int.le_refl _)
  have hm2 : m' = n := by
    rcases bound_ok b1 o1 with ⟨rfl, rfl⟩ | ⟨ol, kl, rfl, el'⟩ <;> rcases bound_ok b2 o2 with ⟨rfl, rfl⟩ | ⟨oh, kh, rfl, eh⟩
    · simp [Instr.sliceBounds] at hrun; exact hrun.symm
    · simp [Instr.sliceBounds, eh, run_sliceBound g.w kh hh n _ (by omega) h2] at hrun; exact hrun.symm
    · simp [Instr.sliceBounds, el', run_sliceBound g.w kl l n _ h0 h1] at hrun; exact hrun.symm
    · simp [Instr.sliceBounds, eh, el', run_sliceBound g.w kh hh n _ (by omega) h2, run_sliceBound g.w kl l hh.toNat _ h0 (by omega)] at hrun; exact hrun.symm
  subst hm2
  refine RunOK.same (v := .slice (some ⟨g.vb id, off + l.toNat * s, none⟩) (hh.toNat - l.toNat) (m' - l.toNat)) h ?_ (by simp only [VR]; exact ⟨hd, _, by rw [show (hh - l).toNat = hh.toNat - l.toNat by omega], by omega⟩)
  simp only [Option.map_none] at hrun
  simp [Instr.sliceAt, run_underlying hu, Instr.sureAddr, hrun, En.size_run hs, show ¬ m' = l.toNat by omega, add_none]
theorem convI_ok {g : G} {st : List Ob} (h : SR E g st) {src dst : TypeId} {k k' : IntKind} {n : Int} {q : IntKind} {v : Value} (h1 : E.P.underlying src = some (.int q)) (h2 : E.P.underlying dst = some (.int k)) (hv : VR E g (.int k' n) v) : RunOK E g st (convert src dst v) (.int k (k.wrap n)) st := by
  simp only [VR] at hv
  subst hv
  exact RunOK.same (v := .int k (k.wrap n)) h (by simp [convert, run_underlying h1, run_underlying h2, Conv.intToInt]) (by simp only [VR])
theorem convS_ok {g : G} {st : List Ob} (h : SR E g st) {src dst : TypeId} {s : List UInt8} {v : Value} (h1 : E.P.underlying src = some .string) (h2 : E.P.underlying dst = some .string) (hv : VR E g (.str s) v) : RunOK E g st (convert src dst v) (.str s) st := by
  have hv' := hv
  simp only [VR] at hv'
  obtain ⟨x, rfl, _⟩ := hv'
  exact RunOK.same h (by simp [convert, run_underlying h1, run_underlying h2]) hv
theorem lenA_run {w : World} {t ty : TypeId} {v : Value} {n : Nat} (hu : (∃ el, E.P.underlying t = some (.array n el)) ∨ ∃ b el, E.P.underlying t = some (.pointer b) ∧ E.P.underlying b = some (.array n el)) : (Builtin.len_ #[t] ty #[v]).run E.P w = .ok (.int .i64 n) w := by
  rcases hu with ⟨el, hu⟩ | ⟨b, el, hu, hb⟩
  · simp [Builtin.len_, run_underlying hu, goInt]
  · simp [Builtin.len_, run_underlying hu, run_underlying hb, goInt]
theorem len0_ok {g : G} {st : List Ob} (h : SR E g st) {t ty el : TypeId} {u : U} {v : Value} {xs : List (List U)} (hu : E.P.underlying t = some (.slice el)) (hv : VR E g u v) (hx : elems st u = some xs) : RunOK E g st (Builtin.len_ #[t] ty #[v]) (.int .i64 xs.length) st := by
  obtain ⟨a, c, rfl, _⟩ := elems_ok h hv hx
  exact RunOK.same (v := .int .i64 xs.length) h (by simp [Builtin.len_, run_underlying hu, goInt]) (by simp only [VR])
theorem len1_ok {g : G} {st : List Ob} (h : SR E g st) {t ty : TypeId} {s : List UInt8} {v : Value} (hu : E.P.underlying t = some .string) (hv : VR E g (.str s) v) : RunOK E g st (Builtin.len_ #[t] ty #[v]) (.int .i64 s.length) st := by
  simp only [VR] at hv
  obtain ⟨x, rfl, rfl⟩ := hv
  refine RunOK.same (v := .int .i64 x.data.toList.length) h ?_ (by simp only [VR])
  have : x.size = x.data.toList.length := by rw [Array.length_toList]; rfl
  have hrun : (Builtin.len_ #[t] ty #[.string x]).run E.P g.w = .ok (.int .i64 x.size) g.w := by simp [Builtin.len_, run_underlying hu, goInt]
  rw [hrun, this]
theorem getObj_run {w : World} {b : Nat} {o : Obj} (hh : w.heap[b]? = some o) (hc : ∀ c e f, o ≠ .cells c e f) : (getObj b).run E.P w = .ok o w := by
  unfold getObj
  simp only [Sem.run]
  rw [hh]
  cases o <;> first
    | exact absurd rfl (hc _ _ _)
    | rfl
theorem setObj_run {w : World} {b : Nat} {o o' : Obj} (hh : w.heap[b]? = some o) (hc : ∀ c e f, o ≠ .cells c e f) : (setObj b o').run E.P w = .ok () { w with heap := w.heap.setIfInBounds b o' } := by
  unfold setObj
  simp only [Sem.run]
  rw [hh]
  cases o <;> first
    | exact absurd rfl (hc _ _ _)
    | rfl
theorem len2_ok {g : G} {st : List Ob} (h : SR E g st) {t ty k el : TypeId} {id : Nat} {es : List (U × U)} {v : Value} (hu : E.P.underlying t = some (.map k el)) (hv : VR E g (.mp id) v) (hid : st[id]? = some (.map es)) : RunOK E g st (Builtin.len_ #[t] ty #[v]) (.int .i64 es.length) st := by
  simp only [VR] at hv
  obtain ⟨hd, rfl⟩ := hv
  obtain ⟨en, clock, hh, hs, _⟩ := h.ob id _ hid
  refine RunOK.same (v := .int .i64 es.length) h ?_ (by simp only [VR])
  simp [Builtin.len_, run_underlying hu, goInt, getObj_run hh (by simp), hs]
theorem mkmap_ok {g : G} {st st' : List Ob} (h : SR E g st) {t : TypeId} {nid : Nat} (hn : newOb st nid (.map []) = some st') : RunOK E g st (Instr.makeMap t none) (.mp nid) st' := by
  have hg : g.w.grownBy (g.w.alloc (.map #[] 0)) none := World.grownBy_alloc _ _ _
  obtain ⟨s, r⟩ := h.new hn hg .nilIface g.w.heap.size 0 0 rfl
    (fun hx => ⟨#[], 0, by simp only [G.add, upd_same]; exact heap_alloc_new g.w _, by simp, by simp, by simp⟩)
    (fun c hc => by simp only [blk, G.add, upd_same, Option.some.injEq] at hc; subst hc; simp)
  exact ⟨.map (some g.w.heap.size), _, by simp [Instr.makeMap, G.add], s, r, by simp [VR, G.add, upd_same]⟩
end
section
variable {E : En}
def lk (s : Sh) (u : U) : List (U × U) → Option (Option Nat)
  | [] => some none
  | (k', _) :: es => (sameV s u k').bind fun r => if r then some (some 0) else (lk s u es).map (·.map (· + 1))
theorem look_lk {s : Sh} {u : U} : ∀ {es : List (U × U)} {r : Option U}, look s u es = some r → ∃ i, lk s u es = some i ∧ r = i.bind fun j => (es[j]?).map (·.2)
  | [], r, h => by simp [look] at h; subst h; exact ⟨none, rfl, rfl⟩
  | (k', v) :: es, r, h => by
    simp only [look, Option.bind_eq_some_iff] at h
    obtain ⟨b, hb, h⟩ := h
    cases b with
    | true => simp at h; subst h; exact ⟨some 0, by simp [lk, hb], by simp⟩
    | false =>
      simp at h
      obtain ⟨i, hi, hr⟩ := look_lk h
      refine ⟨i.map (· + 1), by simp [lk, hb, hi], ?_⟩
      rw [hr]
      cases i <;> simp
theorem mset_lk {s : Sh} {u v : U} : ∀ {es es' : List (U × U)}, mset s u v es = some es' → ∃ i, lk s u es = some i ∧ es' = match i with | some j => es.set j (u, v) | none => es ++ [(u, v)]
  | [], es', h => by simp [mset] at h; subst h; exact ⟨none, rfl, rfl⟩
  | (k', v') :: es, es', h => by
    simp only [mset, Option.bind_eq_some_iff] at h
    obtain ⟨b, hb, h⟩ := h
    cases b with
    | true => simp at h; subst h; exact ⟨some 0, by simp [lk, hb], by simp⟩
    | false =>
      simp only [Bool.false_eq_true, if_false, Option.bind_eq_some_iff] at h
      obtain ⟨es1, h1, h2⟩ := h
      simp at h2
      subst h2
      obtain ⟨i, hi, hr⟩ := mset_lk h1
      refine ⟨i.map (· + 1), by simp [lk, hb, hi], ?_⟩
      rw [hr]
      cases i <;> simp
theorem lk_lt {s : Sh} {u : U} : ∀ {es : List (U × U)} {j : Nat}, lk s u es = some (some j) → j < es.length ∧ ∃ p, es[j]? = some p ∧ sameV s u p.1 = some true
  | [], j, h => by simp [lk] at h
  | (k', v) :: es, j, h => by
    simp only [lk, Option.bind_eq_some_iff] at h
    obtain ⟨b, hb, h⟩ := h
    cases b with
    | true => simp at h; subst h; exact ⟨by simp, (k', v), by simp, hb⟩
    | false =>
      simp at h
      obtain ⟨a, h1, h2⟩ := h
      cases a with
      | none => simp at h2
      | some a =>
        simp at h2
        subst h2
        obtain ⟨h3, p, h4, h5⟩ := lk_lt h1
        exact ⟨by simp; omega, p, by simpa using h4, h5⟩
theorem equal_ok {g : G} {t : TypeId} {s : Sh} {u v : U} {a b : Value} {r : Bool} (hs : E.sh 12 t = some s) (hu : VR E g u a) (hv : VR E g v b) (hb : sameV s u v = some r) (w : World) : (Op.equal t a b).run E.P w = .ok r w := by
  unfold sameV at hb
  simp only [Option.bind_eq_some_iff] at hb
  obtain ⟨us, h1, vs, h2, hb⟩ := hb
  obtain ⟨xs, hx, rfl⟩ := cellsS_ok hs hu h1
  obtain ⟨ys, hy, rfl⟩ := cellsS_ok hs hv h2
  exact same_ok (g := g) 12 _ t s us vs xs ys r hs hb hx hy 10000 w (by omega)
theorem findAsking_ok {g : G} {t : TypeId} {s : Sh} {u : U} {v : Value} (hs : E.sh 12 t = some s) (hu : VR E g u v) (w : World) : ∀ (es : List (U × U)) (l : List MapEntry) (i : Nat) (r : Option Nat), es.length = l.length → (∀ (j : Nat) (p : U × U) (e : MapEntry), es[j]? = some p → l[j]? = some e → VR E g p.1 e.key) → lk s u es = some r →
    (Instr.findAsking t v l i).run E.P w = .ok (r.bind fun j => (l[j]?).map fun e => (i + j, e.val)) w
  | [], l, i, r, hl, _, h => by
    have : l = [] := List.eq_nil_of_length_eq_zero (by simpa using hl.symm)
    subst this
    simp [lk] at h
    subst h
    simp [Instr.findAsking]
  | (k', v') :: es, [], i, r, hl, _, h => by simp at hl
  | (k', v') :: es, e :: l, i, r, hl, hk, h => by
    simp only [lk, Option.bind_eq_some_iff] at h
    obtain ⟨b, hb, h⟩ := h
    have he := equal_ok hs hu (hk 0 (k', v') e rfl rfl) hb w
    cases b with
    | true => simp at h; subst h; simp [Instr.findAsking, he]
    | false =>
      simp only [Bool.false_eq_true, if_false, Option.map_eq_some_iff] at h
      obtain ⟨r', h1, rfl⟩ := h
      have ih := findAsking_ok hs hu w es l (i + 1) r' (by simpa using hl) (fun j p e h1 h2 => hk (j + 1) p e (by simpa using h1) (by simpa using h2)) h1
      simp only [Instr.findAsking, Sem.run_bind, he, Result.andThen_ok, Bool.false_eq_true, if_false, ih]
      cases r' with
      | none => simp
      | some j => simp [Nat.add_assoc, Nat.add_comm 1 j]
theorem findNow_ok {g : G} {s : Sh} {d : TypeDesc} {u : U} {v : Value} (hd : (s = .ti ∧ ∃ k, d = .int k) ∨ (s = .tb ∧ d = .bool) ∨ (s = .ts ∧ d = .string)) (hu : VR E g u v) : ∀ (es : List (U × U)) (l : List MapEntry) (i : Nat) (r : Option Nat), es.length = l.length → (∀ (j : Nat) (p : U × U) (e : MapEntry), es[j]? = some p → l[j]? = some e → VR E g p.1 e.key) → lk s u es = some r →
    Instr.findNow d v l i = some (r.bind fun j => (l[j]?).map fun e => (i + j, e.val))
  | [], l, i, r, hl, _, h => by
    have : l = [] := List.eq_nil_of_length_eq_zero (by simpa using hl.symm)
    subst this
    simp [lk] at h
    subst h
    simp [Instr.findNow]
  | (k', v') :: es, [], i, r, hl, _, h => by simp at hl
  | (k', v') :: es, e :: l, i, r, hl, hk, h => by
    simp only [lk, Option.bind_eq_some_iff] at h
    obtain ⟨b, hb, h⟩ := h
    have he := hk 0 (k', v') e rfl rfl
    have hnow : Instr.sameNow d v e.key = some b := by
      unfold sameV at hb
      simp only [Option.bind_eq_some_iff] at hb
      obtain ⟨us, h1, vs, h2, hb⟩ := hb
      rcases hd with ⟨rfl, k, rfl⟩ | ⟨rfl, rfl⟩ | ⟨rfl, rfl⟩
      · obtain ⟨q, x, y, rfl, rfl, rfl⟩ := same_ti (n := 11) hb
        have e1 : u = .int q x := by cases u <;> simp [cellsS] at h1 <;> simp [h1]
        have e2 : k' = .int q y := by cases k' <;> simp [cellsS] at h2 <;> simp [h2]
        subst e1; subst e2
        simp only [VR] at hu he
        simp [hu, he, Instr.sameNow]
      · obtain ⟨x, y, rfl, rfl, rfl⟩ := same_tb (n := 11) hb
        have e1 : u = .bool x := by cases u <;> simp [cellsS] at h1 <;> simp [h1]
        have e2 : k' = .bool y := by cases k' <;> simp [cellsS] at h2 <;> simp [h2]
        subst e1; subst e2
        simp only [VR] at hu he
        simp [hu, he, Instr.sameNow]
      · obtain ⟨x, y, rfl, rfl, rfl⟩ := same_ts (n := 11) hb
        have e1 : u = .str x := by cases u <;> simp [cellsS] at h1 <;> simp [h1]
        have e2 : k' = .str y := by cases k' <;> simp [cellsS] at h2 <;> simp [h2]
        subst e1; subst e2
        simp only [VR] at hu he
        obtain ⟨a, rfl, rfl⟩ := hu
        obtain ⟨c, he, rfl⟩ := he
        rw [he]
        simp only [Instr.sameNow, beq_toListBytes, bytes_eq]
    cases b with
    | true => simp at h; subst h; simp [Instr.findNow, hnow]
    | false =>
      simp only [Bool.false_eq_true, if_false, Option.map_eq_some_iff] at h
      obtain ⟨r', h1, rfl⟩ := h
      have ih := findNow_ok hd hu es l (i + 1) r' (by simpa using hl) (fun j p e h1 h2 => hk (j + 1) p e (by simpa using h1) (by simpa using h2)) h1
      simp only [Instr.findNow, hnow, ih]
      cases r' with
      | none => simp
      | some j => simp [Nat.add_assoc, Nat.add_comm 1 j]
theorem findKey_ok {g : G} {t : TypeId} {s : Sh} {u : U} {v : Value} (hs : E.sh 12 t = some s) (hu : VR E g u v) (w : World) (es : List (U × U)) (l : List MapEntry) (r : Option Nat) (hl : es.length = l.length) (hk : ∀ (j : Nat) (p : U × U) (e : MapEntry), es[j]? = some p → l[j]? = some e → VR E g p.1 e.key) (h : lk s u es = some r) :
    (Instr.findKey t v l).run E.P w = .ok (r.bind fun j => (l[j]?).map fun e => (j, e.val)) w := by
  have hA := findAsking_ok hs hu w es l 0 r hl hk h
  simp only [Nat.zero_add] at hA
  have hs' := hs
  unfold En.sh at hs
  split at hs <;> rename_i hd
  · cases hs
    have := findNow_ok (d := .bool) (.inr (.inl ⟨rfl, rfl⟩)) hu es l 0 r hl hk h
    simp only [Nat.zero_add] at this
    simp [Instr.findKey, run_underlying hd, this]
  · rename_i k
    cases hs
    have := findNow_ok (d := .int k) (.inl ⟨rfl, k, rfl⟩) hu es l 0 r hl hk h
    simp only [Nat.zero_add] at this
    simp [Instr.findKey, run_underlying hd, this]
  · cases hs
    have := findNow_ok (d := .string) (.inr (.inr ⟨rfl, rfl⟩)) hu es l 0 r hl hk h
    simp only [Nat.zero_add] at this
    simp [Instr.findKey, run_underlying hd, this]
  all_goals first
    | contradiction
    | (cases l with
       | nil =>
         have : es = [] := List.eq_nil_of_length_eq_zero (by simpa using hl)
         subst this
         simp [lk] at h
         subst h
         simp [Instr.findKey, run_underlying hd, Instr.findNow]
       | cons e l =>
         simp only [Instr.findKey, Sem.run_bind, run_underlying hd, Result.andThen_ok, Instr.findNow, Instr.sameNow, hA])
def Plain : Value → Bool
  | .int _ _ | .bool _ | .string _ => true
  | _ => false
theorem sameBits_plain {n : Nat} {x : Value} (h : Plain x = true) : Instr.sameBits n x x = true := by
  cases x <;> simp [Plain] at h <;> cases n <;> simp [Instr.sameBits] <;> (rw [beq_toListBytes]; simp)
theorem VR_fun {g : G} {u : U} {x y : Value} (hp : match u with | .int _ _ | .bool _ | .str _ => True | _ => False) (h1 : VR E g u x) (h2 : VR E g u y) : x = y ∧ Plain x = true := by
  cases u <;> simp only at hp <;> simp only [VR] at h1 h2
  · exact ⟨h1.trans h2.symm, by rw [h1]; rfl⟩
  · exact ⟨h1.trans h2.symm, by rw [h1]; rfl⟩
  · obtain ⟨a, rfl, rfl⟩ := h1
    obtain ⟨b, rfl, hb⟩ := h2
    refine ⟨?_, rfl⟩
    congr 1
    obtain ⟨⟨a⟩⟩ := a
    obtain ⟨⟨b⟩⟩ := b
    simp at hb
    rw [hb]
def leaf : U → Bool
  | .int _ _ | .bool _ | .str _ => true
  | _ => false
theorem same_true : ∀ (d n : Nat) (s : Sh) (us vs : List U), noF d s = true → same n s us vs = some true → us = vs ∧ us.all leaf = true
  | 0, n, s, us, vs, hf, _ => by simp [noF] at hf
  | d + 1, 0, s, us, vs, _, h => by simp [same] at h
  | d + 1, n + 1, s, us, vs, hf, h => by
    have ih := same_true d n
    cases s <;> simp only [noF, Bool.false_eq_true] at hf
    case tb => obtain ⟨x, y, rfl, rfl, hb⟩ := same_tb h; simp at hb; subst hb; exact ⟨rfl, rfl⟩
    case ti => obtain ⟨k, x, y, rfl, rfl, hb⟩ := same_ti h; simp at hb; subst hb; exact ⟨rfl, rfl⟩
    case ts => obtain ⟨x, y, rfl, rfl, hb⟩ := same_ts h; simp at hb; subst hb; exact ⟨rfl, rfl⟩
    case tst fs =>
      have h' := same_tst h
      clear h
      induction fs generalizing us vs with
      | nil =>
        unfold same.fields at h'
        split at h' <;> simp_all
      | cons p fs ihf =>
        simp only [List.all_cons, Bool.and_eq_true] at hf
        obtain ⟨m, s⟩ := p
        simp only [same.fields] at h'
        split at h'
        · simp only [Option.bind_eq_some_iff] at h'
          obtain ⟨r, hr, h'⟩ := h'
          cases r with
          | false => simp at h'
          | true =>
            obtain ⟨r', h', e⟩ := Option.map_eq_some_iff.1 h'
            simp only [Bool.true_and] at e
            subst e
            have a := ih s _ _ hf.1 hr
            have b := ihf _ _ hf.2 h'
            refine ⟨by rw [← List.take_append_drop m us, ← List.take_append_drop m vs, a.1, b.1], ?_⟩
            rw [← List.take_append_drop m us, List.all_append, a.2, b.2]; rfl
        · cases h'
    case tarr m z e =>
      obtain ⟨l1, l2, h'⟩ := same_tarr h
      clear h
      induction m generalizing us vs with
      | zero =>
        have : us = [] := List.eq_nil_of_length_eq_zero (by simpa using l1)
        have : vs = [] := List.eq_nil_of_length_eq_zero (by simpa using l2)
        simp_all
      | succ m ihm =>
        simp only [same.items, Option.bind_eq_some_iff] at h'
        obtain ⟨r, hr, h'⟩ := h'
        cases r with
        | false => simp at h'
        | true =>
          obtain ⟨r', h', e'⟩ := Option.map_eq_some_iff.1 h'
          simp only [Bool.true_and] at e'
          subst e'
          have a := ih e _ _ hf hr
          have b := ihm _ _ (by simp [l1, Nat.add_mul]) (by simp [l2, Nat.add_mul]) h'
          refine ⟨by rw [← List.take_append_drop z us, ← List.take_append_drop z vs, a.1, b.1], ?_⟩
          rw [← List.take_append_drop z us, List.all_append, a.2, b.2]; rfl
theorem VRs_fun {g : G} : ∀ {us : List U} {xs ys : List Value}, us.all leaf = true → VRs E g us xs → VRs E g us ys → xs = ys ∧ ∀ x ∈ xs, Plain x = true
  | [], xs, ys, _, h1, h2 => by simp only [VRs] at h1 h2; subst h1; subst h2; exact ⟨rfl, by simp⟩
  | u :: us, xs, ys, hl, h1, h2 => by
    simp only [List.all_cons, Bool.and_eq_true] at hl
    simp only [VRs] at h1 h2
    obtain ⟨x, r, rfl, hx, hr⟩ := h1
    obtain ⟨y, r', rfl, hy, hr'⟩ := h2
    have a := VR_fun (by cases u <;> simp_all [leaf]) hx hy
    have b := VRs_fun hl.2 hr hr'
    refine ⟨by rw [a.1, b.1], ?_⟩
    intro z hz
    rcases List.mem_cons.1 hz with rfl | hz
    · exact a.2
    · exact b.2 z hz
theorem sameBits_ok {g : G} {t : TypeId} {s : Sh} {u v : U} {a b : Value} (hs : E.sh 12 t = some s) (hf : noF 12 s = true) (hu : VR E g u a) (hv : VR E g v b) (hb : sameV s u v = some true) : Instr.sameBits 10000 a b = true := by
  unfold sameV at hb
  simp only [Option.bind_eq_some_iff] at hb
  obtain ⟨us, h1, vs, h2, hb⟩ := hb
  obtain ⟨xs, hx, rfl⟩ := cellsS_ok hs hu h1
  obtain ⟨ys, hy, rfl⟩ := cellsS_ok hs hv h2
  have h := same_true 12 _ s us vs hf hb
  obtain ⟨rfl, hl⟩ := h
  obtain ⟨rfl, hp⟩ := VRs_fun hl hx hy
  obtain ⟨isA, hA, hAg⟩ := sh_isA hs
  cases isA with
  | true =>
    simp only [mkv, hA, if_true]
    simp only [Instr.sameBits, List.size_toArray, BEq.rfl, Bool.true_and]
    rw [List.all_eq_true]
    rintro ⟨x, y⟩ hxy
    have : x = y ∧ x ∈ xs := by
      rw [List.zip_eq_zipWith] at hxy
      clear hp hx hy hu hv h1 h2 hb hl
      induction xs with
      | nil => simp at hxy
      | cons c xs ih =>
        simp only [List.zipWith_cons_cons, List.mem_cons, Prod.mk.injEq] at hxy
        rcases hxy with ⟨rfl, rfl⟩ | hxy
        · exact ⟨rfl, by simp⟩
        · have := ih hxy; exact ⟨this.1, by simp [this.2]⟩
    obtain ⟨rfl, hm⟩ := this
    exact sameBits_plain (hp x hm)
  | false =>
    have hl1 := (same_one hb (fun h => by have := hAg.2 h; cases this)).1
    have hlen := hx.length
    obtain ⟨x, rfl⟩ : ∃ x, xs = [x] := by
      cases xs with
      | nil => simp at hlen; simp [hlen] at hl1
      | cons x r => cases r with
        | nil => exact ⟨x, rfl⟩
        | cons _ _ => simp at hlen; simp [hlen] at hl1
    simp only [mkv, hA]
    exact sameBits_plain (hp x (by simp))
theorem checkKey_ok {g : G} (em : Bool) : ∀ (d n : Nat) (t : TypeId) (s : Sh) (us : List U) (xs : List Value), E.sh d t = some s → same n s us us = some true → VRs E g us xs →
    ∀ (D : Nat) (w : World), d ≤ D → (Instr.checkKey em D t (mkv E t xs)).run E.P w = .ok () w
  | 0, n, t, s, us, xs, hs, _, _, D, w, _ => by simp [En.sh] at hs
  | d + 1, 0, t, s, us, xs, hs, hb, _, D, w, _ => by simp [same] at hb
  | d + 1, n + 1, t, s, us, xs, hs, hb, hx, D, w, hD => by
    have ih := checkKey_ok (g := g) em d n
    obtain ⟨D, rfl⟩ : ∃ m, D = m + 1 := ⟨D - 1, by omega⟩
    have hD' : d ≤ D := by omega
    obtain ⟨isA, hA, hAg⟩ := sh_isA hs
    unfold En.sh at hs
    split at hs <;> rename_i hu
    · simp [Instr.checkKey, run_underlying hu]
    · simp [Instr.checkKey, run_underlying hu]
    · simp [Instr.checkKey, run_underlying hu]
    · simp [Instr.checkKey, run_underlying hu]
    · rename_i fs
      split at hs
      · cases hs
      · simp only [Option.map_eq_some_iff] at hs
        obtain ⟨fl, hfl, rfl⟩ := hs
        have hA' : isA = true := by rw [hAg]; exact .inl ⟨_, rfl⟩
        subst hA'
        have hb' := same_tst hb
        simp only [mkv, hA, if_true]
        rw [Instr.checkKey]
        simp only [Sem.run_bind, run_underlying hu, Result.andThen_ok]
        rw [← Array.forIn_toList]
        have key : ∀ (L : List Field) (off : Nat) (fl : List (Nat × Sh)), off ≤ us.length → En.sh.fields E (E.sh d) off L = some fl → same.fields (same n) fl (us.drop off) (us.drop off) = some true →
            (forIn L PUnit.unit (fun f (_ : PUnit) => do
              if f.name ≠ "_" then Instr.checkKey em D f.type (← Go.part f.type xs.toArray f.offset)
              pure (ForInStep.yield PUnit.unit)) : Sem PUnit).run E.P w = .ok PUnit.unit w := by
          intro L
          induction L with
          | nil => intro off fl _ _ _; simp
          | cons f L ihL =>
            intro off fl ho hf hb
            simp only [En.sh.fields] at hf
            split at hf
            · rename_i hno
              simp only [Option.bind_eq_some_iff, Option.map_eq_some_iff] at hf
              obtain ⟨z, hz, s, hs, fl', hfl, rfl⟩ := hf
              simp only [same.fields] at hb
              split at hb
              · rename_i hle
                simp only [Option.bind_eq_some_iff] at hb
                obtain ⟨r, hr, hb⟩ := hb
                cases r with
                | false => simp at hb
                | true =>
                  obtain ⟨r', hb, e'⟩ := Option.map_eq_some_iff.1 hb
                  simp only [Bool.true_and] at e'
                  subst e'
                  simp only [List.drop_drop] at hb
                  have hoff : f.offset = off := hno.2
                  have lx := hx.length
                  simp only [List.length_drop] at hle
                  have l1 : ((us.drop off).take z).length = z := by simp; omega
                  obtain ⟨isA, hA, _⟩ := sh_isA hs
                  have hsz : E.isA f.type = some false → z = 1 := sized hs hr l1
                  have p1 := part_run (by rw [hA]; simp) hz xs.toArray off (by simp; omega) hsz w
                  have e := ih f.type s _ _ hs hr ((hx.drop off).take z) D w hD'
                  simp only [List.forIn_cons, Sem.run_bind, hno.1, ne_eq, not_false_eq_true, if_true, Result.andThen_ok, hoff, p1, e, Sem.run_pure]
                  exact ihL _ _ (by omega) hfl hb
              · cases hb
            · cases hf
        have := key fs.toList 0 fl (by omega) hfl (by simpa using hb')
        simp at this ⊢
        rw [this]
        rfl
    · rename_i m et
      simp only [Option.bind_eq_some_iff, Option.map_eq_some_iff] at hs
      obtain ⟨z, hz, e, he, rfl⟩ := hs
      have hA' : isA = true := by rw [hAg]; exact .inr ⟨_, _, _, rfl⟩
      subst hA'
      obtain ⟨l1, _, hb'⟩ := same_tarr hb
      simp only [mkv, hA, if_true]
      rw [Instr.checkKey]
      simp only [Sem.run_bind, run_underlying hu, Result.andThen_ok]
      simp only [Std.Legacy.Range.forIn_eq_forIn_range', Std.Legacy.Range.size, Nat.sub_zero, Nat.add_one_sub_one, Nat.div_one]
      have key : ∀ (m k : Nat), (k + m) * z ≤ us.length → same.items (same n e) z m (us.drop (k * z)) (us.drop (k * z)) = some true →
            (forIn (List.range' k m) PUnit.unit (fun i (_ : PUnit) => do
              Instr.checkKey em D et (← Go.part et xs.toArray (i * (← sizeOf et)))
              pure (ForInStep.yield PUnit.unit)) : Sem PUnit).run E.P w = .ok PUnit.unit w := by
        intro m
        induction m with
        | zero => intro k _ _; simp
        | succ m ihm =>
          intro k h1 hb
          simp only [same.items, Option.bind_eq_some_iff] at hb
          obtain ⟨r, hr, hb⟩ := hb
          cases r with
          | false => simp at hb
          | true =>
            obtain ⟨r', hb, e'⟩ := Option.map_eq_some_iff.1 hb
            simp only [Bool.true_and] at e'
            subst e'
            simp only [List.drop_drop] at hb
            rw [show k * z + z = (k + 1) * z by rw [Nat.add_mul, Nat.one_mul]] at hb
            have lx := hx.length
            have hkz : k * z + z ≤ (k + (m + 1)) * z := by rw [← Nat.succ_mul]; exact Nat.mul_le_mul_right _ (by omega)
            have l1 : ((us.drop (k * z)).take z).length = z := by simp; omega
            obtain ⟨isA, hA, _⟩ := sh_isA he
            have hsz := sized he hr l1
            have p1 := part_run (by rw [hA]; simp) hz xs.toArray (k * z) (by simp; omega) hsz w
            have e := ih et e _ _ he hr ((hx.drop (k * z)).take z) D w hD'
            rw [List.range'_succ]
            simp only [List.forIn_cons, Sem.run_bind, En.size_run hz, Result.andThen_ok, p1, e, Sem.run_pure]
            exact ihm (k + 1) (by rw [show k + 1 + m = k + (m + 1) by omega]; exact h1) hb
      have := key m 0 (by rw [l1]; simp) (by simpa using hb')
      simp at this ⊢
      rw [this]
      rfl
    · simp only [Option.map_eq_some_iff] at hs
      obtain ⟨l, hl, rfl⟩ := hs
      have hA' : isA = false := by cases isA <;> simp_all
      subst hA'
      rcases same_tifc hb with ⟨t1, v1, rfl, h, _⟩ | ⟨t1, v1, rfl, h, _⟩ | ⟨t1, t2, v1, v2, rfl, h, hne, _⟩ | ⟨t1, v1, v2, sh, as, cs, rfl, h, hlk, ha, hc, hsm⟩
      · cases h
      · cases h
      · cases h; exact absurd rfl hne
      · cases h
        rw [ha] at hc
        cases hc
        simp only [VRs, VR] at hx
        obtain ⟨v, r, rfl, ⟨x, rfl, hx⟩, rfl⟩ := hx
        obtain ⟨hsh, i, hi, hcmp⟩ := alts_ok hl hlk
        obtain ⟨xs, hxs, rfl⟩ := cellsS_ok hsh hx ha
        have := ih t1 sh as xs hsh hsm hxs D w hD'
        simp only [mkv, hA, Bool.false_eq_true, if_false] at this ⊢
        simp [Instr.checkKey, run_underlying hu, run_typeInfo w hi, hcmp]
        simpa using this
    · cases hs
theorem checkKey_run {g : G} {t : TypeId} {s : Sh} {u : U} {v : Value} (em : Bool) (hs : E.sh 12 t = some s) (hu : VR E g u v) (hb : sameV s u u = some true) (w : World) : (Instr.checkKey em 10000 t v).run E.P w = .ok () w := by
  unfold sameV at hb
  simp only [Option.bind_eq_some_iff] at hb
  obtain ⟨us, h1, vs, h2, hb⟩ := hb
  rw [h1] at h2
  cases h2
  obtain ⟨xs, hx, rfl⟩ := cellsS_ok hs hu h1
  exact checkKey_ok em 12 _ t s us xs hs hb hx 10000 w (by omega)
end
section
variable {E : En}
theorem closed_clo {g : G} {u : U} {v : Value} (hc : closed u = true) (hv : VR E g u v) : Clo true u := by
  cases u <;> simp only [closed, Bool.false_eq_true] at hc <;> (try (simp only [Clo]; done))
  case sl p xs =>
    cases p with
    | false => simp [closed] at hc
    | true => simp only [VR] at hv; simp only [Clo]; exact ⟨fun h => h, hv.1⟩
  case agg cs =>
    simp only [VR] at hv
    obtain ⟨xs, _, _, hvs⟩ := hv
    simp only [Clo, Clos_iff]
    intro u hu
    rw [List.all_eq_true] at hc
    have h1 := hc u hu
    obtain ⟨i, hi⟩ := List.getElem?_of_mem hu
    obtain ⟨x, _, hx⟩ := hvs.get hi
    cases u
    case sl p ys =>
      cases p with
      | false => exact absurd h1 Bool.false_ne_true
      | true => simp only [VR] at hx; simp only [Clo]; exact ⟨fun h => h, hx.1⟩
    all_goals first
      | (simp only [Clo]; done)
      | exact absurd h1 Bool.false_ne_true
  case fn f cs =>
    cases cs with
    | nil => simp only [Clo]
    | cons _ _ => simp [closed] at hc
theorem lookup_ok {g : G} {st : List Ob} (h : SR E g st) {t kt et : TypeId} {ok : Bool} {s : Sh} {z k : U} {id : Nat} {es : List (U × U)} {r : Option U} {m kv : Value} (hu : E.P.underlying t = some (.map kt et)) (hs : E.sh 12 kt = some s) (hz : E.zeroV et = some z)
    (hm : VR E g (.mp id) m) (hk : VR E g k kv) (hid : st[id]? = some (.map es)) (hself : sameV s k k = some true) (hl : look s k es = some r) :
    RunOK E g st (Instr.lookup t m kv ok) (match (generalizing := false) r with | some v => if ok then .tup [v, .bool true] else v | none => if ok then .tup [z, .bool false] else z) st := by
  simp only [VR] at hm
  obtain ⟨hd, rfl⟩ := hm
  obtain ⟨en, clock, hh, hsz, hclo, hent⟩ := h.ob id _ hid
  obtain ⟨i, hi, hr⟩ := look_lk hl
  obtain ⟨zv, hz1, hz2⟩ := En.zeroV_run hz g.w
  have hfind := findKey_ok hs hk g.w es en.toList i (by simp [hsz]) (fun j p e h1 h2 => (hent j p.1 p.2 e h1 (by simpa using h2)).1) hi
  have hck := checkKey_run en.isEmpty hs hk hself g.w
  have hget := getObj_run (E := E) hh (by simp)
  cases i with
  | none =>
    simp only [Option.bind_none] at hr
    subst hr
    refine RunOK.same h (v := if ok then .tuple #[zv, .bool false] else zv) ?_ (by
      cases ok
      · simpa using hz2 g
      · simp only [if_true, VR, VRs]; exact ⟨_, rfl, _, _, rfl, hz2 g, _, _, rfl, rfl, rfl⟩)
    simp only [Option.bind_none] at hfind
    simp only [Instr.lookup, Sem.run_bind, run_underlying hu, Result.andThen_ok, hget, Sem.run_pure, hck, hfind, hz1]
  | some j =>
    obtain ⟨hlt, p, hp, _⟩ := lk_lt hi
    have hlt' : j < en.size := by omega
    have he : en[j]? = some en[j] := Array.getElem?_eq_getElem hlt'
    have hv := (hent j p.1 p.2 _ hp he).2
    simp only [Option.bind_some, hp, Option.map_some] at hr
    subst hr
    have he' : en.toList[j]? = some en[j] := by simp [hlt']
    refine RunOK.same h (v := if ok then .tuple #[en[j].val, .bool true] else en[j].val) ?_ (by
      cases ok
      · simpa using hv
      · simp only [if_true, VR, VRs]; exact ⟨_, rfl, _, _, rfl, hv, _, _, rfl, rfl, rfl⟩)
    simp only [Option.bind_some, he', Option.map_some] at hfind
    simp only [Instr.lookup, Sem.run_bind, run_underlying hu, Result.andThen_ok, hget, Sem.run_pure, hck, hfind]
theorem setObj_grownBy (w : World) (b : Nat) (o : Obj) : w.grownBy { w with heap := w.heap.setIfInBounds b o } (some b) := by
  refine ⟨rfl, rfl, rfl, by simp, fun k _ hne => ?_⟩
  simp only
  rw [Array.getElem?_setIfInBounds_ne (fun e => hne (by rw [e]))]
theorem mapset_ok {g : G} {st : List Ob} (h : SR E g st) {t kt et : TypeId} {s : Sh} {k v : U} {id : Nat} {es es' : List (U × U)} {m kv vv : Value} (hu : E.P.underlying t = some (.map kt et)) (hs : E.sh 12 kt = some s) (hf : noF 12 s = true)
    (hm : VR E g (.mp id) m) (hk : VR E g k kv) (hv : VR E g v vv) (hid : st[id]? = some (.map es)) (ck : closed k = true) (cv : closed v = true) (hself : sameV s k k = some true) (hl : mset s k v es = some es') :
    ∃ g', (Instr.mapUpdate t m kv vv).run E.P g.w = .ok () g'.w ∧ Step g st g' (st.set id (.map es')) ∧ SR E g' (st.set id (.map es')) := by
  simp only [VR] at hm
  obtain ⟨hd, rfl⟩ := hm
  obtain ⟨en, clock, hh, hsz, hclo, hent⟩ := h.ob id _ hid
  have hlt0 : g.vb id < g.w.heap.size := (Array.getElem?_eq_some_iff.1 hh).1
  obtain ⟨i, hi, rfl⟩ := mset_lk hl
  have hkk := closed_clo ck hk
  have hvv := closed_clo cv hv
  have hfind := findKey_ok hs hk g.w es en.toList i (by simp [hsz]) (fun j p e h1 h2 => (hent j p.1 p.2 e h1 (by simpa using h2)).1) hi
  have hck := checkKey_run false hs hk hself g.w
  have hget := getObj_run (E := E) hh (by simp)
  have put : ∀ (en' : Array MapEntry) (clock' : Nat) (es' : List (U × U)), en'.size = es'.length → (∀ k v, (k, v) ∈ es' → Clo true k ∧ Clo true v) →
      (∀ (i : Nat) (k v : U) (e : MapEntry), es'[i]? = some (k, v) → en'[i]? = some e → VR E g k e.key ∧ VR E g v e.val) →
      ∃ g', g'.w = { g.w with heap := g.w.heap.setIfInBounds (g.vb id) (.map en' clock') } ∧ Step g st g' (st.set id (.map es')) ∧ SR E g' (st.set id (.map es')) := by
    intro en' clock' es' h1 h2 h3
    obtain ⟨s, r⟩ := h.put hid rfl (w' := { g.w with heap := g.w.heap.setIfInBounds (g.vb id) (.map en' clock') }) (by simpa [blk] using setObj_grownBy g.w (g.vb id) _) (g.vr id) (g.len id) (.map es') rfl (Nat.le_refl _) (fun _ => rfl)
      (fun hx => ⟨en', clock', by simp [G.put, hlt0], h1, h2, fun i k v e a b => ⟨VR.ext hx _ _ (h3 i k v e a b).1, VR.ext hx _ _ (h3 i k v e a b).2⟩⟩) (fun c hc => .inl (by simpa [blk, G.put] using hc))
    exact ⟨_, rfl, s, r⟩
  cases i with
  | none =>
    obtain ⟨g', hw, s, r⟩ := put (en.push { key := kv, val := vv, born := clock }) (clock + 1) (es ++ [(k, v)]) (by simp [hsz]) (by
      intro a b hab
      rcases List.mem_append.1 hab with hab | hab
      · exact hclo a b hab
      · simp at hab; obtain ⟨rfl, rfl⟩ := hab; exact ⟨hkk, hvv⟩) (by
      intro j a b e h1 h2
      rw [List.getElem?_append] at h1
      split at h1
      · rename_i hj
        rw [Array.getElem?_push_lt (by omega)] at h2
        exact hent j a b e h1 (by rw [Array.getElem?_eq_getElem (by omega)]; exact h2)
      · rename_i hj
        have hje : j = es.length := by
          have := (List.getElem?_eq_some_iff.1 h1).1
          simp at this
          omega
        subst hje
        simp at h1
        obtain ⟨rfl, rfl⟩ := h1
        rw [← hsz] at h2
        simp at h2
        subst h2
        exact ⟨hk, hv⟩)
    refine ⟨g', ?_, s, r⟩
    simp only [Option.bind_none] at hfind
    rw [hw]
    simp only [Instr.mapUpdate, Sem.run_bind, run_underlying hu, Result.andThen_ok, hget, hck, hfind]
    exact setObj_run hh (by simp)
  | some j =>
    obtain ⟨hlt, p, hp, hsame⟩ := lk_lt hi
    have hlt' : j < en.size := by omega
    have he : en[j]? = some en[j] := Array.getElem?_eq_getElem hlt'
    have hkey := (hent j p.1 p.2 _ hp he).1
    have hstay : Instr.sameBits 10000 en[j].key kv = true := by
      have hsame' : sameV s k p.1 = some true := hsame
      have e := sameBits_ok hs hf hk hkey hsame'
      have e2 : en[j].key = kv := by
        unfold sameV at hsame'
        simp only [Option.bind_eq_some_iff] at hsame'
        obtain ⟨us, h1, vs, h2, hb⟩ := hsame'
        obtain ⟨xs, hx, hx'⟩ := cellsS_ok hs hk h1
        obtain ⟨ys, hy, hy'⟩ := cellsS_ok hs hkey h2
        obtain ⟨rfl, hl⟩ := same_true 12 _ s us vs hf hb
        obtain ⟨rfl, _⟩ := VRs_fun hl hx hy
        rw [hx', hy']
      rw [e2] at e ⊢
      exact e
    obtain ⟨g', hw, s, r⟩ := put (en.modify j fun e => { e with key := kv, val := vv }) clock (es.set j (k, v)) (by simp [hsz]) (by
      intro a b hab
      rcases List.mem_or_eq_of_mem_set hab with hab | hab
      · exact hclo a b hab
      · cases hab; exact ⟨hkk, hvv⟩) (by
      intro i a b e h1 h2
      by_cases hij : i = j
      · subst hij
        simp [hlt] at h1
        obtain ⟨rfl, rfl⟩ := h1
        simp [Array.getElem?_modify, he] at h2
        subst h2
        exact ⟨hk, hv⟩
      · rw [List.getElem?_set_ne (Ne.symm hij)] at h1
        rw [Array.getElem?_modify, if_neg (Ne.symm hij)] at h2
        exact hent i a b e h1 h2)
    refine ⟨g', ?_, s, r⟩
    have he' : en.toList[j]? = some en[j] := by simp [hlt']
    simp only [Option.bind_some, he', Option.map_some] at hfind
    rw [hw]
    simp only [Instr.mapUpdate, Sem.run_bind, run_underlying hu, Result.andThen_ok, hget, hck, hfind, he, Option.map_some, Option.getD_some, Instr.keyThatStays, hstay, if_true, Sem.run_pure]
    exact setObj_run hh (by simp)
/-! Texts, rune by rune. -/
theorem range_ok {g : G} {st st' : List Ob} (h : SR E g st) {t : TypeId} {s : List UInt8} {v : Value} {nid : Nat} (hu : E.P.underlying t = some .string) (hv : VR E g (.str s) v) (hn : newOb st nid (.iter s 0) = some st') : RunOK E g st (Instr.range t v) (.it nid) st' := by
  simp only [VR] at hv
  obtain ⟨x, rfl, hx⟩ := hv
  have hg : g.w.grownBy (g.w.alloc (.stringIter x 0)) none := World.grownBy_alloc _ _ _
  obtain ⟨s, r⟩ := h.new hn hg .nilIface g.w.heap.size 0 0 rfl
    (fun _ => ⟨x, by simp only [G.add, upd_same]; exact heap_alloc_new g.w _, hx⟩)
    (fun c hc => by simp only [blk, G.add, upd_same, Option.some.injEq] at hc; subst hc; simp)
  exact ⟨.pointer (some ⟨g.w.heap.size, 0, none⟩), _, by simp [Instr.range, run_underlying hu, G.add], s, r, by simp [VR, G.add, upd_same]⟩
theorem next_ok {g : G} {st : List Ob} (h : SR E g st) {t : TypeId} {s : List UInt8} {pos id : Nat} {v : Value} (hv : VR E g (.it id) v) (hid : st[id]? = some (.iter s pos)) :
    if pos < s.length then RunOK E g st (Instr.next v true t) (.tup [.bool true, .int .i64 pos, .int .i32 (Utf8.decode ⟨s.toArray⟩ pos).1]) (st.set id (.iter s (pos + (Utf8.decode ⟨s.toArray⟩ pos).2)))
    else RunOK E g st (Instr.next v true t) (.tup [.bool false]) st := by
  simp only [VR] at hv
  obtain ⟨hd, rfl⟩ := hv
  obtain ⟨x, hh, hx⟩ := h.ob id _ hid
  have hlt0 : g.vb id < g.w.heap.size := (Array.getElem?_eq_some_iff.1 hh).1
  have hxe : x = ⟨s.toArray⟩ := by
    cases x with
    | mk d => simp only at hx; rw [← hx]
  have hsz : x.size = s.length := by rw [← hx, Array.length_toList]; rfl
  have hget := getObj_run (E := E) hh (by simp)
  split
  · rename_i hpos
    have hset := setObj_run (E := E) (o' := .stringIter x (pos + (Utf8.decode x pos).2)) hh (by simp)
    obtain ⟨st1, r⟩ := h.put hid rfl (w' := { g.w with heap := g.w.heap.setIfInBounds (g.vb id) (.stringIter x (pos + (Utf8.decode x pos).2)) }) (by simpa [blk] using setObj_grownBy g.w (g.vb id) _) (g.vr id) (g.len id) (.iter s (pos + (Utf8.decode x pos).2)) rfl (Nat.le_refl _) (fun _ => rfl)
      (fun _ => ⟨x, by simp [G.put, hlt0], hx⟩) (fun c hc => .inl (by simpa [blk, G.put] using hc))
    rw [← hxe]
    refine ⟨.tuple #[.bool true, goInt pos, .int .i32 (Utf8.decode x pos).1], _, ?_, st1, r, ?_⟩
    · simp [Instr.next, hget, hsz, hpos, hset, G.put]
    · simp [VR, VRs, goInt]
  · rename_i hpos
    refine RunOK.same (v := .tuple #[.bool false]) h ?_ (by simp [VR, VRs])
    simp [Instr.next, hget, hsz, hpos]
end
section
variable {E : En}
def CallOK (E : En) (call : Nat → List U → List Ob → Option (U × List Ob)) : Prop :=
  ∀ f args st u st', call f args st = some (u, st') → ∀ g vs, SR E g st → GlobOK E g → VRs E g args vs →
    (∀ w, (callFunc f vs.toArray).run E.P w = .ok (.enter f vs.toArray) w) ∧
    Calls E.P f vs.toArray g.w fun e w' => ∃ v g', e = .returned v ∧ w' = g'.w ∧ Step g st g' st' ∧ SR E g' st' ∧ VR E g' u v
variable {call : Nat → List U → List Ob → Option (U × List Ob)} {g : G} {st st' : List Ob} {e : Env} {a : Act} {u : U} {nid : Nat} {K : Act → World → Prop} {Q : Exit → Act → World → Prop} {o : Oper}
def KOK (E : En) (g : G) (st : List Ob) (a : Act) (dst : Option Tmp) (u : U) (st' : List Ob) (K : Act → World → Prop) : Prop :=
  ∀ g' v, Step g st g' st' → SR E g' st' → VR E g' u v → K (a.put dst v) g'.w
theorem RunOK.wp {s : Sem Value} (r : RunOK E g st s u st') (he : execOp a.eval o = (do pure (.value (← s)))) (hK : KOK E g st a o.dst u st' K) : o.wp E.P a g.w K Q := by
  obtain ⟨v, g', hr, hs, hS, hv⟩ := r
  unfold Oper.wp
  rw [he]
  simp only [Sem.run_bind, hr, Result.andThen_ok, Sem.run_pure, Oper.upon_value]
  exact hK g' v hs hS hv
theorem unit_wp {s : Sem Unit} {g' : G} (hr : s.run E.P g.w = .ok () g'.w) (hs : Step g st g' st') (hS : SR E g' st') (he : execOp a.eval o = (do s; pure .skip)) (hK : KOK E g st a o.dst (.tup []) st' K) : o.wp E.P a g.w K Q := by
  unfold Oper.wp
  rw [he]
  simp only [Sem.run_bind, hr, Result.andThen_ok, Sem.run_pure, Oper.upon_skip]
  exact hK g' undef hs hS (by simp only [VR, undef]; exact ⟨#[], rfl, by simp [VRs]⟩)
theorem calls_wp {f : FuncId} {vs : List Value} (hrun : ∀ w, (execOp a.eval o).run E.P w = .ok (.enter f vs.toArray) w)
    (hc : Calls E.P f vs.toArray g.w fun e w' => ∃ v g', e = .returned v ∧ w' = g'.w ∧ Step g st g' st' ∧ SR E g' st' ∧ VR E g' u v) (hK : KOK E g st a o.dst u st' K) : o.wp E.P a g.w K Q := by
  unfold Oper.wp
  rw [hrun]
  simp only [Oper.upon_enter]
  refine Calls.mono hc ?_
  rintro e w' ⟨v, g', rfl, rfl, hs, hS, hv⟩
  exact hK g' v hs hS hv
theorem pairs_eq (a : Act) (ps : Array (Nat × Operand)) : (ps.map fun (i, x) => (i, a.eval x)) = (ps.toList.map fun p => (p.1, a.eval p.2)).toArray := by
  obtain ⟨ps⟩ := ps
  simp
theorem opA_t {x : Operand} {n : Nat} (h : E.opA x = some (.t n)) : x = .tmp n := by
  cases x with
  | tmp t => simp [En.opA] at h; rw [h]
  | const v => simp [En.opA] at h
  | global g => simp [En.opA] at h
  | func f => simp [En.opA] at h
theorem append_ok (h : SR E g st) {t ty el : TypeId} {i : TypeInfo} {z : Value} {keep : Bool} {s x : U} {v w : Value} {ys : List (List U)} (hu : E.elem t = some el) (hi : E.info el = some i) (hz : i.zero = some z) (hzs : z.cells.size = i.size) (hpos : 0 < i.size) (hb0 : 0 < i.bytes)
    (hv : VR E g s v) (hx : VR E g x w) (hy : elems st x = some ys) (hes : ys.all (fun y => y.length == i.size) = true)
    {id n : Nat} (hs : s = .own id n) (hr : appTo st id n el i.size i.bytes ys = some (u, st')) : RunOK E g st (Builtin.append_ #[t, t] ty #[v, w]) u st' := by
  have hel : E.P.underlying t = some (.slice el) := by
    unfold En.elem at hu
    split at hu
    · rename_i hu'; cases hu; exact hu'
    · cases hu
  have hes' : ∀ y ∈ ys, y.length = i.size := by
    rw [List.all_eq_true] at hes
    exact fun y hy => by simpa using hes y hy
  obtain ⟨ad, c, rfl, hsrc⟩ := elems_ok h hx hy
  subst hs
  unfold appTo at hr
  have hown : True := trivial
  · split at hr
    · rename_i hid
      simp only [Option.bind_eq_some_iff, Option.some.injEq, Prod.mk.injEq] at hr
      obtain ⟨st1, h1, rfl, rfl⟩ := hr
      have hc : ∀ tag es xs, st[id]? = some (.row tag es false xs) → Closs true ys := fun tag es xs e => by rw [hid] at e; simp at e
      rcases hsrc with h0 | ⟨b, o, vs, h3, h4, h5, h6⟩
      · exact appRow_ok (by_ := 0) (vs := []) h hel hi hz hzs hpos hb0 hv h1 hes' hc (.inl h0)
      · exact appRow_ok (by_ := 0) (vs := vs) h hel hi hz hzs hpos hb0 hv h1 hes' hc (.inr ⟨b, o, h3, h4, h5, h6⟩)
    · rename_i hid
      simp only [Option.bind_eq_some_iff, Option.some.injEq, Prod.mk.injEq] at hr
      obtain ⟨⟨ys', st1⟩, h1, st2, h2, rfl, rfl⟩ := hr
      have hl := accM_length _ ys st ys' st1 h1
      have hlen := accM_rows_len ys st ys' st1 h1 hes'
      have hmk : ∃ vs, (ys = [] ∧ vs = [] ∨ ∃ b o, ad = some ⟨b, o, none⟩ ∧ One vs ∧ ∀ k x, vs[k]? = some x → g.w.cell? ⟨b, o + k, none⟩ = some x) ∧ VRss E g ys vs := by
        rcases hsrc with rfl | ⟨b, o, vs, h3, h4, h5, h6⟩
        · exact ⟨[], .inl ⟨rfl, rfl⟩, by simp [VRss]⟩
        · exact ⟨vs, .inr ⟨b, o, h3, h4, h6⟩, h5⟩
      obtain ⟨vs, hvs, hyv⟩ := hmk
      obtain ⟨g1, s1, r1, v1, c1, w1, _⟩ := ((frz_ok (E := E) frzD).list).rows g st ys vs ys' st1 h hyv h1
      have hrun := appRow_ok (by_ := 0) (vs := vs) (ty := ty) (a := ad) (c := c) r1 hel hi hz hzs hpos hb0 (VR.ext s1.toExt _ _ hv) h2 hlen (fun _ _ _ _ => c1) (by
        rcases hvs with ⟨rfl, _⟩ | ⟨b, o, h3, h4, h6⟩
        · exact .inl (List.eq_nil_of_length_eq_zero (by simpa using hl))
        · exact .inr ⟨b, o, h3, h4, v1, fun k x hk => by rw [w1]; exact h6 k x hk⟩)
      rw [hl] at hrun ⊢
      obtain ⟨v', g2, hr, hs, hS, hv'⟩ := hrun
      exact ⟨v', g2, by rw [← w1]; exact hr, s1.trans hs, hS, hv'⟩
    · cases hr
theorem copy_ok (h : SR E g st) {t t' ty el : TypeId} {es id n : Nat} {x : U} {v w : Value} {ys zs : List (List U)} {st1 st2 : List Ob} (hu : E.elem t = some el) (hes : E.size el = some es)
    (hv : VR E g (.own id n) v) (hx : VR E g x w) (hy : elems st x = some ys) (hf : accM (accM (frz frzD)) st (ys.take n) = some (zs, st1)) (hc : cpyRow st1 id n es zs = some st2) :
    RunOK E g st (Builtin.copy_ #[t, t'] ty #[v, w]) (.int .i64 zs.length) st2 := by
  have hel : E.P.underlying t = some (.slice el) := by
    unfold En.elem at hu
    split at hu
    · rename_i hu'; cases hu; exact hu'
    · cases hu
  obtain ⟨ad, c, rfl, hsrc⟩ := elems_ok h hx hy
  have hmk : ∃ vs, VRss E g (ys.take n) vs ∧ One vs ∧ ((ys.take n = [] ∧ vs = []) ∨ ∃ b o, ad = some ⟨b, o, none⟩ ∧ ∀ k x, vs[k]? = some x → g.w.cell? ⟨b, o + k, none⟩ = some x) := by
    rcases hsrc with rfl | ⟨b, o, vs, h3, h4, h5, h6⟩
    · exact ⟨[], by simp [VRss], by simp [One], .inl ⟨by simp, rfl⟩⟩
    · rw [← List.take_append_drop n ys, VRss_flat, List.flatten_append] at h5
      obtain ⟨a, b', rfl, h7, h8⟩ := h5.split
      refine ⟨a, VRss_flat.2 h7, fun x hx => h4 x (by simp [hx]), .inr ⟨b, o, h3, fun k x hk => h6 k x ?_⟩⟩
      rw [List.getElem?_append_left (List.getElem?_eq_some_iff.1 hk).1]
      exact hk
  obtain ⟨vs, hvs, ho, hcells⟩ := hmk
  have hl := accM_length _ (ys.take n) st zs st1 hf
  rw [List.length_take] at hl
  obtain ⟨g1, s1, r1, v1, c1, w1, _⟩ := ((frz_ok (E := E) frzD).list).rows g st (ys.take n) vs zs st1 h hvs hf
  obtain ⟨a', c', g2, rfl, hle, hvl, s2, r2, hst⟩ := cpyRow_ok r1 (VR.ext s1.toExt _ _ hv) v1 ho hc (fun _ _ _ _ => c1)
  have hload : ∃ cs : Array Value, (Builtin.firstCells es (Nat.min ys.length n) (.slice ad ys.length c)).run E.P g.w = .ok cs g.w ∧ cs.toList = vs := by
    have hm : Nat.min ys.length n * es = vs.length := by rw [hvl, hl, Nat.min_comm]
    rcases hcells with ⟨h0, rfl⟩ | ⟨b, o, rfl, h6⟩
    · have hz : Nat.min ys.length n * es = 0 := by simpa using hm
      refine ⟨#[], ?_, rfl⟩
      cases ad with
      | none => simp [Builtin.firstCells]
      | some a => simp [Builtin.firstCells, hz, loadCells, loadCellsFrom]
    · have hr := run_loadCells_list (P := E.P) g.w ⟨b, o, none⟩ vs (fun j x hj => by rw [add_none]; exact h6 j x hj)
      refine ⟨vs.toArray, ?_, by simp⟩
      simp only [Builtin.firstCells, hm]
      exact hr
  obtain ⟨cs, hcs, hcv⟩ := hload
  refine ⟨goInt zs.length, g2, ?_, s1.trans s2, r2, by simp only [VR, goInt]⟩
  have hz : zs.length = Nat.min ys.length n := by rw [hl, Nat.min_comm]
  rcases hst with ⟨a0, rfl, hst⟩ | ⟨rfl, hst⟩
  · rw [w1] at hst
    simp [Builtin.copy_, run_underlying hel, Builtin.lenOf, En.size_run hes, hcs, hcv, hst, hz]
  · simp [Builtin.copy_, run_underlying hel, Builtin.lenOf, En.size_run hes, hcs, hz]
    rw [hst, w1]
theorem bytes_ints : ∀ {ys : List (List U)} {s : List UInt8}, bytes ys = some s → ∃ ns : List Int, ys = ns.map (fun n => [U.int .u8 n]) ∧ s = ns.map fun n => UInt8.ofNat n.toNat
  | [], s, h => by simp only [bytes, Option.some.injEq] at h; subst h; exact ⟨[], rfl, rfl⟩
  | y :: ys, s, h => by
    unfold bytes at h
    split at h
    · rename_i heq; cases heq
    · rename_i n xs heq
      cases heq
      simp only [Option.bind_eq_some_iff, Option.some.injEq] at h
      obtain ⟨s', h1, rfl⟩ := h
      obtain ⟨ns, rfl, rfl⟩ := bytes_ints h1
      exact ⟨n :: ns, rfl, rfl⟩
    · cases h
theorem VRss_ints {g : G} : ∀ {ns : List Int} {vs : List Value}, VRss E g (ns.map fun n => [U.int .u8 n]) vs → vs = ns.map (Value.int .u8)
  | [], vs, h => by simpa [VRss] using h
  | n :: ns, vs, h => by
    simp only [List.map_cons, VRss] at h
    obtain ⟨a, b, rfl, h1, h2⟩ := h
    simp only [VRs, VR] at h1
    obtain ⟨x, b', rfl, h3, rfl⟩ := h1
    rw [VRss_ints h2, h3]
    rfl
theorem push_ints (ns : List Int) : ∀ r : ByteArray, (ns.foldl (fun r n => r.push (UInt8.ofNat n.toNat)) r).data.toList = r.data.toList ++ ns.map fun n => UInt8.ofNat n.toNat := by
  induction ns with
  | nil => intro r; simp
  | cons n ns ih => intro r; rw [List.foldl_cons, ih]; simp
theorem toStr_ok (h : SR E g st) {src dst el : TypeId} {x : U} {v : Value} {ys : List (List U)} {s : List UInt8} (hs : E.P.underlying src = some (.slice el)) (he : E.P.underlying el = some (.int .u8)) (hd : E.P.underlying dst = some .string)
    (hv : VR E g x v) (hy : elems st x = some ys) (hb : bytes ys = some s) : RunOK E g st (convert src dst v) (.str s) st := by
  obtain ⟨ad, c, rfl, hsrc⟩ := elems_ok h hv hy
  obtain ⟨ns, rfl, rfl⟩ := bytes_ints hb
  have hl : (loadCells (ad.getD ⟨0, 0, none⟩) ns.length).run E.P g.w = .ok (ns.map (Value.int .u8)).toArray g.w ∨ ad = none ∧ ns = [] := by
    rcases hsrc with h0 | ⟨b, o, vs, rfl, h1, h2, h3⟩
    · have : ns = [] := by simpa using h0
      subst this
      cases ad with
      | none => exact .inr ⟨rfl, rfl⟩
      | some a => exact .inl (by simp [loadCells, loadCellsFrom])
    · have := VRss_ints h2
      subst this
      refine .inl ?_
      have := run_loadCells_list (P := E.P) g.w ⟨b, o, none⟩ (ns.map (Value.int .u8)) (fun j x hj => by rw [add_none]; exact h3 j x hj)
      simpa using this
  have hr : ∃ w : ByteArray, (convert src dst (.slice ad (ns.map fun n => [U.int .u8 n]).length c)).run E.P g.w = .ok (.string w) g.w ∧ w.data.toList = ns.map fun n => UInt8.ofNat n.toNat := by
    rw [run_convert_bytes_string g.w src dst el _ _ _ hs he hd, List.length_map]
    rcases hl with hl | ⟨rfl, rfl⟩
    · cases ad with
      | none =>
        have : ns = [] := by
          rcases hsrc with h0 | ⟨b, o, vs, h0, _⟩
          · simpa using h0
          · cases h0
        subst this
        exact ⟨.empty, by simp [Conv.bytesToString], rfl⟩
      | some a =>
        refine ⟨_, run_bytesToString g.w a ns.length c ns hl, ?_⟩
        rw [push_ints]
        rfl
    · exact ⟨.empty, by simp [Conv.bytesToString], rfl⟩
  obtain ⟨w, hr, hw⟩ := hr
  exact RunOK.same (v := .string w) h hr (by simp only [VR]; exact ⟨w, rfl, hw⟩)
theorem max_ok (h : SR E g st) {k : IntKind} {m n : Int} {ts : Array TypeId} {ty : TypeId} : RunOK E g st (Builtin.max_ ts ty #[.int k m, .int k n]) (.int k (if m < n then n else m)) st :=
  RunOK.same (v := .int k (if m < n then n else m)) h (by simp [Builtin.max_, Builtin.max2]) (by simp only [VR])
theorem elems_new {st st1 : List Ob} {nid : Nat} {o : Ob} {u : U} {ys : List (List U)} (hn : newOb st nid o = some st1) (he : elems st u = some ys) : elems st1 u = some ys := by
  cases u <;> simp only [elems, reduceCtorEq] at he ⊢ <;> (try exact he)
  case own id n =>
    have key : ∀ x, st[id]? = some x → x.real = true → st1[id]? = some x := by
      intro x hx hr
      unfold newOb at hn
      split at hn
      · rename_i hh
        cases hn
        rw [List.getElem?_set_ne]
        · exact hx
        · rintro rfl; rw [hh] at hx; cases hx; cases hr
      · split at hn
        · cases hn
          rw [List.getElem?_append_left (List.getElem?_eq_some_iff.1 hx).1]
          exact hx
        · cases hn
      · cases hn
    unfold rowAt at he ⊢
    split at he
    · rename_i hid; rw [key _ hid rfl]; exact he
    · rename_i hid; rw [key _ hid rfl]; exact he
    · cases he
theorem append_nil_ok (h : SR E g st) {t ty el : TypeId} {i : TypeInfo} {z : Value} {keep : Bool} {x : U} {v w : Value} {ys : List (List U)} {st1 : List Ob} (hu : E.elem t = some el) (hi : E.info el = some i) (hz : i.zero = some z) (hzs : z.cells.size = i.size) (hpos : 0 < i.size) (hb0 : 0 < i.bytes)
    (hv : VR E g .nils v) (hx : VR E g x w) (hy : elems st x = some ys) (hes : ys.all (fun y => y.length == i.size) = true) (hn : newOb st nid (.row el i.size keep []) = some st1) (hr : appTo st1 nid 0 el i.size i.bytes ys = some (u, st')) : RunOK E g st (Builtin.append_ #[t, t] ty #[v, w]) u st' := by
  obtain ⟨g1, s1, r1, w1, v1⟩ := new_nil h hn hpos
  simp only [VR] at hv
  subst hv
  obtain ⟨v', g2, hrun, hs, hS, hv'⟩ := append_ok (keep := keep) (ty := ty) r1 hu hi hz hzs hpos hb0 v1 (VR.ext s1.toExt _ _ hx) (elems_new hn hy) hes rfl hr
  exact ⟨v', g2, by rw [← w1]; exact hrun, s1.trans hs, hS, hv'⟩
theorem appRowZ_ok (h : SR E g st) {t t' ty el : TypeId} {i : TypeInfo} {z : Value} {k' : IntKind} {id n m : Nat} {ys : List (List U)} {v : Value} (hel : E.P.underlying t = some (.slice el)) (hu' : E.P.underlying t' = some (.int k')) (hi : E.P.info? el = some i) (hz : i.zero = some z) (hzs : z.cells.size = i.size) (hone : One z.cells.toList) (hpos : 0 < i.size) (hb0 : 0 < i.bytes)
    (hv : VR E g (.own id n) v) (hs : appRow st id n el i.size i.bytes ys = some st') (hm : ys.length = m) (h0 : 0 < m) (hes : ∀ y ∈ ys, y.length = i.size) (hc : ∀ tag es xs, st[id]? = some (.row tag es false xs) → Closs true ys)
    (hys : VRss E g ys (Builtin.zeroCells z.cells m).toList) : RunOK E g st (Builtin.append_ #[t, t'] ty #[v, .int .i64 m]) (.own id (n + m)) st' := by
  subst hm
  have hv0 := hv
  simp only [VR] at hv
  obtain ⟨_, hd, hle, hv⟩ := hv
  unfold appRow at hs
  split at hs
  · rename_i tag' es' keep xs hid
    split at hs
    · rename_i hcond
      obtain ⟨hn, rfl, rfl, hlim⟩ := hcond
      cases hs
      obtain ⟨ws, hown, h1, hvs, hes', hlen, hge, hck, _⟩ := h.ob id _ hid
      have e1 := hv (by rw [hlen, hn])
      subst e1
      rw [hn] at hown
      have hm1 : n + ys.length ≤ maxLen := by
        have := Nat.le_mul_of_pos_right (n + ys.length) hb0
        simp [maxLen]; omega
      have h2 := zeroCells_one hone ys.length (by omega)
      obtain ⟨v', w', hrun, hown', hg, hat⟩ := runZ_own g.w t t' ty tag' i z hel hu' hi hz hzs hone hpos hb0 (g.vr id) n ws hown ys.length h0 hm1 hlim
      have hblk : blk g id (.row tag' i.size keep xs) = (g.vr id).ownBlock := rfl
      obtain ⟨s, r⟩ := h.put hid rfl (w' := w') (by rw [hblk]; exact hg) v' (n + ys.length) (.row tag' i.size keep (xs ++ ys)) rfl (by rw [hlen, hn]; omega) (fun e => by rw [hlen, hn] at e; omega)
        (fun hx => ⟨ws ++ (Builtin.zeroCells z.cells ys.length).toList, by simp only [G.put, upd_same, List.length_append, hn]; exact hown', by
            intro x hx
            rcases List.mem_append.1 hx with hx | hx
            · exact h1 x hx
            · exact h2 x hx, by
            rw [VRss_flat, List.flatten_append]
            exact (VRs.ext hx _ _ (VRss_flat.1 hvs)).append (VRs.ext hx _ _ (VRss_flat.1 hys)), by
            intro x hx
            rcases List.mem_append.1 hx with hx | hx
            · exact hes' x hx
            · exact hes x hx, by simp only [G.put, upd_same, List.length_append, hn], by simp only [G.put]; exact hge, by
            rintro rfl
            rw [Closs_iff]
            intro x hx
            rcases List.mem_append.1 hx with hx | hx
            · exact Closs_iff.1 (hck rfl) x hx
            · exact Closs_iff.1 (hc _ _ _ hid) x hx, hpos⟩)
        (fun cc hcc => by
          simp only [blk, G.put, upd_same] at hcc
          rcases hat with hat | hat
          · exact .inl (by rw [hblk, ← hat]; exact hcc)
          · rw [hat] at hcc; cases hcc
            refine .inr ⟨Nat.le_refl _, ?_⟩
            have := own_lt' hown' hat
            exact this)
      exact ⟨v', _, hrun, s, r, by
        simp only [VR, G.put, upd_same]
        refine ⟨?_, hd, by simp, by simp⟩
        rcases hown'.2 with ⟨rfl, _⟩ | ⟨_, _, _, rfl, _⟩
        · exact ⟨_, _, _, rfl⟩
        · exact ⟨_, _, _, rfl⟩⟩
    · cases hs
  · cases hs
theorem appendZ_ok (h : SR E g st) {t t' ty el : TypeId} {i : TypeInfo} {z : Value} {k' : IntKind} {zu : List U} {s : U} {v : Value} {m : Nat} (hu : E.elem t = some el) (hu' : E.P.underlying t' = some (.int k')) (hi : E.info el = some i) (hz : i.zero = some z) (hzs : z.cells.size = i.size) (hpos : 0 < i.size) (hb0 : 0 < i.bytes) (hzu : E.zero el = some zu) (hzl : zu.length = i.size)
    (hv : VR E g s v) (h0 : 0 < m) {id n : Nat} (hs : s = .own id n) (hr : appTo st id n el i.size i.bytes (List.replicate m zu) = some (u, st')) : RunOK E g st (Builtin.append_ #[t, t'] ty #[v, .int .i64 m]) u st' := by
  have hel : E.P.underlying t = some (.slice el) := by
    unfold En.elem at hu
    split at hu
    · rename_i hu'; cases hu; exact hu'
    · cases hu
  obtain ⟨zv, hz1, hz2, hz3⟩ := En.zero_run hzu g.w
  have hzv : zv = z := by
    have hi' : E.P.info? el = some i := hi
    simp [zeroValue, typeInfo, hi', hz] at hz1
    exact hz1.symm
  subst hzv
  have hes' : ∀ y ∈ List.replicate m zu, y.length = i.size := fun y hy => by rw [List.eq_of_mem_replicate hy]; exact hzl
  have hmade : ∀ g, VRss E g (List.replicate m zu) (Builtin.zeroCells zv.cells m).toList := fun g => by
    rw [VRss_flat]
    have := (made_ok (hz3 g) hz2 (by omega) m zv.cells.size (by rw [hzs]; exact hzl)).1
    exact this
  subst hs
  unfold appTo at hr
  split at hr
  · rename_i hid
    simp only [Option.bind_eq_some_iff, Option.some.injEq, Prod.mk.injEq] at hr
    obtain ⟨st1, h1, rfl, rfl⟩ := hr
    rw [List.length_replicate]
    exact appRowZ_ok h hel hu' hi hz hzs hz2 hpos hb0 hv h1 (List.length_replicate ..) h0 hes' (fun tag es xs e => by rw [hid] at e; simp at e) (hmade g)
  · rename_i hid
    simp only [Option.bind_eq_some_iff, Option.some.injEq, Prod.mk.injEq] at hr
    obtain ⟨⟨ys', st1⟩, h1, st2, h2, rfl, rfl⟩ := hr
    have hl := accM_length _ _ st ys' st1 h1
    rw [List.length_replicate] at hl
    have hlen := accM_rows_len _ st ys' st1 h1 hes'
    obtain ⟨g1, s1, r1, v1, c1, w1, _⟩ := ((frz_ok (E := E) frzD).list).rows g st _ _ ys' st1 h (hmade g) h1
    obtain ⟨v', g2, hr, hs, hS, hv'⟩ := appRowZ_ok (ty := ty) r1 hel hu' hi hz hzs hz2 hpos hb0 (VR.ext s1.toExt _ _ hv) h2 hl h0 hlen (fun _ _ _ _ => c1) v1
    rw [hl]
    exact ⟨v', g2, by rw [← w1]; exact hr, s1.trans hs, hS, hv'⟩
  · cases hr
theorem appendZ_nil_ok (h : SR E g st) {t t' ty el : TypeId} {i : TypeInfo} {z : Value} {k' : IntKind} {keep : Bool} {zu : List U} {v : Value} {m : Nat} {st1 : List Ob} (hu : E.elem t = some el) (hu' : E.P.underlying t' = some (.int k')) (hi : E.info el = some i) (hz : i.zero = some z) (hzs : z.cells.size = i.size) (hpos : 0 < i.size) (hb0 : 0 < i.bytes) (hzu : E.zero el = some zu) (hzl : zu.length = i.size)
    (hv : VR E g .nils v) (h0 : 0 < m) (hn : newOb st nid (.row el i.size keep []) = some st1) (hr : appTo st1 nid 0 el i.size i.bytes (List.replicate m zu) = some (u, st')) : RunOK E g st (Builtin.append_ #[t, t'] ty #[v, .int .i64 m]) u st' := by
  obtain ⟨g1, s1, r1, w1, v1⟩ := new_nil h hn hpos
  simp only [VR] at hv
  subst hv
  obtain ⟨v', g2, hrun, hs, hS, hv'⟩ := appendZ_ok (ty := ty) r1 hu hu' hi hz hzs hpos hb0 hzu hzl v1 h0 rfl hr
  exact ⟨v', g2, by rw [← w1]; exact hrun, s1.trans hs, hS, hv'⟩
end
section
variable {E : En} {call : Nat → List U → List Ob → Option (U × List Ob)} {g : G} {st st' : List Ob} {e : Env} {a : Act} {u : U} {nid : Nat} {K : Act → World → Prop} {Q : Exit → Act → World → Prop} {o : Oper}
theorem elem_under {t el : TypeId} (hu : E.elem t = some el) : E.P.underlying t = some (.slice el) := by
  unfold En.elem at hu
  split at hu
  · rename_i hu'; cases hu; exact hu'
  · cases hu
theorem bind_pair {α : Type} {x : Option α} {f : α → U} {st : List Ob} {r : U × List Ob} (h : (x.bind fun c => some (f c, st)) = some r) : ∃ c, x = some c ∧ r = (f c, st) := by
  simp only [Option.bind_eq_some_iff, Option.some.injEq] at h
  obtain ⟨c, h1, h2⟩ := h
  exact ⟨c, h1, h2.symm⟩
set_option maxHeartbeats 1000000 in
theorem ev1_ok (hc : CallOK E call) {h : Hint} {i : I} (hcomp : comp E h o = some i) (hG : GlobOK E g) (hS : SR E g st) (hE : EnvR E g e a) (hev : ev1 call e st nid i = some (u, st')) (hK : KOK E g st a o.dst u st' K) : o.wp E.P a g.w K Q := by
  have A1 : ∀ {x : Operand} {y : A}, E.opA x = some y → VR E g (y.ev e) (a.eval x) := fun h => opA_ok hG hE h
  obtain ⟨dst, op, ty, pos, after, guard⟩ := o
  have movOK : ∀ {x : Operand} (h1 : h.own.isNone = true ∨ x ≠ .const (.slice none 0 0) ∨ True) {y : A}, E.opA x = some y → ev1 call e st nid (.mov y) = some (u, st') → RunOK E g st (pure (a.eval x)) u st' := by
    intro x _ y hx hev
    simp only [ev1, Option.some.injEq, Prod.mk.injEq] at hev
    obtain ⟨rfl, rfl⟩ := hev
    exact RunOK.same hS rfl (A1 hx)
  have mvOK : ∀ {x : Operand} {i : I}, (match h.own, x with
      | some (tag, es, keep), .const (.slice none 0 0) => if 0 < es then some (I.ownnil tag es keep) else none
      | _, _ => (E.opA x).map .mov) = some i → ev1 call e st nid i = some (u, st') → RunOK E g st (pure (a.eval x)) u st' := by
    intro x i hcomp hev
    split at hcomp
    · split at hcomp
      · rename_i hpos
        cases hcomp
        simp only [ev1] at hev
        obtain ⟨st1, h1, h2⟩ := (Option.bind_eq_some_iff.1 hev)
        simp only [Option.some.injEq, Prod.mk.injEq] at h2
        obtain ⟨rfl, rfl⟩ := h2
        obtain ⟨g', s, r, hw, hv⟩ := new_nil hS h1 hpos
        exact ⟨_, g', by rw [hw]; rfl, s, r, hv⟩
      · cases hcomp
    · simp only [Option.map_eq_some_iff] at hcomp
      obtain ⟨y, hy, rfl⟩ := hcomp
      exact movOK (.inr (.inr trivial)) hy hev
  cases op
  case move x =>
    simp only [comp] at hcomp
    exact (mvOK hcomp hev).wp rfl hK
  case assign x =>
    simp only [comp] at hcomp
    exact (mvOK hcomp hev).wp rfl hK
  case pick c x y =>
    simp only [comp, Option.bind_eq_some_iff, Option.map_eq_some_iff] at hcomp
    obtain ⟨c', hc', x', hx, y', hy, rfl⟩ := hcomp
    simp only [ev1] at hev
    split at hev
    · rename_i b hb
      simp only [Option.some.injEq, Prod.mk.injEq] at hev
      obtain ⟨rfl, rfl⟩ := hev
      have h1 := A1 hc'
      rw [hb] at h1
      simp only [VR] at h1
      have : RunOK E g st (do pure (if ← asBool (a.eval c) then a.eval x else a.eval y)) (if b then x'.ev e else y'.ev e) st := by
        refine RunOK.same (v := if b then a.eval x else a.eval y) hS ?_ ?_
        · rw [h1]; simp [asBool]
        · cases b
          · exact A1 hy
          · exact A1 hx
      exact this.wp (by simp [execOp]) hK
    · cases hev
  case alloc t =>
    simp only [comp, Option.bind_eq_some_iff] at hcomp
    obtain ⟨z, hz, hcomp⟩ := hcomp
    split at hcomp
    · cases hcomp
      simp only [ev1, Option.bind_eq_some_iff, Option.some.injEq, Prod.mk.injEq] at hev
      obtain ⟨st1, h1, rfl, rfl⟩ := hev
      exact (alloc_ok hS hz h1).wp rfl hK
    · split at hcomp
      · rename_i hos
        cases hcomp
        simp only [ev1, Option.bind_eq_some_iff, Option.some.injEq, Prod.mk.injEq] at hev
        obtain ⟨⟨z', st1, nid'⟩, h1, st2, h2, rfl, rfl⟩ := hev
        exact (allocOwn_ok hS hz h1 h2 hos).wp rfl hK
      · cases hcomp
  case box t x =>
    simp only [comp, Option.map_eq_some_iff] at hcomp
    obtain ⟨x', hx, rfl⟩ := hcomp
    simp only [ev1, Option.bind_eq_some_iff, Option.some.injEq, Prod.mk.injEq] at hev
    obtain ⟨cs, h1, st1, h2, rfl, rfl⟩ := hev
    exact (box_ok hS (A1 hx) h1 h2).wp rfl hK
  case build t ps =>
    simp only [comp, Option.bind_eq_some_iff] at hcomp
    obtain ⟨z, hz, hcomp⟩ := hcomp
    split at hcomp
    · rename_i fs hu
      split at hcomp
      · rename_i hall
        simp only [Option.map_eq_some_iff] at hcomp
        obtain ⟨qs, hq, rfl⟩ := hcomp
        simp only [ev1] at hev
        obtain ⟨cs, h1, h2⟩ := bind_pair hev
        cases h2
        exact (build_struct hS hG hE hz hu hall hq h1).wp (by simp only [execOp]; rw [pairs_eq]) hK
      · cases hcomp
    · rename_i hu
      simp only [Option.bind_eq_some_iff, Option.map_eq_some_iff] at hcomp
      obtain ⟨s, hs, qs, hq, rfl⟩ := hcomp
      simp only [ev1] at hev
      obtain ⟨cs, h1, h2⟩ := bind_pair hev
      cases h2
      exact (build_array hS hG hE hz hu hs hq h1).wp (by simp only [execOp]; rw [pairs_eq]) hK
    · cases hcomp
  case buildSlice t n ps =>
    simp only [comp, Option.bind_eq_some_iff] at hcomp
    obtain ⟨el, hel, s, hs, z, hz, hcomp⟩ := hcomp
    split at hcomp
    · rename_i hcond
      simp only [Option.map_eq_some_iff] at hcomp
      obtain ⟨qs, hq, rfl⟩ := hcomp
      simp only [ev1, Option.bind_eq_some_iff] at hev
      obtain ⟨xs, h1, h2⟩ := hev
      exact (lit_ok hS hG hE hel hs hz hcond.1 hcond.2.1 hcond.2.2 hq h1 h2).wp (by simp only [execOp]; rw [pairs_eq]) hK
    · cases hcomp
  case load t x =>
    simp only [comp, Option.bind_eq_some_iff, Option.map_eq_some_iff] at hcomp
    obtain ⟨b, hb, n, hn, x', hx, rfl⟩ := hcomp
    simp only [ev1, Option.bind_eq_some_iff, Option.some.injEq, Prod.mk.injEq] at hev
    obtain ⟨cs, h1, r, h2, rfl, rfl⟩ := hev
    exact (load_ok hS hb hn (A1 hx) h1 h2).wp rfl hK
  case store t x y =>
    simp only [comp, Option.bind_eq_some_iff, Option.map_eq_some_iff] at hcomp
    obtain ⟨n, hn, x', hx, y', hy, hi⟩ := hcomp
    split at hi
    · subst hi
      simp only [ev1, Option.bind_eq_some_iff] at hev
      obtain ⟨us, h1, h2⟩ := hev
      split at h2
      · rename_i hl
        simp only [Option.bind_eq_some_iff, Option.some.injEq, Prod.mk.injEq] at h2
        obtain ⟨st1, h2, rfl, rfl⟩ := h2
        obtain ⟨g', hr, s, r⟩ := store_ok hS hn (A1 hx) (A1 hy) h1 hl h2
        exact unit_wp hr s r rfl hK
      · cases h2
    · subst hi
      simp only [ev1, Option.bind_eq_some_iff] at hev
      obtain ⟨us, h1, h2⟩ := hev
      split at h2
      · rename_i hl
        simp only [Option.bind_eq_some_iff, Option.some.injEq, Prod.mk.injEq] at h2
        obtain ⟨⟨us', st1, nid'⟩, h3, st2, h2, rfl, rfl⟩ := h2
        obtain ⟨g', hr, s, r⟩ := storeOwn_ok hS hn (A1 hx) (A1 hy) h1 hl.1 hl.2.1 hl.2.2 h3 h2
        exact unit_wp hr s r rfl hK
      · cases h2
  case binOp bop t x y yt =>
    simp only [comp, Option.bind_eq_some_iff] at hcomp
    obtain ⟨x', hx, y', hy, hcomp⟩ := hcomp
    have plain : i = .bin bop x' y' → Oper.wp E.P ⟨dst, .binOp bop t x y yt, ty, pos, after, guard⟩ a g.w K Q := by
      rintro rfl
      simp only [ev1] at hev
      obtain ⟨r, h1, h2⟩ := bind_pair hev
      cases h2
      exact (bin_ok hS (A1 hx) (A1 hy) h1).wp rfl hK
    have eqs : ∀ neg : Bool, bop = (if neg then .neq else .eql) → (∀ k, E.P.underlying t ≠ some (.int k)) → E.P.underlying t ≠ some .string → (if 12 ≤ E.P.depth then (E.sh 12 t).map fun s => I.eq (bop == .neq) s x' y' else none) = some i → Oper.wp E.P ⟨dst, .binOp bop t x y yt, ty, pos, after, guard⟩ a g.w K Q := by
      intro neg hbop n1 n2 hc
      split at hc
      · rename_i hd
        simp only [Option.map_eq_some_iff] at hc
        obtain ⟨s, hs, rfl⟩ := hc
        have hneg : (bop == .neq) = neg := by cases neg <;> simp at hbop <;> subst hbop <;> rfl
        rw [hneg] at hev
        simp only [ev1] at hev
        obtain ⟨r, h1, h2⟩ := bind_pair hev
        cases h2
        subst hbop
        exact (eq_ok hS neg hs hd n1 n2 (A1 hx) (A1 hy) h1).wp rfl hK
      · cases hc
    split at hcomp
    · split at hcomp
      · cases hcomp; exact plain rfl
      · cases hcomp; exact plain rfl
      · exact eqs false rfl (by assumption) (by assumption) hcomp
    · split at hcomp
      · cases hcomp; exact plain rfl
      · cases hcomp; exact plain rfl
      · exact eqs true rfl (by assumption) (by assumption) hcomp
    · cases hcomp; exact plain rfl
  case unOp uop t x =>
    simp only [comp, Option.map_eq_some_iff] at hcomp
    obtain ⟨x', hx, rfl⟩ := hcomp
    simp only [ev1] at hev
    obtain ⟨r, h1, h2⟩ := bind_pair hev
    cases h2
    exact (un_ok hS (A1 hx) h1).wp rfl hK
  case convert s d x =>
    simp only [comp, Option.bind_eq_some_iff] at hcomp
    obtain ⟨x', hx, hcomp⟩ := hcomp
    split at hcomp
    · rename_i h1 h2
      cases hcomp
      simp only [ev1] at hev
      split at hev
      · rename_i k' n hn
        simp only [Option.some.injEq, Prod.mk.injEq] at hev
        obtain ⟨rfl, rfl⟩ := hev
        exact (convI_ok hS h1 h2 (by have := A1 hx; rw [hn] at this; exact this)).wp rfl hK
      · cases hev
    · rename_i h1 h2
      cases hcomp
      simp only [ev1] at hev
      split at hev
      · rename_i n hn
        simp only [Option.some.injEq, Prod.mk.injEq] at hev
        obtain ⟨rfl, rfl⟩ := hev
        exact (convS_ok hS h1 h2 (by have := A1 hx; rw [hn] at this; exact this)).wp rfl hK
      · cases hev
    · rename_i el h1 h2
      split at hcomp
      · rename_i h3
        cases hcomp
        simp only [ev1, Option.bind_eq_some_iff, Option.some.injEq, Prod.mk.injEq] at hev
        obtain ⟨ys, hy, s', hb, rfl, rfl⟩ := hev
        exact (toStr_ok hS h1 h3 h2 (A1 hx) hy hb).wp rfl hK
      · cases hcomp
    · cases hcomp
  case makeInterface t x =>
    simp only [comp] at hcomp
    split at hcomp
    · rename_i hcc
      simp only [Option.map_eq_some_iff] at hcomp
      obtain ⟨x', hx, rfl⟩ := hcomp
      simp only [ev1, Option.some.injEq, Prod.mk.injEq] at hev
      obtain ⟨rfl, rfl⟩ := hev
      exact (iface_ok hS hcc (A1 hx)).wp rfl hK
    · cases hcomp
  case makeFunc fn first caps =>
    unfold comp at hcomp
    split at hcomp <;> first
      | cases hcomp; done
      | skip
    all_goals (rename_i heq; cases heq)
    rename_i f
    simp only [Option.map_eq_some_iff] at hcomp
    obtain ⟨xs, hx, rfl⟩ := hcomp
    simp only [ev1, Option.some.injEq, Prod.mk.injEq] at hev
    obtain ⟨rfl, rfl⟩ := hev
    refine RunOK.wp (u := .fn f (xs.map (·.ev e))) (RunOK.same (v := .func (.func f) #[] (caps.map a.eval)) hS ?_ ?_) rfl hK
    · simp [Instr.makeFunc]
    · simp only [VR]
      exact ⟨_, rfl, by have := opAs_ok hG hE hx; simpa using this⟩
  case makeMap t r =>
    cases r with
    | none =>
      simp only [comp, Option.some.injEq] at hcomp
      subst hcomp
      simp only [ev1, Option.bind_eq_some_iff, Option.some.injEq, Prod.mk.injEq] at hev
      obtain ⟨st1, h1, rfl, rfl⟩ := hev
      exact (mkmap_ok hS h1).wp rfl hK
    | some _ => simp [comp] at hcomp
  case makeSlice t l c =>
    simp only [comp, Option.bind_eq_some_iff] at hcomp
    obtain ⟨el, hel, inf, hi, z, hz, l', hl, c', hcc, hcomp⟩ := hcomp
    have done : ∀ {x : A} {k k' : IntKind} {n : Int}, 0 < inf.size ∧ 0 < inf.bytes ∧ z.length = inf.size → x.ev e = .int k n → a.eval l = .int k n → a.eval c = .int k' n → ev1 call e st nid (.mkslice el inf.size inf.bytes h.keep z x) = some (u, st') → Oper.wp E.P ⟨dst, .makeSlice t l c, ty, pos, after, guard⟩ a g.w K Q := by
      intro x k k' n hcond hx e1 e2 hev
      simp only [ev1, hx] at hev
      split at hev
      · rename_i hb
        simp only [Option.bind_eq_some_iff, Option.some.injEq, Prod.mk.injEq] at hev
        obtain ⟨⟨z', st1⟩, h1, st2, h2, rfl, rfl⟩ := hev
        have := mkslice_ok (k := k) (k' := k') hS hel hi hz hcond.1 hcond.2.2 h1 hb.1 hb.2 hcond.2.1 h2
        rw [← e1, ← e2] at this
        exact this.wp rfl hK
      · cases hev
    split at hcomp
    · rename_i ta tb
      split at hcomp
      · rename_i hcond
        cases hcomp
        obtain ⟨hab, hcond⟩ := hcond
        subst hab
        have e1 := opA_t hl
        have e2 := opA_t hcc
        subst e1; subst e2
        have h1 := A1 hl
        have h2 : ∃ k n, get e ta = .int k n := by
          simp only [ev1] at hev
          split at hev
          · exact ⟨_, _, by assumption⟩
          · cases hev
        obtain ⟨k, n, h2⟩ := h2
        simp only [A.ev, h2, VR] at h1
        exact done (x := .t ta) hcond h2 h1 h1 hev
      · cases hcomp
    · split at hcomp
      · rename_i hcond
        cases hcomp
        obtain ⟨rfl, hcond⟩ := hcond
        have h1 := A1 hl
        have h2 := A1 hcc
        simp only [A.ev, VR] at h1 h2
        exact done hcond rfl h1 h2 hev
      · cases hcomp
    · cases hcomp
  case slice t x lo hi mx =>
    simp only [comp, Option.bind_eq_some_iff] at hcomp
    obtain ⟨x', hx, lo', hlo, hi', hhi, mx', hmx, hcomp⟩ := hcomp
    have b1 := opO_ok hG hE hlo
    have b2 := opO_ok hG hE hhi
    have b3 := opO_ok hG hE hmx
    split at hcomp
    · rename_i el hu
      simp only [Option.bind_eq_some_iff] at hcomp
      obtain ⟨s, hs, hcomp⟩ := hcomp
      split at hcomp
      · cases hcomp
      · rename_i hmh
        cases hcomp
        have hmh' : mx ≠ none → hi ≠ none := by
          intro h1 h2
          subst h2
          cases mx with
          | none => exact h1 rfl
          | some m =>
            simp only [En.opO, Option.some.injEq] at hhi
            subst hhi
            simp only [En.opO, Option.map_eq_some_iff] at hmx
            obtain ⟨y, _, rfl⟩ := hmx
            simp at hmh
        have hxv := A1 hx
        simp only [ev1] at hev
        split at hev
        · rename_i p xs hxe
          rw [hxe] at hxv
          simp only [Option.bind_eq_some_iff] at hev
          obtain ⟨l, o1, hh, o2, m, o3, hev⟩ := hev
          split at hev
          · rename_i hcond
            obtain ⟨ys, hcut, hev⟩ := Option.bind_eq_some_iff.1 hev
            simp only [Option.some.injEq, Prod.mk.injEq] at hev
            obtain ⟨rfl, rfl⟩ := hev
            exact (slice_sl hS hu hs hxv hcond.2.2 b1 b2 b3 o1 o2 o3 hmh' hcond.1 hcond.2.1 hcut).wp rfl hK
          · cases hev
        · rename_i id n hxe
          rw [hxe] at hxv
          obtain ⟨⟨u1, st1⟩, hfrz, hev⟩ := Option.bind_eq_some_iff.1 hev
          simp only at hev
          split at hev
          · rename_i p xs
            simp only [Option.bind_eq_some_iff] at hev
            obtain ⟨l, o1, hh, o2, m, o3, hev⟩ := hev
            split at hev
            · rename_i hcond
              obtain ⟨ys, hcut, hev⟩ := Option.bind_eq_some_iff.1 hev
              simp only [Option.some.injEq, Prod.mk.injEq] at hev
              obtain ⟨rfl, rfl⟩ := hev
              obtain ⟨g1, s1, r1, v1, c1, w1, _⟩ := frz_ok (E := E) frzD g st (.own id n) _ _ st1 hS hxv hfrz
              have hE1 := EnvR.ext s1.toExt hE
              have hG1 := GlobOK.ext s1.toExt hG
              obtain ⟨v, g2, hr, s2, r2, v2⟩ := slice_sl r1 hu hs v1 hcond.2.2 (opO_ok hG1 hE1 hlo) (opO_ok hG1 hE1 hhi) (opO_ok hG1 hE1 hmx) o1 o2 o3 hmh' hcond.1 hcond.2.1 hcut
              rw [w1] at hr
              exact RunOK.wp ⟨v, g2, hr, s1.trans s2, r2, v2⟩ rfl hK
            · cases hev
          · cases hev
        · cases hev
    · rename_i hu
      split at hcomp
      · rename_i hmn
        cases hcomp
        cases mx with
        | some m =>
          simp only [En.opO, Option.map_eq_some_iff] at hmx
          obtain ⟨y, _, rfl⟩ := hmx
          simp at hmn
        | none =>
          have hxv := A1 hx
          simp only [ev1] at hev
          split at hev
          · rename_i s hxe
            rw [hxe] at hxv
            simp only [Option.bind_eq_some_iff, Option.some.injEq, Prod.mk.injEq] at hev
            obtain ⟨l, o1, hh, o2, r, hcut, rfl, rfl⟩ := hev
            exact (slice_str hS hu hxv b1 b2 o1 o2 hcut).wp rfl hK
          · cases hev
      · cases hcomp
    · rename_i n el hu
      simp only [Option.bind_eq_some_iff] at hcomp
      obtain ⟨s, hs, hcomp⟩ := hcomp
      split at hcomp
      · rename_i hmn
        cases hcomp
        cases mx with
        | some m =>
          simp only [En.opO, Option.map_eq_some_iff] at hmx
          obtain ⟨y, _, rfl⟩ := hmx
          simp at hmn
        | none =>
          have hxv := A1 hx
          simp only [ev1] at hev
          split at hev
          · rename_i id off hxe
            rw [hxe] at hxv
            simp only [Option.bind_eq_some_iff] at hev
            obtain ⟨l, o1, hh, o2, hev⟩ := hev
            split at hev
            · rename_i hcond
              cases hev
              exact (sliceA_ok hS hu hs hxv b1 b2 o1 o2 hcond.1 hcond.2.1 hcond.2.2.1 hcond.2.2.2).wp rfl hK
            · cases hev
          · cases hev
      · cases hcomp
    · cases hcomp
  case fieldAddr s x i =>
    simp only [comp] at hcomp
    split at hcomp
    · rename_i fs hu
      simp only [Option.bind_eq_some_iff] at hcomp
      obtain ⟨f, hf, z, hz, hcomp⟩ := hcomp
      split at hcomp
      · cases hcomp
      · rename_i hz0
        simp only [Option.map_eq_some_iff] at hcomp
        obtain ⟨x', hx, rfl⟩ := hcomp
        have : shift f.offset (x'.ev e) = some u ∧ st' = st := by
          simp only [ev1] at hev
          unfold shift
          split at hev <;> (try (cases hev; done)) <;> rename_i hxe <;> rw [hxe] <;> simp only [] <;> (try (cases hev; exact ⟨rfl, rfl⟩))
          split at hev
          · rename_i hlt; cases hev; simp [hlt]
          · cases hev
        obtain ⟨h1, rfl⟩ := this
        exact (faddr_ok hS hu hf hz hz0 (A1 hx) h1).wp rfl hK
    · cases hcomp
  case field t x i =>
    simp only [comp] at hcomp
    split at hcomp
    · rename_i fs hu
      simp only [Option.bind_eq_some_iff, Option.map_eq_some_iff] at hcomp
      obtain ⟨f, hf, z, hz, b, hb, x', hx, rfl⟩ := hcomp
      simp only [ev1] at hev
      split at hev
      · rename_i cs hxe
        simp only [Option.bind_eq_some_iff, Option.some.injEq, Prod.mk.injEq] at hev
        obtain ⟨ds, h1, r, h2, rfl, rfl⟩ := hev
        exact (fld_ok hS hu hf hz hb (by have := A1 hx; rw [hxe] at this; exact this) h1 h2).wp rfl hK
      · cases hev
    · cases hcomp
  case indexAddr t x i =>
    simp only [comp, Option.bind_eq_some_iff] at hcomp
    obtain ⟨x', hx, i', hi, hcomp⟩ := hcomp
    have hiv := A1 hi
    split at hcomp
    · rename_i el hu
      simp only [Option.bind_eq_some_iff] at hcomp
      obtain ⟨s, hs, hcomp⟩ := hcomp
      split at hcomp
      · cases hcomp
        simp only [ev1] at hev
        split at hev
        · rename_i q n hie
          rw [hie] at hiv
          simp only [VR] at hiv
          have hst : st' = st := by
            split at hev
            · simp only [Option.bind_eq_some_iff] at hev
              obtain ⟨_, _, _, _, hev⟩ := hev
              split at hev <;> cases hev; rfl
            · split at hev
              · split at hev
                · simp only [Option.bind_eq_some_iff] at hev
                  obtain ⟨_, _, hev⟩ := hev
                  cases hev; rfl
                · cases hev
              · split at hev
                · simp only [Option.bind_eq_some_iff] at hev
                  obtain ⟨_, _, _, _, hev⟩ := hev
                  split at hev <;> cases hev; rfl
                · cases hev
              · cases hev
            · split at hev
              · simp only [Option.bind_eq_some_iff] at hev
                obtain ⟨_, _, hev⟩ := hev
                cases hev; rfl
              · cases hev
            · cases hev
          subst hst
          have := iaddr_ok (q := q) (i := n) hS hu hs (A1 hx) hev
          rw [← hiv] at this
          exact this.wp rfl hK
        · cases hev
      · cases hcomp
    · rename_i n el hu
      simp only [Option.bind_eq_some_iff] at hcomp
      obtain ⟨s, hs, hcomp⟩ := hcomp
      cases hcomp
      simp only [ev1] at hev
      split at hev
      · rename_i q m hie
        rw [hie] at hiv
        simp only [VR] at hiv
        simp only [Option.bind_eq_some_iff] at hev
        obtain ⟨k, hk, hev⟩ := hev
        have : shift (k * s) (x'.ev e) = some u ∧ st' = st := by
          unfold shift
          split at hev <;> (try (cases hev; done)) <;> rename_i hxe <;> rw [hxe] <;> simp only [] <;> (try (cases hev; exact ⟨rfl, rfl⟩))
          split at hev
          · rename_i hlt; cases hev; simp [hlt]
          · cases hev
        obtain ⟨h1, rfl⟩ := this
        have := iaddrA_ok (q := q) hS hu hs hk (A1 hx) h1
        rw [← hiv] at this
        exact this.wp rfl hK
      · cases hev
    · cases hcomp
  case index t x i =>
    simp only [comp, Option.bind_eq_some_iff] at hcomp
    obtain ⟨x', hx, i', hi, hcomp⟩ := hcomp
    have hiv := A1 hi
    have hxv := A1 hx
    split at hcomp
    · rename_i n el hu
      simp only [Option.bind_eq_some_iff] at hcomp
      obtain ⟨s, hs, b, hb, hcomp⟩ := hcomp
      split at hcomp
      · rename_i hag
        cases hcomp
        simp only [ev1] at hev
        split at hev
        · rename_i q m cs hie hxe
          rw [hie] at hiv
          rw [hxe] at hxv
          simp only [VR] at hiv
          simp only [Option.bind_eq_some_iff, Option.some.injEq, Prod.mk.injEq] at hev
          obtain ⟨k, hk, ds, hd, r, hp, rfl, rfl⟩ := hev
          have := idxA_ok (q := q) hS hu hs hb hag hk hxv hd hp
          rw [← hiv] at this
          exact this.wp rfl hK
        · cases hev
      · cases hcomp
    · rename_i hu
      cases hcomp
      simp only [ev1] at hev
      split at hev
      · rename_i q m s hie hxe
        rw [hie] at hiv
        rw [hxe] at hxv
        simp only [VR] at hiv
        simp only [Option.bind_eq_some_iff, Option.some.injEq, Prod.mk.injEq] at hev
        obtain ⟨k, hk, b, hb, rfl, rfl⟩ := hev
        have := idxS_ok (q := q) hS hu hk hxv hb
        rw [← hiv] at this
        exact this.wp rfl hK
      · cases hev
    · cases hcomp
  case lookup t m k ok =>
    simp only [comp, Option.bind_eq_some_iff] at hcomp
    obtain ⟨m', hm, k', hk, hcomp⟩ := hcomp
    split at hcomp
    · rename_i kt et hu
      simp only [Option.bind_eq_some_iff] at hcomp
      obtain ⟨s, hs, hcomp⟩ := hcomp
      split at hcomp
      · simp only [Option.map_eq_some_iff] at hcomp
        obtain ⟨z, hz, rfl⟩ := hcomp
        simp only [ev1] at hev
        split at hev
        · rename_i id hme
          split at hev
          · rename_i es hid
            split at hev
            · rename_i hself
              simp only [Option.bind_eq_some_iff, Option.some.injEq, Prod.mk.injEq] at hev
              obtain ⟨r, hl, rfl, rfl⟩ := hev
              exact (lookup_ok hS hu hs hz (by have := A1 hm; rw [hme] at this; exact this) (A1 hk) hid hself hl).wp rfl hK
            · cases hev
          · cases hev
        · cases hev
      · cases hcomp
    · cases hcomp
  case mapUpdate t m k v =>
    simp only [comp, Option.bind_eq_some_iff] at hcomp
    obtain ⟨m', hm, k', hk, v', hv, hcomp⟩ := hcomp
    split at hcomp
    · rename_i kt et hu
      simp only [Option.bind_eq_some_iff] at hcomp
      obtain ⟨s, hs, hcomp⟩ := hcomp
      split at hcomp
      · rename_i hf
        cases hcomp
        simp only [ev1] at hev
        split at hev
        · rename_i id hme
          split at hev
          · rename_i es hid
            split at hev
            · rename_i hcl
              simp only [Bool.and_eq_true, beq_iff_eq] at hcl
              simp only [Option.bind_eq_some_iff, Option.some.injEq, Prod.mk.injEq] at hev
              obtain ⟨es', hl, rfl, rfl⟩ := hev
              obtain ⟨g', hr, s, r⟩ := mapset_ok hS hu hs hf (by have := A1 hm; rw [hme] at this; exact this) (A1 hk) (A1 hv) hid hcl.1.1 hcl.1.2 hcl.2 hl
              exact unit_wp hr s r rfl hK
            · cases hev
          · cases hev
        · cases hev
      · cases hcomp
    · cases hcomp
  case insert t m k v =>
    simp only [comp, Option.bind_eq_some_iff] at hcomp
    obtain ⟨m', hm, k', hk, v', hv, hcomp⟩ := hcomp
    split at hcomp
    · rename_i kt et hu
      simp only [Option.bind_eq_some_iff] at hcomp
      obtain ⟨s, hs, hcomp⟩ := hcomp
      split at hcomp
      · rename_i hf
        cases hcomp
        simp only [ev1] at hev
        split at hev
        · rename_i id hme
          split at hev
          · rename_i es hid
            split at hev
            · rename_i hcl
              simp only [Bool.and_eq_true, beq_iff_eq] at hcl
              simp only [Option.bind_eq_some_iff, Option.some.injEq, Prod.mk.injEq] at hev
              obtain ⟨es', hl, rfl, rfl⟩ := hev
              obtain ⟨g', hr, s, r⟩ := mapset_ok hS hu hs hf (by have := A1 hm; rw [hme] at this; exact this) (A1 hk) (A1 hv) hid hcl.1.1 hcl.1.2 hcl.2 hl
              exact unit_wp hr s r rfl hK
            · cases hev
          · cases hev
        · cases hev
      · cases hcomp
    · cases hcomp
  case typeAssert x xt t ok =>
    simp only [comp] at hcomp
    split at hcomp
    · cases hcomp
    · rename_i d hd hni
      simp only [Option.bind_eq_some_iff, Option.map_eq_some_iff] at hcomp
      obtain ⟨z, hz, x', hx, rfl⟩ := hcomp
      simp only [ev1] at hev
      have hst : st' = st := by
        split at hev
        · split at hev <;> cases hev; rfl
        · split at hev
          · cases hev; rfl
          · split at hev <;> cases hev; rfl
        · cases hev
      subst hst
      exact (assert_ok hS hni (fun ms e => hd ms e) hz (A1 hx) hev).wp rfl hK
    · cases hcomp
  case extract x i =>
    simp only [comp, Option.map_eq_some_iff] at hcomp
    obtain ⟨x', hx, rfl⟩ := hcomp
    simp only [ev1] at hev
    split at hev
    · rename_i vs hxe
      simp only [Option.bind_eq_some_iff, Option.some.injEq, Prod.mk.injEq] at hev
      obtain ⟨r, hr, rfl, rfl⟩ := hev
      exact (extract_ok hS (by have := A1 hx; rw [hxe] at this; exact this) hr).wp rfl hK
    · cases hev
  case range t x =>
    simp only [comp] at hcomp
    split at hcomp
    · rename_i hu
      simp only [Option.map_eq_some_iff] at hcomp
      obtain ⟨x', hx, rfl⟩ := hcomp
      simp only [ev1] at hev
      split at hev
      · rename_i s hxe
        simp only [Option.bind_eq_some_iff, Option.some.injEq, Prod.mk.injEq] at hev
        obtain ⟨st1, h1, rfl, rfl⟩ := hev
        exact (range_ok hS hu (by have := A1 hx; rw [hxe] at this; exact this) h1).wp rfl hK
      · cases hev
    · cases hcomp
  case next x b =>
    cases b with
    | false => simp [comp] at hcomp
    | true =>
      simp only [comp, Option.map_eq_some_iff] at hcomp
      obtain ⟨x', hx, rfl⟩ := hcomp
      simp only [ev1] at hev
      split at hev
      · rename_i id hxe
        split at hev
        · rename_i s pos hid
          have hn := next_ok (t := ty) hS (by have := A1 hx; rw [hxe] at this; exact this) hid
          split at hev
          · rename_i hpos
            rw [if_pos hpos] at hn
            simp only [Option.some.injEq, Prod.mk.injEq] at hev
            obtain ⟨rfl, rfl⟩ := hev
            exact hn.wp rfl hK
          · rename_i hpos
            rw [if_neg hpos] at hn
            simp only [Option.some.injEq, Prod.mk.injEq] at hev
            obtain ⟨rfl, rfl⟩ := hev
            exact hn.wp rfl hK
        · cases hev
      · cases hev
  case nilCheck x =>
    simp only [comp, Option.map_eq_some_iff] at hcomp
    obtain ⟨x', hx, rfl⟩ := hcomp
    have hxv := A1 hx
    simp only [ev1] at hev
    have fin : a.eval x ≠ .pointer none → a.eval x ≠ .nilIface → a.eval x ≠ .nilFunc → (∀ n f c, a.eval x ≠ .func (.method n) f c) → VR E g (x'.ev e) (a.eval x) → x'.ev e = u → st = st' → Oper.wp E.P ⟨dst, .nilCheck x, ty, pos, after, guard⟩ a g.w K Q := by
      intro h1 h2 h3 h4 hv hu hst
      subst hu
      subst hst
      refine (RunOK.same (s := pure (a.eval x)) (v := a.eval x) hS rfl hv).wp ?_ hK
      simp only [execOp]
      first
        | rfl
        | (split
           · rename_i h; exact absurd h h1
           · rename_i h; exact absurd h h2
           · rename_i h; exact absurd h h3
           · rename_i n f c h; exact absurd h (h4 n f c)
           · rfl)
    split at hev
    · rename_i id o hxe
      simp only [Option.some.injEq, Prod.mk.injEq] at hev
      have hv := hxv
      rw [hxe] at hv
      simp only [VR] at hv
      have hv := hv.2
      exact fin (by rw [hv]; simp) (by rw [hv]; simp) (by rw [hv]; simp) (by rw [hv]; simp) hxv (by rw [hxe, hev.1]) hev.2
    · rename_i id n i o hxe
      simp only [Option.some.injEq, Prod.mk.injEq] at hev
      have hv := hxv
      rw [hxe] at hv
      simp only [VR] at hv
      obtain ⟨b, o', hv, _⟩ := hv
      exact fin (by rw [hv]; simp) (by rw [hv]; simp) (by rw [hv]; simp) (by rw [hv]; simp) hxv (by rw [hxe, hev.1]) hev.2
    · rename_i cs hxe
      simp only [Option.some.injEq, Prod.mk.injEq] at hev
      have hv := hxv
      rw [hxe] at hv
      simp only [VR] at hv
      obtain ⟨_, b, o', vs, hv, _⟩ := hv
      exact fin (by rw [hv]; simp) (by rw [hv]; simp) (by rw [hv]; simp) (by rw [hv]; simp) hxv (by rw [hxe, hev.1]) hev.2
    · rename_i f cs hxe
      simp only [Option.some.injEq, Prod.mk.injEq] at hev
      have hv := hxv
      rw [hxe] at hv
      simp only [VR] at hv
      obtain ⟨xs, hv, _⟩ := hv
      exact fin (by rw [hv]; simp) (by rw [hv]; simp) (by rw [hv]; simp) (by rw [hv]; simp) hxv (by rw [hxe, hev.1]) hev.2
    · cases hev
  case call c =>
    have callee : ∀ {f : FuncId} {vs : List U} {ws : List Value}, VRs E g vs ws → (∀ w, (execOp a.eval (⟨dst, .call c, ty, pos, after, guard⟩ : Oper)).run E.P w = (callFunc f ws.toArray).run E.P w) → call f vs st = some (u, st') → Oper.wp E.P ⟨dst, .call c, ty, pos, after, guard⟩ a g.w K Q := by
      intro f vs ws hvs hrun hcall
      obtain ⟨h1, h2⟩ := hc f vs st u st' hcall g ws hS hG hvs
      exact calls_wp (fun w => by rw [hrun, h1]) h2 hK
    unfold comp at hcomp
    split at hcomp <;> (try (rename_i heq; cases heq; done)) <;> (try (cases hcomp; done))
    all_goals (rename_i heq; cases heq)
    · rename_i x t
      split at hcomp
      · rename_i hu
        cases hcomp
        simp only [ev1, Option.some.injEq, Prod.mk.injEq] at hev
        obtain ⟨rfl, rfl⟩ := hev
        exact (RunOK.same (v := .int .i64 _) hS (lenA_run (ty := ty) (v := a.eval x) (.inl ⟨_, hu⟩)) (by simp only [VR])).wp (by simp [execOp, resolve, invoke, builtin]) hK
      · rename_i b hu
        split at hcomp
        · rename_i hb
          cases hcomp
          simp only [ev1, Option.some.injEq, Prod.mk.injEq] at hev
          obtain ⟨rfl, rfl⟩ := hev
          exact (RunOK.same (v := .int .i64 _) hS (lenA_run (ty := ty) (v := a.eval x) (.inr ⟨_, _, hu, hb⟩)) (by simp only [VR])).wp (by simp [execOp, resolve, invoke, builtin]) hK
        · cases hcomp
      · rename_i el hu
        simp only [Option.map_eq_some_iff] at hcomp
        obtain ⟨x', hx, rfl⟩ := hcomp
        have hxv := A1 hx
        simp only [ev1] at hev
        obtain ⟨xs, h1, h2⟩ := Option.bind_eq_some_iff.1 hev
        simp only [Option.some.injEq, Prod.mk.injEq] at h2
        obtain ⟨rfl, rfl⟩ := h2
        exact (len0_ok (ty := ty) hS hu hxv h1).wp (by simp [execOp, resolve, invoke, builtin]) hK
      · rename_i hu
        simp only [Option.map_eq_some_iff] at hcomp
        obtain ⟨x', hx, rfl⟩ := hcomp
        have hxv := A1 hx
        simp only [ev1] at hev
        split at hev
        · omega
        · rename_i s hk hxe
          simp only [Option.some.injEq, Prod.mk.injEq] at hev
          obtain ⟨rfl, rfl⟩ := hev
          rw [hxe] at hxv
          exact (len1_ok (ty := ty) hS hu hxv).wp (by simp [execOp, resolve, invoke, builtin]) hK
        · omega
        · cases hev
      · rename_i hu
        simp only [Option.map_eq_some_iff] at hcomp
        obtain ⟨x', hx, rfl⟩ := hcomp
        have hxv := A1 hx
        simp only [ev1] at hev
        split at hev
        · rename_i id hk hxe
          split at hev
          · rename_i es hid
            simp only [Option.some.injEq, Prod.mk.injEq] at hev
            obtain ⟨rfl, rfl⟩ := hev
            rw [hxe] at hxv
            exact (len2_ok (ty := ty) hS hu hxv hid).wp (by simp [execOp, resolve, invoke, builtin]) hK
          · cases hev
        · omega
        · omega
        · cases hev
      · cases hcomp
    · rename_i y x t t'
      simp only [Option.bind_eq_some_iff] at hcomp
      obtain ⟨el, hel, inf, hi, hcomp⟩ := hcomp
      split at hcomp
      · rename_i z el' hz hu'
        split at hcomp
        · rename_i hcond
          obtain ⟨rfl, hpos, hb0, hzs⟩ := hcond
          simp only [Option.bind_eq_some_iff, Option.map_eq_some_iff] at hcomp
          obtain ⟨s', hs', x', hx', rfl⟩ := hcomp
          simp only [ev1, Option.bind_eq_some_iff] at hev
          obtain ⟨ys, hy, hev⟩ := hev
          split at hev
          · rename_i hall
            have hsv := A1 hs'
            split at hev
            · rename_i id n hse
              rw [hse] at hsv
              exact (append_ok (keep := true) (ty := ty) hS hel hi hz hzs hpos hb0 hsv (A1 hx') hy hall rfl hev).wp (by simp [execOp, resolve, invoke, builtin]) hK
            · rename_i hse
              rw [hse] at hsv
              obtain ⟨st1, hn, hev⟩ := Option.bind_eq_some_iff.1 hev
              exact (append_nil_ok (ty := ty) hS hel hi hz hzs hpos hb0 hsv (A1 hx') hy hall hn hev).wp (by simp [execOp, resolve, invoke, builtin]) hK
            · cases hev
          · cases hev
        · cases hcomp
      · rename_i z k' hz hu'
        split at hcomp
        · rename_i hcond
          obtain ⟨hpos, hb0, hzs⟩ := hcond
          simp only [Option.bind_eq_some_iff, Option.map_eq_some_iff] at hcomp
          obtain ⟨zu, hzu, s', hs', x', hx', rfl⟩ := hcomp
          simp only [ev1] at hev
          split at hev
          · rename_i m hxe
            split at hev
            · rename_i hm
              obtain ⟨hm0, _, hzl⟩ := hm
              obtain ⟨m, rfl⟩ := Int.eq_ofNat_of_zero_le (Int.le_of_lt hm0)
              have h0 : 0 < m := by omega
              rw [Int.toNat_natCast] at hev
              have hsv := A1 hs'
              have hxv := A1 hx'
              rw [hxe] at hxv
              simp only [VR] at hxv
              split at hev
              · rename_i id n hse
                rw [hse] at hsv
                exact (appendZ_ok (ty := ty) hS hel hu' hi hz hzs hpos hb0 hzu hzl hsv h0 rfl hev).wp (by simp [execOp, resolve, invoke, builtin, hxv]) hK
              · rename_i hse
                rw [hse] at hsv
                obtain ⟨st1, hn, hev⟩ := Option.bind_eq_some_iff.1 hev
                exact (appendZ_nil_ok (ty := ty) hS hel hu' hi hz hzs hpos hb0 hzu hzl hsv h0 hn hev).wp (by simp [execOp, resolve, invoke, builtin, hxv]) hK
              · cases hev
            · cases hev
          · cases hev
        · cases hcomp
      · cases hcomp
    · rename_i d x t t'
      simp only [Option.bind_eq_some_iff] at hcomp
      obtain ⟨el, hel, es, hes, hcomp⟩ := hcomp
      split at hcomp
      · split at hcomp
        · simp only [Option.bind_eq_some_iff, Option.map_eq_some_iff] at hcomp
          obtain ⟨d', hd', x', hx', rfl⟩ := hcomp
          simp only [ev1, Option.bind_eq_some_iff] at hev
          obtain ⟨ys, hy, hev⟩ := hev
          split at hev
          · rename_i id n hde
            have hdv := A1 hd'
            rw [hde] at hdv
            split at hev
            · simp only [Option.bind_eq_some_iff] at hev
              obtain ⟨⟨zs, st1⟩, hf, st2, hc, hev⟩ := hev
              cases hev
              exact (copy_ok (t' := t') (ty := ty) hS hel hes hdv (A1 hx') hy hf hc).wp (by simp [execOp, resolve, invoke, builtin]) hK
            · cases hev
          · cases hev
        · cases hcomp
      · cases hcomp
    · rename_i x y tys
      simp only [Option.bind_eq_some_iff, Option.map_eq_some_iff] at hcomp
      obtain ⟨x', hx, y', hy, rfl⟩ := hcomp
      have hxv := A1 hx
      have hyv := A1 hy
      simp only [ev1, List.map_cons, List.map_nil, Option.bind_eq_some_iff, Option.some.injEq, Prod.mk.injEq] at hev
      obtain ⟨r, hm, rfl, rfl⟩ := hev
      unfold mm at hm
      split at hm
      · rename_i k m k' n heq
        simp only [List.cons.injEq, and_true] at heq
        rw [heq.1] at hxv
        rw [heq.2] at hyv
        simp only [VR] at hxv hyv
        split at hm
        · rename_i hk
          subst hk
          simp only [if_true, Option.some.injEq] at hm
          subst hm
          exact (max_ok (ts := tys) (ty := ty) hS).wp (by simp [execOp, resolve, invoke, builtin, hxv, hyv]) hK
        · cases hm
      · cases hm
    · rename_i f args tys
      simp only [Option.map_eq_some_iff] at hcomp
      obtain ⟨xs, hx, rfl⟩ := hcomp
      simp only [ev1] at hev
      exact callee (opAs_ok hG hE hx) (fun w => by
        have : (args.toList.map a.eval).toArray = args.map a.eval := by rw [← Array.toList_map, Array.toArray_toList]
        rw [this]
        simp [execOp, resolve, invoke, Deferred.ofValue, Act.eval]) hev
    · rename_i f args tys
      simp only [Option.map_eq_some_iff] at hcomp
      obtain ⟨xs, hx, rfl⟩ := hcomp
      simp only [ev1] at hev
      split at hev
      · rename_i f' caps hfe
        have hf := hE f
        rw [show get e f = .fn f' caps from hfe] at hf
        simp only [VR] at hf
        obtain ⟨ws, hf, hws⟩ := hf
        refine callee ((opAs_ok hG hE hx).append hws) (fun w => ?_) hev
        have : a.eval (.tmp f) = .func (.func f') #[] ws := hf
        have h2 : (args.toList.map a.eval ++ ws.toList).toArray = args.map a.eval ++ ws := by rw [← Array.toList_map, ← Array.toList_append, Array.toArray_toList]
        rw [h2]
        simp [execOp, resolve, invoke, Deferred.ofValue, this]
      · cases hev
  all_goals (simp [comp] at hcomp; done)
end
end Go.Proofs.YtfmhnfimkpffnaaGreatDoor.M2
