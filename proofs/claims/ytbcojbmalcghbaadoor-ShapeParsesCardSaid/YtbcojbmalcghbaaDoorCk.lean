/- What the functions answer in M2: reading a node, from its words to it. -/
import Derived.Test.YtbcojbmalcghbaaDoorCj
import Derived.Test.YtbcojbmalcghbaaDoorCh
set_option linter.unusedSimpArgs false
set_option linter.unusedVariables false
set_option linter.unusedSectionVars false
namespace Go.Proofs.YtbcojbmalcghbaaDoor.M2
open Go
def isD (c : UInt8) : Bool := decide (48 ≤ c.toNat) && decide (c.toNat ≤ 57)
def pBad (low : Bool) (ds : List UInt8) : Prop := ds = [] ∨ 19 < ds.length ∨ (ds.head? = some 48 ∧ (1 < ds.length ∨ low = true))
instance (low : Bool) (ds : List UInt8) : Decidable (pBad low ds) := by unfold pBad; infer_instance
def pNat (low : Bool) (ds : List UInt8) : Option Int :=
  if pBad low ds then none else if ds.all isD then
    (if low then (if digN ds ≤ 9223372036854775808 then some (-(digN ds : Int)) else none) else if digN ds ≤ 9223372036854775807 then some (digN ds : Int) else none)
  else none
def pNum (s : List UInt8) : Option Int := if s.head? = some 45 then pNat true s.tail else pNat false s
theorem head_app {a : List UInt8} (h : a ≠ []) (b : List UInt8) : (a ++ b).head? = a.head? := by
  cases a with
  | nil => exact absurd rfl h
  | cons c a => rfl
theorem digN_snoc (l : List UInt8) (c : UInt8) : digN (l ++ [c]) = digN l * 10 + (c.toNat - 48) := by simp [digN]
theorem byt_back {c : UInt8} (h : isD c = true) : byt ((c.toNat - 48) % 10) = c := by
  simp only [isD, Bool.and_eq_true, decide_eq_true_eq] at h
  apply UInt8.toNat_inj.1
  rw [byt_toNat (by omega)]
  omega
theorem canon : ∀ (r : List UInt8), r.reverse ≠ [] → r.reverse.all isD = true → (r.reverse.head? ≠ some 48 ∨ r.reverse.length ≤ 1) → dig (digN r.reverse) = r.reverse
  | [], h, _, _ => absurd rfl h
  | c :: r, _, ha, hh => by
    rw [List.reverse_cons] at ha hh ⊢
    rw [List.all_append, Bool.and_eq_true] at ha
    have hc : isD c = true := by simpa using ha.2
    have hc' := hc
    simp only [isD, Bool.and_eq_true, decide_eq_true_eq] at hc'
    rw [digN_snoc]
    by_cases hr : r.reverse = []
    · rw [hr]
      have : digN ([] : List UInt8) * 10 + (c.toNat - 48) = c.toNat - 48 := by simp [digN]
      rw [this, dig_small (by omega), byt_back hc]
      rfl
    · have hh' : r.reverse.head? ≠ some 48 := by
        rcases hh with hh | hh
        · rw [head_app hr] at hh
          exact hh
        · rw [List.length_append] at hh
          have : 0 < r.reverse.length := List.length_pos_iff.2 hr
          simp only [List.length_cons, List.length_nil] at hh
          omega
      have ih := canon r hr ha.1 (.inl hh')
      have hpos : 1 ≤ digN r.reverse := by
        rcases Nat.eq_zero_or_pos (digN r.reverse) with h | h
        · rw [h, dig_small (by omega)] at ih
          rw [← ih] at hh'
          exact absurd rfl hh'
        · exact h
      rw [dig_big (by omega)]
      have e1 : (digN r.reverse * 10 + (c.toNat - 48)) / 10 = digN r.reverse := by omega
      have e2 : (digN r.reverse * 10 + (c.toNat - 48)) % 10 = (c.toNat - 48) % 10 := by omega
      rw [e1, e2, ih, byt_back hc]
theorem canon' {ds : List UInt8} (h : ds ≠ []) (ha : ds.all isD = true) (hh : ds.head? ≠ some 48 ∨ ds.length ≤ 1) : dig (digN ds) = ds := by
  have := canon ds.reverse (by simpa using h) (by simpa using ha) (by simpa using hh)
  simpa using this
theorem dig_head {m : Nat} (h : 1 ≤ m) : (dig m).head? ≠ some 48 := by
  induction m using Nat.strongRecOn with
  | _ m ih =>
  by_cases h9 : m < 10
  · rw [dig_small h9]
    intro e
    injection e with e
    have := congrArg UInt8.toNat e
    rw [byt_toNat (by omega)] at this
    have h48 : (48 : UInt8).toNat = 48 := rfl
    omega
  · rw [dig_big h9, head_app (dig_ne _)]
    exact ih _ (by omega) (by omega)
theorem dig_all (m : Nat) : (dig m).all isD = true := by
  rw [List.all_eq_true]
  intro c hc
  have := dig_dgt m c hc
  unfold Dgt at this
  simp [isD, this]
theorem dig_19 {m : Nat} (h : m ≤ 9223372036854775808) : (dig m).length ≤ 19 := dig_len 18 m (by omega)
theorem dig_h45 (m : Nat) : (dig m).head? ≠ some 45 := fun h => by
  cases hd : dig m with
  | nil => exact dig_ne m hd
  | cons c r =>
    rw [hd] at h
    injection h with h
    subst h
    exact dig_45 m r hd
theorem pNum_text {n : Int} (h : rng n) : pNum (textF n) = some n := by
  obtain ⟨h1, h2⟩ := h
  unfold textF
  by_cases h0 : n < 0
  · rw [if_pos h0]
    unfold pNum
    rw [if_pos (show (45 :: dig n.natAbs).head? = some 45 from rfl)]
    have hb : ¬ pBad true (dig n.natAbs) := by
      unfold pBad
      have := dig_19 (m := n.natAbs) (by omega)
      have := dig_head (m := n.natAbs) (by omega)
      have := dig_ne n.natAbs
      simp only [List.tail_cons] at *
      rintro (h | h | ⟨h, _⟩)
      · contradiction
      · omega
      · contradiction
    show pNat true (dig n.natAbs) = _
    unfold pNat
    rw [if_neg hb, if_pos (dig_all _), if_pos rfl, val_dig, if_pos (by omega)]
    congr 1
    omega
  · rw [if_neg h0]
    unfold pNum
    rw [if_neg (dig_h45 _)]
    have hb : ¬ pBad false (dig n.natAbs) := by
      unfold pBad
      have := dig_19 (m := n.natAbs) (by omega)
      have := dig_ne n.natAbs
      rintro (h | h | ⟨h, k⟩)
      · contradiction
      · omega
      · rcases k with k | k
        · by_cases hz : 1 ≤ n.natAbs
          · exact dig_head hz h
          · rw [dig_small (by omega)] at k
            simp at k
        · cases k
    unfold pNat
    rw [if_neg hb, if_pos (dig_all _), if_neg (by decide), val_dig, if_pos (by omega)]
    congr 1
    omega
theorem pNum_some {s : List UInt8} {n : Int} (h : pNum s = some n) : rng n ∧ textF n = s := by
  unfold pNum at h
  split at h
  · rename_i hs
    cases s with
    | nil => cases hs
    | cons c ds =>
      injection hs with hs
      subst hs
      rw [List.tail_cons] at h
      unfold pNat at h
      split at h
      · cases h
      · rename_i hb
        unfold pBad at hb
        simp only [not_or, not_and, or_true, not_true_eq_false, imp_false] at hb
        split at h
        · rename_i ha
          rw [if_pos rfl] at h
          split at h
          · rename_i hm
            injection h with h
            have hc := canon' hb.1 ha (.inl hb.2.2)
            have hpos : 1 ≤ digN ds := by
              rcases Nat.eq_zero_or_pos (digN ds) with h | h
              · rw [h, dig_small (by omega)] at hc
                exact absurd (by rw [← hc]; rfl) hb.2.2
              · exact h
            refine ⟨⟨by omega, by omega⟩, ?_⟩
            unfold textF
            rw [if_pos (by omega), show n.natAbs = digN ds by omega, hc]
          · cases h
        · cases h
  · rename_i hs
    unfold pNat at h
    split at h
    · cases h
    · rename_i hb
      unfold pBad at hb
      simp only [not_or, not_and, Bool.false_eq_true, or_false] at hb
      split at h
      · rename_i ha
        rw [if_neg (by decide)] at h
        split at h
        · rename_i hm
          injection h with h
          have hc := canon' hb.1 ha (by
            by_cases k : s.head? = some 48
            · exact .inr (by have := hb.2.2 k; omega)
            · exact .inl k)
          refine ⟨⟨by omega, by omega⟩, ?_⟩
          unfold textF
          rw [if_neg (by omega), show n.natAbs = digN s by omega, hc]
        · cases h
      · cases h
def rdTo (w : List UInt8) : Int := if w = [45] then -1 else match pNum w with
  | some n => if n < 0 ∨ 20000 < n then -2 else n
  | none => -2
theorem rdTo_to {n : Int} (h1 : -1 ≤ n) (h2 : n ≤ 20000) : rdTo (toF n) = n := by
  unfold rdTo toF
  by_cases h0 : n < 0
  · rw [if_pos h0, if_pos rfl]
    omega
  · rw [if_neg h0, if_neg, pNum_text ⟨by omega, by omega⟩]
    · simp only
      rw [if_neg (by omega)]
    · unfold textF
      rw [if_neg h0]
      exact dig_45 _ _
theorem rdTo_some {w : List UInt8} (h : -1 ≤ rdTo w) : toF (rdTo w) = w ∧ rng (rdTo w) := by
  unfold rdTo at h ⊢
  by_cases h0 : w = [45]
  · rw [if_pos h0, h0]
    exact ⟨rfl, by decide, by decide⟩
  · rw [if_neg h0] at h ⊢
    cases hp : pNum w with
    | none => rw [hp] at h; simp at h
    | some n =>
      rw [hp] at h
      simp only at h ⊢
      split at h
      · omega
      · rename_i k
        rw [if_neg k]
        obtain ⟨k1, k2⟩ := pNum_some hp
        refine ⟨?_, k1⟩
        unfold toF
        rw [if_neg (by omega), k2]
def rdSrc (w : List UInt8) : Int × Int := if w = [110, 111, 110, 101] then (0, 0) else if w = [100, 101, 102] then (3, 0) else match w with
  | [] => (-1, 0)
  | c :: r => match pNum r with
    | none => (-1, 0)
    | some n => if c = 114 then (1, n) else if c = 35 then (2, n) else if c = 118 then (4, n) else (-1, 0)
theorem rdSrc_src {s : Int × Int} (h : SrcK s) (hr : rng s.2) : rdSrc (srcF s) = s := by
  obtain ⟨a, b⟩ := s
  obtain ⟨s1, s2, s3⟩ := h
  simp only at s1 s2 s3 hr
  have ha : a = 0 ∨ a = 1 ∨ a = 2 ∨ a = 3 ∨ a = 4 := by omega
  rcases ha with rfl | rfl | rfl | rfl | rfl
  · rw [s3 (.inl rfl)]; rfl
  · simp [srcF, rdSrc, pNum_text hr]
  · simp [srcF, rdSrc, pNum_text hr]
  · rw [s3 (.inr rfl)]; rfl
  · simp [srcF, rdSrc, pNum_text hr]
theorem rdSrc_some {w : List UInt8} (h : (rdSrc w).1 ≠ -1) : srcF (rdSrc w) = w ∧ SrcR (rdSrc w) := by
  unfold rdSrc at h ⊢
  split at h
  · rename_i e
    rw [if_pos e, e]
    exact ⟨rfl, ⟨by decide, by decide⟩, ⟨by decide, by decide⟩⟩
  · rename_i e
    rw [if_neg e]
    split at h
    · rename_i e2
      rw [if_pos e2, e2]
      exact ⟨rfl, ⟨by decide, by decide⟩, ⟨by decide, by decide⟩⟩
    · rename_i e2
      rw [if_neg e2]
      cases w with
      | nil => exact absurd rfl h
      | cons c r =>
        simp only at h ⊢
        cases hp : pNum r with
        | none => rw [hp] at h; exact absurd rfl h
        | some n =>
          obtain ⟨k1, k2⟩ := pNum_some hp
          rw [hp] at h
          simp only at h ⊢
          by_cases c1 : c = 114
          · rw [if_pos c1, c1]
            exact ⟨by simp [srcF, k2], (show rng 1 from ⟨by decide, by decide⟩), k1⟩
          · rw [if_neg c1] at h ⊢
            by_cases c2 : c = 35
            · rw [if_pos c2, c2]
              exact ⟨by simp [srcF, k2], (show rng 2 from ⟨by decide, by decide⟩), k1⟩
            · rw [if_neg c2] at h ⊢
              by_cases c3 : c = 118
              · rw [if_pos c3, c3]
                exact ⟨by simp [srcF, k2], (show rng 4 from ⟨by decide, by decide⟩), k1⟩
              · rw [if_neg c3] at h
                exact absurd rfl h
end Go.Proofs.YtbcojbmalcghbaaDoor.M2
namespace Go.Proofs.YtbcojbmalcghbaaDoor.M2
open Go
attribute [local simp] ev1 M2.get put A.ev ld sub part elems bin arith un opt idx fillC cellsO splice over newOb sto fillR laidOwn appTo appRow touch touchN touchM touchE touchA plainU flatU plainAs allM rowAt stoRow accM_nil accM_cons accMM_nil accMM_cons frz_int frz_bool frz_str frz_slt frz_nils frz_nilI frz_nilF frz_own frzRow_row frzRow_frow Ob.blw blw_bool blw_int blw_str blw_nils blw_nilI blw_nilF blw_nilp blw_nilm blw_sl blw_own blw_bp blw_rp blw_mp blw_it params
attribute [local simp] frz_agg frz_tup frz_iface frzS_agg frzS_iface accMS_cons frzS_int frzS_bool frzS_str frzS_slt frzS_nils frzS_nilI beq_dec bne_dec
theorem decode_asc (s : List UInt8) (k : Nat) (hk : k < s.length) (ha : s[k].toNat < 128) : Utf8.decode ⟨s.toArray⟩ k = (s[k].toNat, 1) := by
  have h : (ByteArray.mk s.toArray).get! (k + 0) = s[k] := by
    simp [ByteArray.get!, hk]
  unfold Utf8.decode
  simp only [h]
  rw [if_pos (by omega)]
theorem Wp.callv {T : Nat → Option F} {K R : S → Prop} {B : Nat → S → Prop} {d f : Nat} {x : A} {xs : List A} {caps : List U} {l : List O} {live : List Nat} {e : Env} {st st1 : List Ob} {u : U} (hx : x.ev e = .fn f caps) (h : Cl T f (xs.map (·.ev e) ++ caps) st u st1) (k : Wp T (.ops l live) ⟨(d, u) :: e, st1⟩ K R B) : Wp T (.ops (⟨some d, .callv x xs, none⟩ :: l) live) ⟨e, st⟩ K R B :=
  Wp.op (h.mono fun n h => by simp only [ev1, hx]; exact h) k
theorem decode_hi (s : List UInt8) (k : Nat) (hk : k < s.length) (ha : ¬ s[k].toNat < 128) : 57 < (Utf8.decode ⟨s.toArray⟩ k).1 := by
  have h : (ByteArray.mk s.toArray).get! (k + 0) = s[k] := by
    simp [ByteArray.get!, hk]
  unfold Utf8.decode
  simp only [h]
  rw [if_neg (by omega)]
  repeat' split
  all_goals simp only [Utf8.runeError] at *
  all_goals first | omega | (simp only [Bool.and_eq_true, decide_eq_true_eq, ge_iff_le] at *; omega)
def numU : Option Int → U
  | some n => .tup [i64 n, i64 0]
  | none => .tup [i64 0, i64 2]
theorem digN_lt : ∀ (r : List UInt8), r.reverse.all isD = true → digN r.reverse < 10 ^ r.length
  | [], _ => by simp [digN]
  | c :: r, h => by
    rw [List.reverse_cons] at h ⊢
    rw [List.all_append, Bool.and_eq_true] at h
    have hc : isD c = true := by simpa using h.2
    simp only [isD, Bool.and_eq_true, decide_eq_true_eq] at hc
    have ih := digN_lt r h.1
    rw [digN_snoc, List.length_cons, Nat.pow_succ]
    omega
theorem digN_19 {l : List UInt8} (h : l.all isD = true) (hl : l.length ≤ 19) : digN l < 10000000000000000000 := by
  have := digN_lt l.reverse (by simpa using h)
  rw [List.reverse_reverse, List.length_reverse] at this
  have h2 : 10 ^ l.length ≤ 10 ^ 19 := Nat.pow_le_pow_right (by omega) hl
  omega
def np0S (low : Bool) (ds : List UInt8) (k : Nat) : S := ⟨[(5, .bool low), (6, .int .u64 (digN (ds.take k))), (43, .it 0)], [.iter ds k]⟩
set_option maxHeartbeats 8000000 in
theorem np0_loop (low : Bool) (ds : List UInt8) (hl : ds.length ≤ 19) (r : Option Int) (hr : ds.all isD = false → r = none) :
    Wp T (.loop c_num_Parse_L0) (np0S low ds 0) (fun _ => False) (Res c_num_Parse (numU r))
      (fun b s' => b = 0 ∧ ds.all isD = true ∧ s' = ⟨[(5, .bool low), (6, .int .u64 (digN ds)), (43, .it 0), (44, .tup [.bool false]), (45, .bool false)], [.iter ds ds.length]⟩) := by
  refine Wp.count ds.length (fun k => np0S low ds k) (fun k => (ds.take k).all isD = true) (fun k hk hI => ?_) (fun hI => ?_) 0 (by omega) rfl
  · have hne : isD ds[k] = false → r = none := fun h => hr (List.all_eq_false.2 ⟨_, List.getElem_mem hk, by simp [h]⟩)
    have hnx : isD ds[k] = true → (ds.take (k + 1)).all isD = true := fun h => by
      rw [List.take_succ_eq_append_getElem hk, List.all_append, hI]
      simpa using h
    have hu := digN_19 hI (by rw [List.length_take]; omega)
    have hs : digN (ds.take (k + 1)) = digN (ds.take k) * 10 + (ds[k].toNat - 48) := by rw [List.take_succ_eq_append_getElem hk, digN_snoc]
    have hu2 : isD ds[k] = true → digN (ds.take (k + 1)) < 10000000000000000000 := fun h => digN_19 (hnx h) (by rw [List.length_take]; omega)
    have hdl := decode_asc ds k hk
    have hdh := decode_hi ds k hk
    simp only [np0S]
    rw [hs] at hu2
    by_cases hd : isD ds[k] = true
    · have hd' := hd
      simp only [isD, Bool.and_eq_true, decide_eq_true_eq] at hd'
      have hdc := hdl (by omega)
      have hu3 := hu2 hd
      rw [hs]
      generalize digN (ds.take k) = u at *
      generalize ds[k].toNat = c at *
      obtain ⟨d, rfl⟩ : ∃ d, c = 48 + d := ⟨c - 48, by omega⟩
      rw [show 48 + d - 48 = d by omega] at *
      have c1 : ¬ ((48 + d : Nat) : Int) < 48 := by omega
      have c2 : ¬ (57 : Int) < ((48 + d : Nat) : Int) := by omega
      have c1' : ¬ (48 + d) < 48 := by omega
      have c2' : ¬ 57 < (48 + d) := by omega
      have c3 : ¬ (57 : Int) < 48 + (d : Int) := by omega
      have c4 : ¬ (48 : Int) + (d : Int) < 48 := by omega
      have w1 : IntKind.wrap .u64 ((u : Int) * 10) = (u : Int) * 10 := wrap_u64 (by omega) (by omega)
      have w2 : IntKind.wrap .i32 (48 + (d : Int) - 48) = (d : Int) := by
        simp only [IntKind.wrap, IntKind.bits, IntKind.signed, Bool.true_and]
        simp
        omega
      have w3 : IntKind.wrap .u64 (d : Int) = (d : Int) := wrap_u64 (by omega) (by omega)
      have w4 : IntKind.wrap .u64 ((u : Int) * 10 + (d : Int)) = (u : Int) * 10 + (d : Int) := wrap_u64 (by omega) (by omega)
      (all_goals have := fa (a5 hk hdc @c1 @c2 (a5 c1' c2' c3 c4 (a4 w1 w2 w3 w4))); repeat' first | refine Wp.v ?_ | (refine Wp.c ?_ ?_ <;> intro))
      exact ⟨by simp [trimO, trim], hnx hd⟩
    · have hd2 : isD ds[k] = false := by simpa using hd
      rw [hne hd2]
      simp only [isD, Bool.and_eq_true, decide_eq_true_eq] at hd
      generalize digN (ds.take k) = u at *
      by_cases h128 : ds[k].toNat < 128
      · have hdc := hdl h128
        generalize ds[k].toNat = c at *
        by_cases k1 : (c : Int) < 48
        · (all_goals have := fa (a3 hk hdc k1); repeat' first | refine Wp.v ?_ | (refine Wp.c ?_ ?_ <;> intro))
          refine Wp.ret ?_; simp [Res, resU, res1, c_num_Parse, numU]
        · have k2 : (57 : Int) < c := by omega
          (all_goals have := fa (a4 hk hdc k1 k2); repeat' first | refine Wp.v ?_ | (refine Wp.c ?_ ?_ <;> intro))
          refine Wp.ret ?_; simp [Res, resU, res1, c_num_Parse, numU]
      · have hdc := hdh h128
        obtain ⟨c, j, hcj⟩ : ∃ c j, Utf8.decode ⟨ds.toArray⟩ k = (c, j) := ⟨_, _, rfl⟩
        rw [hcj] at hdc
        simp only at hdc
        have k1 : ¬ (c : Int) < 48 := by omega
        have k2 : (57 : Int) < c := by omega
        (all_goals have := fa (a4 hk hcj k1 k2); repeat' first | refine Wp.v ?_ | (refine Wp.c ?_ ?_ <;> intro))
        refine Wp.ret ?_; simp [Res, resU, res1, c_num_Parse, numU]
  · rw [List.take_of_length_le (Nat.le_refl _)] at hI
    simp only [np0S, List.take_length]
    repeat refine Wp.a ?_
    refine Wp.i ?_ ?_ <;> intro h1
    · simp at h1
    · exact Wp.exit ⟨rfl, hI, rfl⟩
def npRest : C := match c_num_Parse.body with
  | .seq _ (.seq _ (.seq _ c)) => c
  | c => c
def np2 : C := match npRest with
  | .seq _ (.seq _ (.seq _ c)) => c
  | c => c
theorem wrap_i64u {u : Nat} (h1 : 1 ≤ u) (h2 : u ≤ 9223372036854775808) : IntKind.wrap .i64 (18446744073709551616 - (u : Int)) = -(u : Int) := by
  simp only [IntKind.wrap, IntKind.bits, IntKind.signed, Bool.true_and]
  simp
  omega
theorem wrap_neg64 {u : Nat} (h1 : 1 ≤ u) (h2 : u < 10000000000000000000) : IntKind.wrap .u64 (-(u : Int)) = 18446744073709551616 - (u : Int) := by
  simp only [IntKind.wrap, IntKind.bits, IntKind.signed, Bool.false_and]
  simp
  omega
theorem digN_pos {ds : List UInt8} (h : ds ≠ []) (ha : ds.all isD = true) (hh : ds.head? ≠ some 48) : 1 ≤ digN ds := by
  have hc := canon' h ha (.inl hh)
  rcases Nat.eq_zero_or_pos (digN ds) with k | k
  · rw [k, dig_small (by omega)] at hc
    exact absurd (by rw [← hc]; rfl) hh
  · exact k
set_option maxHeartbeats 16000000 in
theorem np_rest (low : Bool) (ds s0 : List UInt8) (E : Env) (hE : E = [(4, .str ds), (5, .bool low)] ∨ E = [(0, .str s0), (4, .str ds), (5, .bool low), (18, .bool false)]) : Wp T npRest ⟨E, []⟩ (Res c_num_Parse (numU (pNat low ds))) (Res c_num_Parse (numU (pNat low ds))) (fun _ _ => False) := by
  show Wp T (.seq _ _) _ _ _ _
  generalize hr : pNat low ds = r
  unfold pNat at hr
  cases ds with
  | nil =>
    rw [if_pos (.inl rfl)] at hr
    rw [← hr]
    rcases hE with rfl | rfl
    all_goals (repeat' first | refine Wp.u ?_ | (refine Wp.c ?_ ?_ <;> intro))
    all_goals refine Wp.ret ?_; simp [Res, resU, res1, c_num_Parse, numU]
  | cons d rs =>
    have hlen : (((d :: rs).length : Nat) : Int) = (rs.length : Int) + 1 := by simp
    have q0 : ¬ (rs.length : Int) + 1 = 0 := by omega
    by_cases h19 : 19 < (d :: rs).length
    · rw [if_pos (.inr (.inl h19))] at hr
      rw [← hr]
      have q1 : (19 : Int) < (rs.length : Int) + 1 := by rw [List.length_cons] at h19; omega
      rcases hE with rfl | rfl
      all_goals (all_goals have := fa (a2 q0 q1); repeat' first | refine Wp.v ?_ | (refine Wp.c ?_ ?_ <;> intro))
      all_goals refine Wp.ret ?_; simp [Res, resU, res1, c_num_Parse, numU]
    · have q1 : ¬ (19 : Int) < (rs.length : Int) + 1 := by rw [List.length_cons] at h19; omega
      have hl19 : (d :: rs).length ≤ 19 := by omega
      have hgo : (d = 48 → rs = [] ∧ low = false) → ¬ pBad low (d :: rs) := fun h hb => by
        rcases hb with hb | hb | ⟨hb, k⟩
        · cases hb
        · omega
        · injection hb with hb
          obtain ⟨k1, k2⟩ := h hb
          subst k1
          rcases k with k | k
          · simp at k
          · rw [k2] at k; cases k
      have hfin : ¬ pBad low (d :: rs) → Wp T (.loop c_num_Parse_L0) ⟨[(5, .bool low), (6, .int .u64 0), (43, .it 0)], [.iter (d :: rs) 0]⟩ (fun _ => False) (Res c_num_Parse (numU r)) (fun i s' => if i = 0 then Wp T np2 s' (Res c_num_Parse (numU r)) (Res c_num_Parse (numU r)) (fun _ _ => False) else False) := fun hb => by
        rw [if_neg hb] at hr
        have hloop := np0_loop low (d :: rs) hl19 r (fun h => by rw [← hr, h]; rfl)
        have hu19 : (d :: rs).all isD = true → digN (d :: rs) < 10000000000000000000 := fun h => digN_19 h hl19
        have hup : (d :: rs).all isD = true → low = true → 1 ≤ digN (d :: rs) := fun h hlw => digN_pos (by simp) h (fun hh => hb (.inr (.inr ⟨hh, .inr hlw⟩)))
        generalize d :: rs = ds at *
        have e0 : digN [] = 0 := rfl
        simp only [np0S, List.take_zero, e0] at hloop
        refine hloop.imp (fun _ h => h.elim) (fun _ h => h) ?_
        rintro b s ⟨rfl, ha, rfl⟩
        rw [if_pos rfl]
        show Wp T (.seq _ _) _ _ _ _
        rw [if_pos ha] at hr
        have hu := hu19 ha
        have hp := hup ha
        generalize digN ds = u at *
        cases low with
        | true =>
          have hp := hp rfl
          rw [if_pos rfl] at hr
          obtain ⟨v, hv⟩ : ∃ v : Int, 18446744073709551616 - (u : Int) = v := ⟨_, rfl⟩
          have w1 : IntKind.wrap .u64 (-(u : Int)) = v := by rw [wrap_neg64 hp hu, hv]
          have w2 : IntKind.wrap .u64 9223372036854775808 = 9223372036854775808 := wrap_u64 (by omega) (by omega)
          have w3 : IntKind.wrap .u64 (-9223372036854775808) = 9223372036854775808 := by decide
          by_cases hm : u ≤ 9223372036854775808
          · rw [if_pos hm] at hr
            have w4 : IntKind.wrap .i64 v = -(u : Int) := by rw [← hv]; exact wrap_i64u hp hm
            have k1 : ¬ v < 9223372036854775808 := by omega
            rw [← hr]
            (all_goals have := fa (a5 w1 w2 w3 w4 k1); repeat' first | refine Wp.v ?_ | (refine Wp.c ?_ ?_ <;> intro))
            refine Wp.ret ?_; simp [Res, resU, res1, c_num_Parse, numU]
          · rw [if_neg hm] at hr
            have k1 : v < 9223372036854775808 := by omega
            rw [← hr]
            (all_goals have := fa (a4 w1 w2 w3 k1); repeat' first | refine Wp.v ?_ | (refine Wp.c ?_ ?_ <;> intro))
            refine Wp.ret ?_; simp [Res, resU, res1, c_num_Parse, numU]
        | false =>
          rw [if_neg (by decide)] at hr
          by_cases hm : u ≤ 9223372036854775807
          · rw [if_pos hm] at hr
            have k1 : ¬ (9223372036854775807 : Int) < u := by omega
            have w4 : IntKind.wrap .i64 (u : Int) = (u : Int) := wrap_id (by omega) (by omega)
            rw [← hr]
            (all_goals have := fa (a2 w4 k1); repeat' first | refine Wp.v ?_ | (refine Wp.c ?_ ?_ <;> intro))
            refine Wp.ret ?_; simp [Res, resU, res1, c_num_Parse, numU]
          · rw [if_neg hm] at hr
            have k1 : (9223372036854775807 : Int) < u := by omega
            rw [← hr]
            (all_goals have := fa k1; repeat' first | refine Wp.v ?_ | (refine Wp.c ?_ ?_ <;> intro))
            refine Wp.ret ?_; simp [Res, resU, res1, c_num_Parse, numU]
      by_cases h48 : d = 48
      · subst h48
        cases rs with
        | cons a rs =>
          rw [if_pos (.inr (.inr ⟨rfl, .inl (by simp)⟩))] at hr
          rw [← hr]
          have q2 : (1 : Int) < (rs.length : Int) + 1 + 1 := by omega
          have q3 : ¬ (rs.length : Int) + 1 + 1 = 0 := by omega
          have q4 : ¬ (19 : Int) < (rs.length : Int) + 1 + 1 := by simpa using q1
          have q5 : (0 : Int) < (rs.length : Int) + 1 + 1 := by omega
          rcases hE with rfl | rfl
          all_goals (all_goals have := fa (a4 q2 q3 q4 q5); repeat' first | refine Wp.v ?_ | (refine Wp.c ?_ ?_ <;> intro))
          all_goals refine Wp.ret ?_; simp [Res, resU, res1, c_num_Parse, numU]
        | nil =>
          cases low with
          | true =>
            rw [if_pos (.inr (.inr ⟨rfl, .inr rfl⟩))] at hr
            rw [← hr]
            rcases hE with rfl | rfl
            all_goals (repeat' first | refine Wp.u ?_ | (refine Wp.c ?_ ?_ <;> intro))
            all_goals refine Wp.ret ?_; simp [Res, resU, res1, c_num_Parse, numU]
          | false =>
            rcases hE with rfl | rfl
            all_goals (repeat' first | refine Wp.u ?_ | (refine Wp.c ?_ ?_ <;> intro))
            all_goals exact (hfin (hgo fun _ => ⟨rfl, rfl⟩)).imp (fun _ h => h.elim) (fun _ h => h) (fun _ _ h => h)
      · have q5 : (0 : Int) < (rs.length : Int) + 1 := by omega
        have q6 : ¬ d.toNat = 48 := fun h => h48 (UInt8.toNat_inj.1 h)
        have q7 : ¬ (d.toNat : Int) = 48 := by omega
        rcases hE with rfl | rfl
        all_goals (all_goals have := fa (a5 q0 q1 q5 q6 q7); repeat' first | refine Wp.v ?_ | (refine Wp.c ?_ ?_ <;> intro))
        all_goals exact (hfin (hgo fun h => absurd h h48)).imp (fun _ h => h.elim) (fun _ h => h) (fun _ _ h => h)
set_option maxHeartbeats 16000000 in
theorem nparse_call (s : List UInt8) (hs : s.length ≤ 100000000) (st : List Ob) : Cl T n_num_Parse [.str s] st (numU (pNum s)) st := by
  refine Wp.pure (fn := c_num_Parse) rfl rfl rfl («as» := [.str s]) rfl ?_
  have hrest := fun low ds s0 E hE => np_rest low ds s0 E hE
  cases s with
  | nil =>
    have : pNum [] = pNat false [] := rfl
    rw [this]
    repeat refine Wp.a ?_
    refine Wp.i ?_ ?_ <;> intro h
    · cases h
    · refine Wp.skip ?_
      exact (hrest false [] [] _ (.inr rfl)).imp (fun _ h => h) (fun _ h => h) (fun _ _ h => h)
  | cons c r =>
    have q5 : (0 : Int) < (r.length : Int) + 1 := by omega
    by_cases h45 : c = 45
    · subst h45
      have : pNum (45 :: r) = pNat true r := rfl
      rw [this]
      have hcut : cut (45 :: r) 1 ((r.length : Int) + 1) = some r := by
        unfold cut
        rw [if_pos ⟨by omega, by omega, by simp⟩]
        have : ((r.length : Int) + 1).toNat = r.length + 1 := by omega
        rw [this]
        simp
      (have := fa q5; repeat refine Wp.f ?_)
      refine Wp.i ?_ ?_ <;> intro h
      · refine Wp.imp (K' := fun s' => s' = ⟨[(4, .str r), (5, .bool true)], []⟩) (R' := fun _ => False) (B' := fun _ _ => False) ?_ ?_ (fun _ h => h.elim) (fun _ _ h => h.elim)
        · (have := fa hcut; repeat refine Wp.f ?_)
          rfl
        · rintro s rfl
          exact (hrest true r [] _ (.inl rfl)).imp (fun _ h => h) (fun _ h => h) (fun _ _ h => h)
      · cases h
    · have : pNum (c :: r) = pNat false (c :: r) := by
        unfold pNum
        rw [if_neg]
        intro h
        injection h with h
        exact h45 h
      rw [this]
      have q6 : ¬ c.toNat = 45 := fun h => h45 (UInt8.toNat_inj.1 h)
      have q7 : ¬ (c.toNat : Int) = 45 := by omega
      (have := fa (a3 q5 q6 q7); repeat refine Wp.f ?_)
      refine Wp.i ?_ ?_ <;> intro h
      · cases h
      · refine Wp.skip ?_
        exact (hrest false (c :: r) (c :: r) _ (.inr rfl)).imp (fun _ h => h) (fun _ h => h) (fun _ _ h => h)
end Go.Proofs.YtbcojbmalcghbaaDoor.M2
namespace Go.Proofs.YtbcojbmalcghbaaDoor.M2
open Go
def spl (q : UInt8) : List UInt8 → List (List UInt8)
  | [] => [[]]
  | c :: r => if c = q then [] :: spl q r else match spl q r with
    | [] => [[c]]
    | w :: ws => (c :: w) :: ws
theorem spl_ne (q : UInt8) : ∀ l, spl q l ≠ []
  | [] => by simp [spl]
  | c :: r => by
    unfold spl
    split
    · simp
    · split <;> simp
theorem spl_free {q : UInt8} : ∀ {w : List UInt8}, (∀ c ∈ w, c ≠ q) → spl q w = [w]
  | [], _ => rfl
  | c :: w, h => by
    unfold spl
    rw [if_neg (h c (by simp)), spl_free (fun d hd => h d (by simp [hd]))]
theorem spl_app {q : UInt8} {r : List UInt8} : ∀ {w : List UInt8}, (∀ c ∈ w, c ≠ q) → spl q (w ++ q :: r) = w :: spl q r
  | [], _ => by
    rw [List.nil_append, spl, if_pos rfl]
  | c :: w, h => by
    rw [List.cons_append, spl, if_neg (h c (by simp)), spl_app (fun d hd => h d (by simp [hd]))]
theorem spl_inv {q : UInt8} : ∀ {s : List UInt8} {A : List (List UInt8)} {w : List UInt8}, spl q s = A ++ [w] → s = A.flatMap (fun l => l ++ [q]) ++ w
  | [], A, w, h => by
    cases A with
    | nil => cases h; rfl
    | cons a A => simp [spl] at h
  | c :: r, A, w, h => by
    unfold spl at h
    split at h
    · rename_i e
      cases A with
      | nil => injection h with _ h; exact absurd h (spl_ne q r)
      | cons a A =>
        rw [List.cons_append] at h
        injection h with h1 h2
        rw [spl_inv h2, e, ← h1]
        simp
    · cases hs : spl q r with
      | nil => exact absurd hs (spl_ne q r)
      | cons v vs =>
        rw [hs] at h
        simp only at h
        cases A with
        | nil =>
          injection h with h1 h2
          subst h2
          have := spl_inv (A := []) (w := v) hs
          rw [this, ← h1]
          rfl
        | cons a A =>
          rw [List.cons_append] at h
          injection h with h1 h2
          have := spl_inv (A := v :: A) (w := w) (by rw [hs, h2]; rfl)
          rw [this, ← h1]
          simp
theorem jn_spl : ∀ (l : List UInt8), jn (spl 32 l) = l
  | [] => rfl
  | c :: r => by
    have ih := jn_spl r
    unfold spl
    cases hs : spl 32 r with
    | nil => exact absurd hs (spl_ne 32 r)
    | cons w ws =>
      rw [hs, jn_cons] at ih
      split
      · rename_i e
        rw [jn_cons, e, List.nil_append, List.flatMap_cons, List.cons_append, ih]
      · simp only
        rw [jn_cons, List.cons_append, ih]
theorem spl_jn : ∀ {ws : List (List UInt8)}, ws ≠ [] → (∀ w ∈ ws, ∀ c ∈ w, c ≠ 32) → spl 32 (jn ws) = ws
  | [], h, _ => absurd rfl h
  | [w], _, h => by rw [jn_one]; exact spl_free (h w (by simp))
  | w :: v :: ws, _, h => by
    have ih := spl_jn (ws := v :: ws) (by simp) (fun x hx => h x (by simp [hx]))
    have : jn (w :: v :: ws) = w ++ 32 :: jn (v :: ws) := by rw [jn_cons, jn_cons, List.flatMap_cons, List.cons_append]
    rw [this, spl_app (h w (by simp)), ih]
theorem spl_lines : ∀ {ls : List (List UInt8)}, (∀ w ∈ ls, ∀ c ∈ w, c ≠ 10) → spl 10 (ls.flatMap endL) = ls ++ [[]]
  | [], _ => rfl
  | w :: ls, h => by
    have : (w :: ls).flatMap endL = w ++ 10 :: ls.flatMap endL := by simp [endL]
    rw [this, spl_app (h w (by simp)), spl_lines (fun x hx => h x (by simp [hx]))]
    rfl
/-! A node's words. -/
def opK (w : List UInt8) : Nat → Int
  | 0 => -1
  | k + 1 => if opWords.getD k [] = w ∧ w ≠ [] then (k : Int) else opK w k
theorem opK_inv (w : List UInt8) : ∀ k, opK w k = -1 ∨ ∃ i : Nat, i < k ∧ opK w k = i ∧ opWords.getD i [] = w ∧ w ≠ []
  | 0 => .inl rfl
  | k + 1 => by
    unfold opK
    split
    · rename_i h
      exact .inr ⟨k, by omega, rfl, h⟩
    · rcases opK_inv w k with h | ⟨i, h1, h2, h3⟩
      · exact .inl h
      · exact .inr ⟨i, by omega, h2, h3⟩
theorem opK_word {op : Int} (h : opOk op = true) : opK (wordF op) 19 = op := by
  rcases op_cases h with rfl | rfl | rfl | rfl | rfl | rfl | rfl | rfl | rfl | rfl | rfl | rfl | rfl | rfl | rfl
  all_goals decide
theorem word_opK {w : List UInt8} (h : opOk (opK w 19) = true) : wordF (opK w 19) = w := by
  rcases opK_inv w 19 with k | ⟨i, _, k2, k3, _⟩
  · rw [k] at h; exact absurd h (by decide)
  · rw [k2]
    unfold wordF
    rw [if_neg (by omega), Int.toNat_natCast, k3]
def badN : FNode := ⟨-1, 0, [], []⟩
def notTo (w : List UInt8) : Bool := !decide (w = [62])
def spO : List (List UInt8) → List Int × List (List UInt8)
  | w :: t :: r => if w = [62] then (rdTo t :: (spO r).1, (spO r).2) else ([], w :: t :: r)
  | r => ([], r)
def rdRest (op n : Int) (r : List (List UInt8)) : FNode :=
  if (spO (r.dropWhile notTo)).2 = [] then ⟨op, n, (r.takeWhile notTo).map rdSrc, (spO (r.dropWhile notTo)).1⟩ else badN
def rdNode (ws : List (List UInt8)) : FNode := match ws with
  | [] => badN
  | w :: r => if opK w 19 = 15 then (match r with
    | [] => rdRest 15 0 []
    | t :: r' => match pNum t with
      | none => badN
      | some n => rdRest 15 n r') else rdRest (opK w 19) 0 r
theorem src_62 (s : Int × Int) : notTo (srcF s) = true := by
  unfold notTo srcF
  repeat' split
  all_goals simp
theorem spO_out : ∀ {os : List Int}, (∀ o ∈ os, -1 ≤ o ∧ o ≤ 20000) → spO (outW os) = (os, [])
  | [], _ => rfl
  | o :: os, h => by
    have : outW (o :: os) = [62] :: toF o :: outW os := rfl
    have ho := h o (by simp)
    rw [this, spO, if_pos rfl, spO_out (fun p hp => h p (by simp [hp])), rdTo_to ho.1 ho.2]
theorem spO_nil : ∀ {r : List (List UInt8)}, (spO r).2 = [] → (∀ o ∈ (spO r).1, -1 ≤ o) → r = outW (spO r).1
  | [], _, _ => rfl
  | [w], h, _ => by simp [spO] at h
  | w :: t :: r, h, ho => by
    unfold spO at h ho ⊢
    by_cases e : w = [62]
    · rw [if_pos e] at h ho ⊢
      have h1 := (rdTo_some (ho (rdTo t) (by simp))).1
      have h2 := spO_nil (r := r) h (fun o hoo => ho o (by simp [hoo]))
      have : outW (rdTo t :: (spO r).1) = [62] :: toF (rdTo t) :: outW (spO r).1 := rfl
      rw [this, h1, ← h2, e]
    · rw [if_neg e] at h
      simp at h
theorem take_src : ∀ (l : List (Int × Int)) (r : List (List UInt8)), (∀ w ∈ r.head?, notTo w = false) → ((l.map srcF ++ r).takeWhile notTo = l.map srcF ∧ (l.map srcF ++ r).dropWhile notTo = r)
  | [], r, h => by
    cases r with
    | nil => exact ⟨rfl, rfl⟩
    | cons w r =>
      have := h w (by simp)
      simp [List.takeWhile, List.dropWhile, this]
  | s :: l, r, h => by
    have ih := take_src l r h
    rw [List.map_cons, List.cons_append, List.takeWhile_cons, List.dropWhile_cons, src_62 s]
    simp only [if_true]
    exact ⟨by rw [ih.1], ih.2⟩
theorem rdRest_back {y : FNode} (hk : NodeK y) (hr : ∀ s ∈ y.args, rng s.2) (ho : ∀ o ∈ y.outs, o ≤ 20000) : rdRest y.op y.n (y.args.map srcF ++ outW y.outs) = y := by
  obtain ⟨h1, h2⟩ := take_src y.args (outW y.outs) (fun w hw => by
    cases hz : y.outs with
    | nil => rw [hz] at hw; cases hw
    | cons o os =>
      rw [hz] at hw
      have : w = [62] := by
        have : (outW (o :: os)).head? = some [62] := rfl
        rw [this] at hw
        exact (Option.some.inj hw).symm
      rw [this]
      rfl)
  unfold rdRest
  rw [h1, h2, spO_out (fun o hoo => ⟨hk.outs o hoo, ho o hoo⟩), if_pos rfl, List.map_map]
  have : y.args.map (rdSrc ∘ srcF) = y.args := by
    rw [show y.args = y.args.map id by simp, List.map_map]
    exact List.map_congr_left fun s hs => rdSrc_src (hk.args s hs) (hr s hs)
  rw [this]
theorem rdNode_back {y : FNode} (hk : NodeK y) (hr : NodeR y) (ho : ∀ o ∈ y.outs, o ≤ 20000) : rdNode (nodeWords y) = y := by
  have hb := rdRest_back hk (fun s hs => (hr.args s hs).2) ho
  unfold nodeWords nodeHead rdNode
  by_cases h15 : y.op = 15
  · simp only [h15, if_true, List.cons_append, List.nil_append, List.append_assoc]
    have e := opK_word hk.op
    rw [h15] at e hb
    rw [if_pos e]
    simp only [pNum_text hr.n]
    exact hb
  · simp only [h15, if_false, List.cons_append, List.nil_append, List.append_assoc]
    have e := opK_word hk.op
    have hn : y.n = 0 := by
      rcases hk.n with h | h
      · exact h
      · exact absurd h h15
    rw [if_neg (by rw [e]; exact h15), e, ← hn]
    exact hb
theorem rdRest_some {op n : Int} {r : List (List UInt8)} (h1 : opOk (rdRest op n r).op = true) (h2 : ∀ s ∈ (rdRest op n r).args, s.1 ≠ -1) (h3 : ∀ o ∈ (rdRest op n r).outs, -1 ≤ o) :
    (rdRest op n r).op = op ∧ (rdRest op n r).n = n ∧ (rdRest op n r).args.map srcF ++ outW (rdRest op n r).outs = r := by
  unfold rdRest at h1 h2 h3 ⊢
  by_cases e : (spO (r.dropWhile notTo)).2 = []
  · rw [if_pos e] at h1 h2 h3 ⊢
    refine ⟨rfl, rfl, ?_⟩
    simp only at h2 h3 ⊢
    rw [← spO_nil e h3, List.map_map]
    have : (r.takeWhile notTo).map (srcF ∘ rdSrc) = r.takeWhile notTo := by
      conv => rhs; rw [show r.takeWhile notTo = (r.takeWhile notTo).map id by simp]
      exact List.map_congr_left fun w hw => (rdSrc_some (h2 (rdSrc w) (List.mem_map_of_mem hw))).1
    rw [this, List.takeWhile_append_dropWhile]
  · rw [if_neg e] at h1
    exact absurd h1 (by decide)
theorem rdNode_some {ws : List (List UInt8)} (h1 : opOk (rdNode ws).op = true) (h2 : ∀ s ∈ (rdNode ws).args, s.1 ≠ -1) (h3 : ∀ o ∈ (rdNode ws).outs, -1 ≤ o) (h4 : (rdNode ws).args.length = argsF (rdNode ws).op) : nodeWords (rdNode ws) = ws := by
  cases ws with
  | nil => exact absurd h1 (by decide)
  | cons w r =>
    by_cases e : opK w 19 = 15
    · cases r with
      | nil =>
        have hz : rdNode [w] = rdRest 15 0 [] := by simp only [rdNode]; rw [if_pos e]
        rw [hz] at h4
        exact absurd h4 (by decide)
      | cons t r =>
        cases hp : pNum t with
        | none =>
          have hz : rdNode (w :: t :: r) = badN := by simp only [rdNode, hp]; rw [if_pos e]
          rw [hz] at h1
          exact absurd h1 (by decide)
        | some n =>
          have hz : rdNode (w :: t :: r) = rdRest 15 n r := by simp only [rdNode, hp]; rw [if_pos e]
          rw [hz] at h1 h2 h3 ⊢
          obtain ⟨k1, k2, k3⟩ := rdRest_some h1 h2 h3
          unfold nodeWords nodeHead
          rw [k1, k2, if_pos rfl, List.append_assoc, k3]
          have hw := word_opK (w := w) (by rw [e]; decide)
          rw [e] at hw
          rw [hw, (pNum_some hp).2]
          rfl
    · have hz : rdNode (w :: r) = rdRest (opK w 19) 0 r := by
        simp only [rdNode]
        rw [if_neg e]
      rw [hz] at h1 h2 h3 ⊢
      obtain ⟨k1, k2, k3⟩ := rdRest_some h1 h2 h3
      have hok : opOk (opK w 19) = true := by rw [← k1]; exact h1
      unfold nodeWords nodeHead
      rw [k1, if_neg e, List.append_assoc, k3, word_opK hok]
      rfl
end Go.Proofs.YtbcojbmalcghbaaDoor.M2
namespace Go.Proofs.YtbcojbmalcghbaaDoor.M2
open Go
attribute [local simp] ev1 M2.get put A.ev ld sub part elems bin arith un opt idx fillC cellsO splice over newOb sto fillR laidOwn appTo appRow touch touchN touchM touchE touchA plainU flatU plainAs allM rowAt stoRow accM_nil accM_cons accMM_nil accMM_cons frz_int frz_bool frz_str frz_slt frz_nils frz_nilI frz_nilF frz_own frzRow_row frzRow_frow Ob.blw blw_bool blw_int blw_str blw_nils blw_nilI blw_nilF blw_nilp blw_nilm blw_sl blw_own blw_bp blw_rp blw_mp blw_it params
attribute [local simp] frz_agg frz_tup frz_iface frzS_agg frzS_iface accMS_cons frzS_int frzS_bool frzS_str frzS_slt frzS_nils frzS_nilI beq_dec bne_dec
theorem cut_mid (a b c : List UInt8) (h : (a ++ (b ++ c)).length ≤ 100000000) : cut (a ++ (b ++ c)) ((a.length : Nat) : Int) ((a.length + b.length : Nat) : Int) = some b := by
  unfold cut
  rw [List.length_append, List.length_append] at h
  rw [if_pos ⟨by omega, by omega, by rw [List.length_append, List.length_append]; omega⟩]
  have e1 : (((a.length + b.length : Nat) : Int)).toNat = a.length + b.length := by omega
  have e2 : (((a.length : Nat) : Int)).toNat = a.length := by omega
  rw [e1, e2, ← List.append_assoc, show a.length + b.length = (a ++ b).length by rw [List.length_append], List.take_left, List.drop_left]
theorem mid_get (a b : List UInt8) (c : UInt8) (r : List UInt8) : (a ++ (b ++ c :: r))[a.length + b.length]? = some c := by
  rw [← List.append_assoc, show a.length + b.length = (a ++ b).length by rw [List.length_append], List.getElem?_append_right (Nat.le_refl _)]
  simp
theorem flat_ge (D : List (List UInt8)) : D.length ≤ (D.flatMap endL).length := by
  induction D with
  | nil => simp
  | cons d D ih =>
    rw [List.flatMap_cons, List.length_append, List.length_cons]
    simp only [endL, List.length_append, List.length_cons, List.length_nil]
    omega
set_option maxHeartbeats 8000000 in
theorem readTo_call (w : List UInt8) (hw : w.length ≤ 100000000) (st : List Ob) : Cl T n_shape_readTo [.str w] st (i64 (rdTo w)) st := by
  refine Wp.pure (fn := c_shape_readTo) rfl rfl rfl («as» := [.str w]) rfl ?_
  have hp := nparse_call w hw
  unfold rdTo
  by_cases h : w = [45]
  · subst h
    (repeat' first | refine Wp.u ?_ | (refine Wp.c ?_ ?_ <;> intro))
    refine Wp.ret ?_; simp [Res, resU, res1, c_shape_readTo]
  · rw [if_neg h]
    have hb : (w == [45]) = false := beq_eq_false_iff_ne.2 h
    cases hn : pNum w with
    | none =>
      rw [hn] at hp
      simp only [numU] at hp
      (all_goals have := fa (a2 h hb); repeat' first | refine Wp.v ?_ | (apply Wp.call; exact hp _) | (refine Wp.c ?_ ?_ <;> intro))
      refine Wp.ret ?_; simp [Res, resU, res1, c_shape_readTo]
    | some n =>
      rw [hn] at hp
      simp only [numU] at hp ⊢
      by_cases h0 : n < 0
      · rw [if_pos (.inl h0)]
        (all_goals have := fa (a3 h hb h0); repeat' first | refine Wp.v ?_ | (apply Wp.call; exact hp _) | (refine Wp.c ?_ ?_ <;> intro))
        refine Wp.ret ?_; simp [Res, resU, res1, c_shape_readTo]
      · by_cases h1 : 20000 < n
        · rw [if_pos (.inr h1)]
          (all_goals have := fa (a4 h hb h0 h1); repeat' first | refine Wp.v ?_ | (apply Wp.call; exact hp _) | (refine Wp.c ?_ ?_ <;> intro))
          refine Wp.ret ?_; simp [Res, resU, res1, c_shape_readTo]
        · rw [if_neg (by omega)]
          (all_goals have := fa (a4 h hb h0 h1); repeat' first | refine Wp.v ?_ | (apply Wp.call; exact hp _) | (refine Wp.c ?_ ?_ <;> intro))
          refine Wp.ret ?_; simp [Res, resU, res1, c_shape_readTo]
set_option maxHeartbeats 16000000 in
theorem readSrc_call (w : List UInt8) (hw : w.length ≤ 100000000) (st : List Ob) : Cl T n_shape_readSource [.str w] st (.agg (srcC (rdSrc w))) st := by
  refine Wp.pure (fn := c_shape_readSource) rfl rfl rfl («as» := [.str w]) rfl ?_
  unfold rdSrc
  by_cases h1 : w = [110, 111, 110, 101]
  · subst h1
    (repeat' first | refine Wp.u ?_ | (refine Wp.c ?_ ?_ <;> intro))
    refine Wp.ret ?_; simp [Res, resU, res1, c_shape_readSource, srcC]
  · rw [if_neg h1]
    have b1 : (w == [110, 111, 110, 101]) = false := beq_eq_false_iff_ne.2 h1
    by_cases h2 : w = [100, 101, 102]
    · subst h2
      (repeat' first | refine Wp.u ?_ | (refine Wp.c ?_ ?_ <;> intro))
      refine Wp.ret ?_; simp [Res, resU, res1, c_shape_readSource, srcC]
    · rw [if_neg h2]
      have b2 : (w == [100, 101, 102]) = false := beq_eq_false_iff_ne.2 h2
      cases w with
      | nil =>
        (repeat' first | refine Wp.u ?_ | (refine Wp.c ?_ ?_ <;> intro))
        refine Wp.ret ?_; simp [Res, resU, res1, c_shape_readSource, srcC]
      | cons c r =>
        have hp := nparse_call r (by rw [List.length_cons] at hw; omega)
        have hcut : cut (c :: r) 1 ((r.length : Int) + 1) = some r := by
          unfold cut
          rw [if_pos ⟨by omega, by omega, by simp⟩]
          have : ((r.length : Int) + 1).toNat = r.length + 1 := by omega
          rw [this]
          simp
        have q5 : (0 : Int) < (r.length : Int) + 1 := by omega
        simp only
        cases hn : pNum r with
        | none =>
          rw [hn] at hp
          simp only [numU] at hp
          (all_goals have := fa (a5 h1 h2 b1 b2 hcut); repeat' first | refine Wp.v ?_ | (apply Wp.call; exact hp _) | (refine Wp.c ?_ ?_ <;> intro))
          refine Wp.ret ?_; simp [Res, resU, res1, c_shape_readSource, srcC]
        | some n =>
          rw [hn] at hp
          simp only [numU] at hp ⊢
          by_cases c1 : c = 114
          · subst c1
            rw [if_pos rfl]
            (all_goals have := fa (a5 h1 h2 b1 b2 (a2 hcut q5)); repeat' first | refine Wp.v ?_ | (apply Wp.call; exact hp _) | (refine Wp.c ?_ ?_ <;> intro))
            refine Wp.ret ?_; simp [Res, resU, res1, c_shape_readSource, srcC]
          · rw [if_neg c1]
            have k1 : ¬ (c.toNat : Int) = 114 := fun h => c1 (UInt8.toNat_inj.1 (by have : (114 : UInt8).toNat = 114 := rfl; omega))
            by_cases c2 : c = 35
            · subst c2
              rw [if_pos rfl]
              (all_goals have := fa (a5 h1 h2 b1 b2 (a2 hcut q5)); repeat' first | refine Wp.v ?_ | (apply Wp.call; exact hp _) | (refine Wp.c ?_ ?_ <;> intro))
              refine Wp.ret ?_; simp [Res, resU, res1, c_shape_readSource, srcC]
            · rw [if_neg c2]
              have k2 : ¬ (c.toNat : Int) = 35 := fun h => c2 (UInt8.toNat_inj.1 (by have : (35 : UInt8).toNat = 35 := rfl; omega))
              by_cases c3 : c = 118
              · subst c3
                rw [if_pos rfl]
                (all_goals have := fa (a5 h1 h2 b1 b2 (a2 hcut q5)); repeat' first | refine Wp.v ?_ | (apply Wp.call; exact hp _) | (refine Wp.c ?_ ?_ <;> intro))
                refine Wp.ret ?_; simp [Res, resU, res1, c_shape_readSource, srcC]
              · rw [if_neg c3]
                have k3 : ¬ (c.toNat : Int) = 118 := fun h => c3 (UInt8.toNat_inj.1 (by have : (118 : UInt8).toNat = 118 := rfl; omega))
                (all_goals have := fa (a5 h1 h2 b1 b2 (a5 hcut q5 k1 k2 k3)); repeat' first | refine Wp.v ?_ | (apply Wp.call; exact hp _) | (refine Wp.c ?_ ?_ <;> intro))
                refine Wp.ret ?_; simp [Res, resU, res1, c_shape_readSource, srcC]
abbrev enq (q : UInt8) (l : List UInt8) : List UInt8 := l ++ [q]
def ctS (s : List UInt8) (q : UInt8) (a : List (List UInt8) × List UInt8 × List UInt8) : S :=
  ⟨[(0, .str s), (1, .int .u8 q.toNat), (5, .own 0 a.1.length), (6, i64 ((a.1.flatMap (enq q)).length : Nat)), (9, i64 (s.length : Nat)), (10, i64 ((a.1.flatMap (enq q)).length + a.2.1.length : Nat))], [.row 9 1 false (a.1.map strC)]⟩
theorem enq_ge (q : UInt8) (D : List (List UInt8)) : D.length ≤ (D.flatMap (enq q)).length := by
  induction D with
  | nil => simp
  | cons d D ih =>
    rw [List.flatMap_cons, List.length_append, List.length_cons]
    simp only [enq, List.length_append, List.length_cons, List.length_nil]
    omega
set_option maxHeartbeats 16000000 in
theorem ct_loop (s : List UInt8) (q : UInt8) (hs : s.length ≤ 100000000) (R : S → Prop) : Wp T (.loop c_shape_cut_L0) (ctS s q ([], [], s)) (fun _ => False) R
    (fun b s' => b = 0 ∧ ∃ D cur, spl q s = D ++ [cur] ∧ D.length ≤ 100000000 ∧ cut s ((D.flatMap (enq q)).length : Nat) (s.length : Nat) = some cur ∧ s' = ⟨[(0, .str s), (1, .int .u8 q.toNat), (5, .own 0 D.length), (6, i64 ((D.flatMap (enq q)).length : Nat)), (9, i64 (s.length : Nat)), (10, i64 (s.length : Nat)), (11, .bool false)], [.row 9 1 false (D.map strC)]⟩) := by
  refine Wp.loop (fun a : List (List UInt8) × List UInt8 × List UInt8 => a.2.2.length) (ctS s q) (fun a => s = a.1.flatMap (enq q) ++ (a.2.1 ++ a.2.2) ∧ (∀ c ∈ a.2.1, c ≠ q) ∧ spl q s = a.1 ++ spl q (a.2.1 ++ a.2.2)) (fun a ⟨he, hc, hsp⟩ => ?_) ([], [], s) ⟨by simp, by simp, by simp⟩
  obtain ⟨D, cur, rest⟩ := a
  simp only at he hc hsp
  have hDl := enq_ge q D
  cases rest with
  | nil =>
    rw [List.append_nil] at he hsp
    rw [spl_free hc] at hsp
    have hl : (D.flatMap (enq q)).length + cur.length = s.length := by rw [he, List.length_append]
    have hct := cut_mid (D.flatMap (enq q)) cur [] (by rw [List.append_nil, ← he]; omega)
    rw [List.append_nil, ← he, hl] at hct
    simp only [ctS, hl]
    have hfin : ∃ D' cur', spl q s = D' ++ [cur'] ∧ D'.length ≤ 100000000 ∧ cut s ((D'.flatMap (enq q)).length : Nat) (s.length : Nat) = some cur' ∧ (⟨[(0, .str s), (1, .int .u8 q.toNat), (5, .own 0 D.length), (6, i64 ((D.flatMap (enq q)).length : Nat)), (9, i64 (s.length : Nat)), (10, i64 (s.length : Nat)), (11, .bool false)], [.row 9 1 false (D.map strC)]⟩ : S) = ⟨[(0, .str s), (1, .int .u8 q.toNat), (5, .own 0 D'.length), (6, i64 ((D'.flatMap (enq q)).length : Nat)), (9, i64 (s.length : Nat)), (10, i64 (s.length : Nat)), (11, .bool false)], [.row 9 1 false (D'.map strC)]⟩ := ⟨D, cur, hsp, by omega, hct, rfl⟩
    generalize (D.flatMap (enq q)).length = F at *
    repeat refine Wp.a ?_
    refine Wp.i ?_ ?_ <;> intro h1
    · simp at h1
    · exact Wp.exit ⟨rfl, hfin⟩
  | cons c rest =>
    have hl : (D.flatMap (enq q)).length + (cur.length + (rest.length + 1)) = s.length := by rw [he, List.length_append, List.length_append, List.length_cons]
    have hg : s[(D.flatMap (enq q)).length + cur.length]? = some c := by rw [he]; exact mid_get _ _ _ _
    have hp : (D.flatMap (enq q)).length + cur.length < s.length := by omega
    have hgc : s[(D.flatMap (enq q)).length + cur.length] = c := (List.getElem?_eq_some_iff.1 hg).2
    have hct := cut_mid (D.flatMap (enq q)) cur (c :: rest) (by rw [← he]; omega)
    rw [← he] at hct
    have hF' : ((D ++ [cur]).flatMap (enq q)).length = (D.flatMap (enq q)).length + cur.length + 1 := by simp; omega
    by_cases hq : c = q
    · subst hq
      have hnext : s = (D ++ [cur]).flatMap (enq c) ++ ([] ++ rest) := by
        rw [he]
        simp
      have hsp' : spl c s = (D ++ [cur]) ++ spl c ([] ++ rest) := by rw [hsp, spl_app hc]; simp
      have e1 := strC_snoc D cur
      have e2 : (D.map strC).length = D.length := List.length_map _
      have e3 : (D ++ [cur]).length = D.length + 1 := by simp
      have lim : (D.length + 1) * 16 ≤ 140737488355328 := by omega
      have hwit : ∀ s', trimO 1 s' = ⟨[(0, .str s), (1, .int .u8 c.toNat), (5, .own 0 (D.length + 1)), (6, i64 ((D.flatMap (enq c)).length + cur.length + 1 : Nat)), (9, i64 (s.length : Nat)), (10, i64 ((D.flatMap (enq c)).length + cur.length + 1 : Nat))], [.row 9 1 false ((D ++ [cur]).map strC)]⟩ →
          ∃ b : List (List UInt8) × List UInt8 × List UInt8, trimO (ctS s c (D, cur, c :: rest)).st.length s' = ctS s c b ∧ b.2.2.length < (c :: rest).length ∧ s = b.1.flatMap (enq c) ++ (b.2.1 ++ b.2.2) ∧ (∀ x ∈ b.2.1, x ≠ c) ∧ spl c s = b.1 ++ spl c (b.2.1 ++ b.2.2) := fun s' h => ⟨(D ++ [cur], [], rest), by
            show trimO 1 s' = _
            rw [h]
            simp only [ctS, hF', e3, List.length_nil, Nat.add_zero], by simp, hnext, by simp, hsp'⟩
      refine Wp.imp (K' := fun s' => trimO 1 s' = ⟨[(0, .str s), (1, .int .u8 c.toNat), (5, .own 0 (D.length + 1)), (6, i64 ((D.flatMap (enq c)).length + cur.length + 1 : Nat)), (9, i64 (s.length : Nat)), (10, i64 ((D.flatMap (enq c)).length + cur.length + 1 : Nat))], [.row 9 1 false ((D ++ [cur]).map strC)]⟩) (R' := fun _ => False) (B' := fun _ _ => False) ?_ hwit (fun _ h => h.elim) (fun _ _ h => h.elim)
      simp only [ctS]
      generalize (D.flatMap (enq c)).length = F at *
      generalize hpp : F + cur.length = p at *
      generalize (D ++ [cur]).map strC = R1 at *
      generalize D.map strC = R0 at *
      have hp' : (p : Int) < s.length := by omega
      (all_goals have := fa (a5 hp' hg hct e1 (a2 e2 lim)); repeat' first | refine Wp.v ?_ | (refine Wp.c ?_ ?_ <;> intro))
      (have := fa @wrap_id; repeat refine Wp.f ?_)
      simp [trimO, trim]
    · have hne : ¬ c.toNat = q.toNat := fun h => hq (UInt8.toNat_inj.1 h)
      have hne' : ¬ (c.toNat : Int) = q.toNat := by omega
      have hwit : ∀ s', trimO 1 s' = ⟨[(0, .str s), (1, .int .u8 q.toNat), (5, .own 0 D.length), (6, i64 ((D.flatMap (enq q)).length : Nat)), (9, i64 (s.length : Nat)), (10, i64 ((D.flatMap (enq q)).length + cur.length + 1 : Nat))], [.row 9 1 false (D.map strC)]⟩ →
          ∃ b : List (List UInt8) × List UInt8 × List UInt8, trimO (ctS s q (D, cur, c :: rest)).st.length s' = ctS s q b ∧ b.2.2.length < (c :: rest).length ∧ s = b.1.flatMap (enq q) ++ (b.2.1 ++ b.2.2) ∧ (∀ x ∈ b.2.1, x ≠ q) ∧ spl q s = b.1 ++ spl q (b.2.1 ++ b.2.2) := fun s' h => ⟨(D, cur ++ [c], rest), by
            show trimO 1 s' = _
            rw [h]
            simp only [ctS, List.length_append, List.length_cons, List.length_nil, Nat.zero_add, Nat.add_assoc], by simp, by rw [he]; simp, fun x hx => by
            rcases List.mem_append.1 hx with hx | hx
            · exact hc x hx
            · rw [List.mem_singleton.1 hx]; exact hq, by rw [hsp]; simp⟩
      refine Wp.imp (K' := fun s' => trimO 1 s' = ⟨[(0, .str s), (1, .int .u8 q.toNat), (5, .own 0 D.length), (6, i64 ((D.flatMap (enq q)).length : Nat)), (9, i64 (s.length : Nat)), (10, i64 ((D.flatMap (enq q)).length + cur.length + 1 : Nat))], [.row 9 1 false (D.map strC)]⟩) (R' := fun _ => False) (B' := fun _ _ => False) ?_ hwit (fun _ h => h.elim) (fun _ _ h => h.elim)
      simp only [ctS]
      generalize (D.flatMap (enq q)).length = F at *
      generalize hpp : F + cur.length = p at *
      generalize D.map strC = R0 at *
      have hp' : (p : Int) < s.length := by omega
      (all_goals have := fa (a4 hp' hg hne hne'); repeat' first | refine Wp.v ?_ | (refine Wp.c ?_ ?_ <;> intro))
      (have := fa @wrap_id; repeat refine Wp.f ?_)
      exact trimO_len rfl
set_option maxHeartbeats 8000000 in
theorem cut_call (s : List UInt8) (q : UInt8) (hs : s.length ≤ 100000000) (st : List Ob) : Cl T n_shape_cut [.str s, .int .u8 q.toNat] st (wordsU true (spl q s)) st := by
  show Cl T n_shape_cut [.str s, .int .u8 q.toNat] st (.sl true ((spl q s).map strC)) st
  refine Wp.pure (fn := c_shape_cut) rfl rfl rfl («as» := [.str s, .int .u8 q.toNat]) rfl ?_
  have hl := fun R => ct_loop s q hs R
  simp only [ctS, List.flatMap_nil, List.length_nil, List.map_nil] at hl
  (repeat' first | refine Wp.u ?_ | (refine Wp.c ?_ ?_ <;> intro))
  refine (hl _).imp (fun _ h => h.elim) (fun _ h => h) ?_
  rintro b s' ⟨rfl, D, cur, he, hD, hct, rfl⟩
  rw [if_pos rfl, he]
  have e1 := strC_snoc D cur
  have e2 : (D.map strC).length = D.length := List.length_map _
  have e4 : ((D ++ [cur]).map strC).length = D.length + 1 := by simp
  have lim : (D.length + 1) * 16 ≤ 140737488355328 := by omega
  generalize (D.flatMap (enq q)).length = F at *
  generalize (D ++ [cur]).map strC = R1 at *
  generalize D.map strC = R0 at *
  (all_goals have := fa (a4 hct e1 e2 lim); repeat' first | refine Wp.v ?_ | (refine Wp.c ?_ ?_ <;> intro))
  refine Wp.ret ?_; simp [Res, resU, res1, c_shape_cut, e4]
theorem headLen_cons (es : Nat) (x : List U) (xs : List (List U)) : headLen es (x :: xs) = (x.length == es) := rfl
theorem cut_tail (x : List U) (xs : List (List U)) : cut (x :: xs) 1 ((xs.length : Int) + 1) = some xs := by
  unfold cut
  rw [if_pos ⟨by omega, by omega, by simp⟩]
  have : ((xs.length : Int) + 1).toNat = xs.length + 1 := by omega
  rw [this]
  simp
theorem cut_tail2 (x y : List U) (xs : List (List U)) : cut (x :: y :: xs) 2 ((xs.length : Int) + 1 + 1) = some xs := by
  unfold cut
  rw [if_pos ⟨by omega, by omega, by simp⟩]
  have : ((xs.length : Int) + 1 + 1).toNat = xs.length + 1 + 1 := by omega
  rw [this]
  simp
theorem gl_kind : ∀ i, i < 19 → i * 4 + 4 ≤ gl_0.length ∧ ∃ (a b : Int) (d : Bool), (gl_0.drop (i * 4)).take 4 = [.str (opWords.getD i []), i64 a, i64 b, .bool d] := by
  intro i hi
  have : i = 0 ∨ i = 1 ∨ i = 2 ∨ i = 3 ∨ i = 4 ∨ i = 5 ∨ i = 6 ∨ i = 7 ∨ i = 8 ∨ i = 9 ∨ i = 10 ∨ i = 11 ∨ i = 12 ∨ i = 13 ∨ i = 14 ∨ i = 15 ∨ i = 16 ∨ i = 17 ∨ i = 18 := by omega
  rcases this with rfl | rfl | rfl | rfl | rfl | rfl | rfl | rfl | rfl | rfl | rfl | rfl | rfl | rfl | rfl | rfl | rfl | rfl | rfl
  all_goals exact ⟨by decide, _, _, _, rfl⟩
theorem gl_blw : blw blwD 4 (U.agg gl_0) = true := rfl
abbrev out0 : List U := [i64 0, i64 0, .nils, .nils]
def raO (a : List (Int × Int)) : U := match a with
  | [] => .nils
  | _ :: _ => .own 5 a.length
def raX (a : List (Int × Int)) : List Ob := match a with
  | [] => []
  | s :: _ => [.row 67 2 false [srcC s], .row 67 2 false (a.map srcC)]
def roO (k : Nat) (o : List Int) : U := match o with
  | [] => .nils
  | _ :: _ => .own (k + 1) o.length
def roX (o : List Int) : List Ob := match o with
  | [] => []
  | t :: _ => [.row 3 1 false [outC t], .row 3 1 false (o.map outC)]
abbrev rnX (op n : Int) (a o : U) : List Ob := [.box out0, .row 67 2 false [], .row 3 1 false [], .box [i64 op, i64 n, a, o]]
def rn1S (w : List UInt8) (r : List (List UInt8)) (i : Nat) : S := ⟨[(0, wordsU true (w :: r)), (2, .bp 0 0), (3, .bp 3 0), (10, .agg gl_0), (11, i64 i)], rnX (opK w i) 0 .nils .nils⟩
set_option maxHeartbeats 16000000 in
theorem rn1_loop (w : List UInt8) (r : List (List UInt8)) (R : S → Prop) : Wp T (.loop c_shape_readNode_L1) (rn1S w r 0) (fun _ => False) R
    (fun b s' => b = 0 ∧ s' = ⟨[(0, wordsU true (w :: r)), (2, .bp 0 0), (3, .bp 3 0), (10, .agg gl_0), (11, i64 19), (12, .bool false)], rnX (opK w 19) 0 .nils .nils⟩) := by
  refine Wp.count 19 (fun i => rn1S w r i) (fun _ => True) (fun i hi _ => ?_) (fun _ => ?_) 0 (by omega) trivial
  · have hi' : (i : Int) < 19 := by omega
    obtain ⟨hg, a, b, d, hk⟩ := gl_kind i hi
    have hop : opK w (i + 1) = if opWords.getD i [] = w ∧ w ≠ [] then (i : Int) else opK w i := rfl
    have q5 : (0 : Int) < (r.length : Int) + 1 := by omega
    simp only [rn1S, hop, rnX]
    generalize opK w i = op at *
    generalize opWords.getD i [] = v at *
    (have := fa hi'; repeat refine Wp.f ?_)
    refine Wp.i ?_ ?_ <;> intro h1
    · by_cases c1 : v = w
      · subst c1
        by_cases c2 : v = []
        · subst c2
          rw [if_neg (by simp)]
          (have := fa (a3 hi' hg hk); repeat refine Wp.f ?_)
          refine Wp.draw (by (simp [c_shape_readNode_D0, I.need]) <;> rfl) (by (simp [strC, q5]) <;> rfl) (by (simp [strC, q5]) <;> rfl) (by (unfold c_shape_readNode_D0); (repeat (first | ((first | apply Dr.op | apply Dr.opN | (apply Dr.opG; exact rfl)); ((simp [strC, q5]) <;> rfl); (apply Evt.all; intro; (simp [strC, q5]) <;> (try simp (disch := omega) only [wrap_id]) <;> first | exact ⟨rfl, rfl⟩ | exact rfl); ((simp [I.need]) <;> rfl)) | ((first | (apply Dr.opS; exact rfl; decide) | (apply Dr.opS0; exact rfl)); ((simp [I.need]) <;> rfl)))); exact Dr.nil) (by first | decide +kernel | exact rfl) (by (simp [M2.keep]) <;> rfl) ?_
          (repeat' first | refine Wp.u ?_ | (refine Wp.c ?_ ?_ <;> intro))
          (have := fa @wrap_id; repeat refine Wp.f ?_)
          exact ⟨by simp [trimO, trim, gl_blw], trivial⟩
        · have b2 : (v == []) = false := beq_eq_false_iff_ne.2 c2
          have b3 : v.isEmpty = false := List.isEmpty_eq_false_iff.2 c2
          rw [if_pos ⟨rfl, c2⟩]
          (have := fa (a3 hi' hg hk); repeat refine Wp.f ?_)
          refine Wp.draw (by (simp [c_shape_readNode_D0, I.need]) <;> rfl) (by (simp [strC, q5, c2, b2, b3]) <;> rfl) (by (simp [strC, q5, c2, b2, b3]) <;> rfl) (by (unfold c_shape_readNode_D0); (repeat (first | ((first | apply Dr.op | apply Dr.opN | (apply Dr.opG; exact rfl)); ((simp [strC, q5, c2, b2, b3]) <;> rfl); (apply Evt.all; intro; (simp [strC, q5, c2, b2, b3]) <;> (try simp (disch := omega) only [wrap_id]) <;> first | exact ⟨rfl, rfl⟩ | exact rfl); ((simp [I.need]) <;> rfl)) | ((first | (apply Dr.opS; exact rfl; decide) | (apply Dr.opS0; exact rfl)); ((simp [I.need]) <;> rfl)))); exact Dr.nil) (by first | decide +kernel | exact rfl) (by (simp [M2.keep]) <;> rfl) ?_
          (repeat' first | refine Wp.u ?_ | (refine Wp.c ?_ ?_ <;> intro))
          (have := fa @wrap_id; repeat refine Wp.f ?_)
          exact ⟨by simp [trimO, trim, gl_blw], trivial⟩
      · have b1 : (v == w) = false := beq_eq_false_iff_ne.2 c1
        rw [if_neg (fun h => c1 h.1)]
        (have := fa (a3 hi' hg hk); repeat refine Wp.f ?_)
        refine Wp.draw (by (simp [c_shape_readNode_D0, I.need]) <;> rfl) (by (simp [strC, q5, c1, b1]) <;> rfl) (by (simp [strC, q5, c1, b1]) <;> rfl) (by (unfold c_shape_readNode_D0); (repeat (first | ((first | apply Dr.op | apply Dr.opN | (apply Dr.opG; exact rfl)); ((simp [strC, q5, c1, b1]) <;> rfl); (apply Evt.all; intro; (simp [strC, q5, c1, b1]) <;> (try simp (disch := omega) only [wrap_id]) <;> first | exact ⟨rfl, rfl⟩ | exact rfl); ((simp [I.need]) <;> rfl)) | ((first | (apply Dr.opS; exact rfl; decide) | (apply Dr.opS0; exact rfl)); ((simp [I.need]) <;> rfl)))); exact Dr.nil) (by first | decide +kernel | exact rfl) (by (simp [M2.keep]) <;> rfl) ?_
        (repeat' first | refine Wp.u ?_ | (refine Wp.c ?_ ?_ <;> intro))
        (have := fa @wrap_id; repeat refine Wp.f ?_)
        exact ⟨by simp [trimO, trim, gl_blw], trivial⟩
    · cases h1
  · simp only [rn1S]
    repeat refine Wp.a ?_
    refine Wp.i ?_ ?_ <;> intro h1
    · simp at h1
    · exact Wp.exit ⟨rfl, rfl⟩
theorem srcC_snoc (a : List (Int × Int)) (s : Int × Int) : a.map srcC ++ [srcC s] = (a ++ [s]).map srcC := by simp
def rn4E (q : Bool) (r : List (List UInt8)) : Env := [(2, .bp 0 0), (3, .bp 3 0), (6, .sl true (r.map strC))] ++ if q then [(39, .bool false)] else []
def rn4S (op n : Int) (x : List (Int × Int) × List (List UInt8) × Bool) : S := ⟨rn4E x.2.2 x.2.1, rnX op n (raO x.1) .nils ++ raX x.1⟩
set_option maxHeartbeats 16000000 in
theorem rn4_loop (op n : Int) (r : List (List UInt8)) (q : Bool) (hr : r.length ≤ 100000000) (hw : ∀ w ∈ r, w.length ≤ 100000000) (R : S → Prop) : Wp T (.loop c_shape_readNode_L4) (rn4S op n ([], r, q)) (fun _ => False) R
    (fun b s' => b = 2 ∧ s' = ⟨[(2, .bp 0 0), (3, .bp 3 0), (6, .sl true ((r.dropWhile notTo).map strC)), (62, .bool false)], rnX op n (raO ((r.takeWhile notTo).map rdSrc)) .nils ++ raX ((r.takeWhile notTo).map rdSrc)⟩) := by
  refine Wp.loop (fun x : List (Int × Int) × List (List UInt8) × Bool => x.2.1.length) (rn4S op n) (fun x => x.1 ++ (x.2.1.takeWhile notTo).map rdSrc = (r.takeWhile notTo).map rdSrc ∧ x.2.1.dropWhile notTo = r.dropWhile notTo ∧ x.1.length + x.2.1.length ≤ 100000000 ∧ ∀ w ∈ x.2.1, w.length ≤ 100000000) (fun x ⟨h1, h2, h3, h4⟩ => ?_) ([], r, q) ⟨rfl, rfl, by simpa using hr, hw⟩
  obtain ⟨a, u, q⟩ := x
  simp only at h1 h2 h3 h4
  cases u with
  | nil =>
    simp only [List.takeWhile_nil, List.map_nil, List.append_nil, List.dropWhile_nil] at h1 h2
    rw [← h1, ← h2]
    cases a with
    | nil =>
      cases q
      all_goals simp only [rn4S, rn4E, raO, raX]
      all_goals (repeat' first | refine Wp.u ?_ | (refine Wp.c ?_ ?_ <;> intro))
      all_goals exact Wp.exit ⟨rfl, rfl⟩
    | cons s a =>
      simp only [rn4S, raO, raX]
      generalize (s :: a).map srcC = R0 at *
      cases q
      all_goals simp only [rn4E]
      all_goals (repeat' first | refine Wp.u ?_ | (refine Wp.c ?_ ?_ <;> intro))
      all_goals exact Wp.exit ⟨rfl, rfl⟩
  | cons w u =>
    have q5 : (0 : Int) < (u.length : Int) + 1 := by omega
    by_cases hn : w = [62]
    · subst hn
      have hz : notTo [62] = false := rfl
      rw [List.takeWhile_cons, hz] at h1
      rw [List.dropWhile_cons, hz] at h2
      simp only [Bool.false_eq_true, if_false, List.map_nil, List.append_nil] at h1 h2
      rw [← h1, ← h2]
      cases a with
      | nil =>
        cases q
        all_goals simp only [rn4S, rn4E, raO, raX]
        all_goals (all_goals have := fa (a2 @strC.eq_1 q5); repeat' first | refine Wp.v ?_ | (refine Wp.c ?_ ?_ <;> intro))
        all_goals exact Wp.exit ⟨rfl, rfl⟩
      | cons s a =>
        simp only [rn4S, raO, raX]
        generalize (s :: a).map srcC = R0 at *
        cases q
        all_goals simp only [rn4E]
        all_goals (all_goals have := fa (a2 @strC.eq_1 q5); repeat' first | refine Wp.v ?_ | (refine Wp.c ?_ ?_ <;> intro))
        all_goals exact Wp.exit ⟨rfl, rfl⟩
    · have hz : notTo w = true := by simp [notTo, hn]
      have hb : (w == [62]) = false := beq_eq_false_iff_ne.2 hn
      rw [List.takeWhile_cons, hz] at h1
      rw [List.dropWhile_cons, hz] at h2
      simp only [if_true, List.map_cons] at h1 h2
      have hs := fun st => readSrc_call w (h4 w (by simp)) st
      have hct := cut_tail [.str w] (u.map strC)
      rw [List.length_map] at hct
      rw [List.length_cons] at h3
      have hwit : ∀ s', trimO (rn4S op n (a, w :: u, q)).st.length s' = rn4S op n (a ++ [rdSrc w], u, false) → ∃ b : List (Int × Int) × List (List UInt8) × Bool, trimO (rn4S op n (a, w :: u, q)).st.length s' = rn4S op n b ∧ b.2.1.length < (w :: u).length ∧ b.1 ++ (b.2.1.takeWhile notTo).map rdSrc = (r.takeWhile notTo).map rdSrc ∧ b.2.1.dropWhile notTo = r.dropWhile notTo ∧ b.1.length + b.2.1.length ≤ 100000000 ∧ ∀ w ∈ b.2.1, w.length ≤ 100000000 := fun s' h => ⟨_, h, by simp, by simpa using h1, h2, by simp only [List.length_append, List.length_cons, List.length_nil]; omega, fun x hx => h4 x (by simp [hx])⟩
      refine Wp.imp (K' := fun s' => trimO (rn4S op n (a, w :: u, q)).st.length s' = rn4S op n (a ++ [rdSrc w], u, false)) (R' := fun _ => False) (B' := fun _ _ => False) ?_ hwit (fun _ h => h.elim) (fun _ _ h => h.elim)
      clear hwit h1 h2 h4
      generalize rdSrc w = s at *
      simp only [srcC] at hs
      cases a with
      | nil =>
        simp only [rn4S, raO, raX, List.nil_append, List.append_nil, rn4E]
        cases q
        all_goals (all_goals have := fa (a3 @strC.eq_1 q5 hb); repeat' first | refine Wp.v ?_ | (refine Wp.c ?_ ?_ <;> intro))
        all_goals refine Wp.draw (by (simp [c_shape_readNode_D3, I.need]) <;> rfl) (by (simp [strC, q5, headLen_cons, hct]) <;> rfl) (by (simp [strC, q5, headLen_cons, hct]) <;> rfl) (by (unfold c_shape_readNode_D3); (repeat (first | ((first | apply Dr.op | apply Dr.opN | (apply Dr.opG; exact rfl)); ((simp [strC, q5, headLen_cons, hct]) <;> rfl); (apply Evt.all; intro; (simp [strC, q5, headLen_cons, hct]) <;> (try simp (disch := omega) only [wrap_id]) <;> first | exact ⟨rfl, rfl⟩ | exact rfl); ((simp [I.need]) <;> rfl)) | ((first | (apply Dr.opS; exact rfl; decide) | (apply Dr.opS0; exact rfl)); ((simp [I.need]) <;> rfl)) | (apply Dr.call; ((simp [strC, q5, headLen_cons, hct]) <;> rfl); exact hs _) | (apply Dr.callG; (exact rfl); ((simp [strC, q5, headLen_cons, hct]) <;> rfl); exact hs _))); exact Dr.nil) (by first | decide +kernel | exact rfl) (by (simp [M2.keep]) <;> rfl) ?_
        all_goals simp [trimO, trim, srcC]
      | cons t a =>
        have e1 := srcC_snoc (t :: a) s
        have e2 : ((t :: a).map srcC).length = a.length + 1 := by simp
        have e3 : (t :: (a ++ [s])).length = a.length + 1 + 1 := by simp
        have lim : (a.length + 1 + 1) * 16 ≤ 140737488355328 := by rw [List.length_cons] at h3; omega
        simp only [rn4S, raO, raX, List.cons_append, e3, rn4E]
        rw [List.cons_append] at e1
        simp only [srcC] at e1
        generalize (t :: (a ++ [s])).map srcC = R1 at *
        generalize hR0 : (t :: a).map srcC = R0 at *
        rw [List.length_cons]
        generalize a.length + 1 = m at *
        cases q
        all_goals (all_goals have := fa (a3 @strC.eq_1 q5 hb); repeat' first | refine Wp.v ?_ | (refine Wp.c ?_ ?_ <;> intro))
        all_goals refine Wp.draw (by (simp [c_shape_readNode_D3, I.need]) <;> rfl) (by (simp [strC, q5, headLen_cons, hct, e1, e2, lim]) <;> rfl) (by (simp [strC, q5, headLen_cons, hct, e1, e2, lim]) <;> rfl) (by (unfold c_shape_readNode_D3); (repeat (first | ((first | apply Dr.op | apply Dr.opN | (apply Dr.opG; exact rfl)); ((simp [strC, q5, headLen_cons, hct, e1, e2, lim]) <;> rfl); (apply Evt.all; intro; (simp [strC, q5, headLen_cons, hct, e1, e2, lim]) <;> (try simp (disch := omega) only [wrap_id]) <;> first | exact ⟨rfl, rfl⟩ | exact rfl); ((simp [I.need]) <;> rfl)) | ((first | (apply Dr.opS; exact rfl; decide) | (apply Dr.opS0; exact rfl)); ((simp [I.need]) <;> rfl)) | (apply Dr.call; ((simp [strC, q5, headLen_cons, hct, e1, e2, lim]) <;> rfl); exact hs _) | (apply Dr.callG; (exact rfl); ((simp [strC, q5, headLen_cons, hct, e1, e2, lim]) <;> rfl); exact hs _))); exact Dr.nil) (by first | decide +kernel | exact rfl) (by (simp [M2.keep]) <;> rfl) ?_
        all_goals simp [trimO, trim, srcC]
theorem outC_snoc (o : List Int) (t : Int) : o.map outC ++ [[i64 t]] = (o ++ [t]).map outC := by simp [outC]
def rn6E (q : Bool) (r : List (List UInt8)) : Env := [(2, .bp 0 0), (3, .bp 3 0), (6, .sl true (r.map strC))] ++ if q then [(62, .bool false)] else []
def rn6S (op n : Int) (a : List (Int × Int)) (x : List Int × List (List UInt8) × Bool) : S := ⟨rn6E x.2.2 x.2.1, rnX op n (raO a) (roO (4 + (raX a).length) x.1) ++ (raX a ++ roX x.1)⟩
set_option maxHeartbeats 16000000 in
theorem rn6_loop (op n : Int) (a : List (Int × Int)) (r : List (List UInt8)) (q : Bool) (hr : r.length ≤ 100000000) (hw : ∀ w ∈ r, w.length ≤ 100000000) (R : S → Prop) : Wp T (.loop c_shape_readNode_L6) (rn6S op n a ([], r, q)) (fun _ => False) R
    (fun b s' => b = 4 ∧ s' = ⟨[(2, .bp 0 0), (3, .bp 3 0), (6, .sl true ((spO r).2.map strC)), (82, .bool false)], rnX op n (raO a) (roO (4 + (raX a).length) (spO r).1) ++ (raX a ++ roX (spO r).1)⟩) := by
  refine Wp.loop (fun x : List Int × List (List UInt8) × Bool => x.2.1.length) (rn6S op n a) (fun x => x.1 ++ (spO x.2.1).1 = (spO r).1 ∧ (spO x.2.1).2 = (spO r).2 ∧ x.1.length + x.2.1.length ≤ 100000000 ∧ ∀ w ∈ x.2.1, w.length ≤ 100000000) (fun x ⟨h1, h2, h3, h4⟩ => ?_) ([], r, q) ⟨rfl, rfl, by simpa using hr, hw⟩
  obtain ⟨o, u, q⟩ := x
  simp only at h1 h2 h3 h4
  have hstop : (∀ w t v, u = w :: t :: v → w ≠ [62]) → (spO u).1 = [] ∧ (spO u).2 = u := fun h => by
    match u, h with
    | [], _ => exact ⟨rfl, rfl⟩
    | [w], _ => exact ⟨rfl, rfl⟩
    | w :: t :: v, h =>
      have := h w t v rfl
      unfold spO
      rw [if_neg this]
      exact ⟨rfl, rfl⟩
  have hend : (spO u).1 = [] ∧ (spO u).2 = u → rn6S op n a (o, u, false) = ⟨[(2, .bp 0 0), (3, .bp 3 0), (6, .sl true ((spO r).2.map strC))], rnX op n (raO a) (roO (4 + (raX a).length) (spO r).1) ++ (raX a ++ roX (spO r).1)⟩ := fun ⟨k1, k2⟩ => by
    rw [k1, List.append_nil] at h1
    rw [k2] at h2
    rw [← h1, ← h2]
    rfl
  match u, hstop, hend, h1, h2, h3, h4 with
  | [], hstop, hend, h1, h2, h3, h4 =>
    have he := congrArg S.st (hend (hstop (by simp)))
    obtain ⟨k1, k2⟩ := hstop (by simp)
    rw [k2] at h2
    rw [← h2]
    simp only [rn6S] at he ⊢
    rw [he]
    generalize rnX op n (raO a) (roO (4 + (raX a).length) (spO r).1) ++ (raX a ++ roX (spO r).1) = ST at *
    cases q
    all_goals simp only [rn6E]
    all_goals (repeat' first | refine Wp.u ?_ | (refine Wp.c ?_ ?_ <;> intro))
    all_goals exact Wp.exit ⟨rfl, rfl⟩
  | [w], hstop, hend, h1, h2, h3, h4 =>
    have he := congrArg S.st (hend (hstop (by simp)))
    obtain ⟨k1, k2⟩ := hstop (by simp)
    rw [k2] at h2
    rw [← h2]
    simp only [rn6S] at he ⊢
    rw [he]
    generalize rnX op n (raO a) (roO (4 + (raX a).length) (spO r).1) ++ (raX a ++ roX (spO r).1) = ST at *
    cases q
    all_goals simp only [rn6E]
    all_goals (repeat' first | refine Wp.u ?_ | (refine Wp.c ?_ ?_ <;> intro))
    all_goals exact Wp.exit ⟨rfl, rfl⟩
  | w :: t :: v, hstop, hend, h1, h2, h3, h4 =>
    have q5 : (0 : Int) < (v.length : Int) + 1 + 1 := by omega
    have q6 : (1 : Int) < (v.length : Int) + 1 + 1 := by omega
    by_cases hn : w = [62]
    · subst hn
      have hs : spO ([62] :: t :: v) = (rdTo t :: (spO v).1, (spO v).2) := by rw [spO, if_pos rfl]
      rw [hs] at h1 h2
      simp only at h1 h2
      have ht := fun st => readTo_call t (h4 t (by simp)) st
      have hct := cut_tail2 [.str [62]] [.str t] (v.map strC)
      rw [List.length_map] at hct
      simp only [List.length_cons] at h3
      have hwit : ∀ s', trimO (rn6S op n a (o, [62] :: t :: v, q)).st.length s' = rn6S op n a (o ++ [rdTo t], v, false) → ∃ b : List Int × List (List UInt8) × Bool, trimO (rn6S op n a (o, [62] :: t :: v, q)).st.length s' = rn6S op n a b ∧ b.2.1.length < ([62] :: t :: v).length ∧ b.1 ++ (spO b.2.1).1 = (spO r).1 ∧ (spO b.2.1).2 = (spO r).2 ∧ b.1.length + b.2.1.length ≤ 100000000 ∧ ∀ w ∈ b.2.1, w.length ≤ 100000000 := fun s' h => ⟨_, h, by simp only [List.length_cons]; omega, by simpa using h1, h2, by simp only [List.length_append, List.length_cons, List.length_nil]; omega, fun x hx => h4 x (by simp [hx])⟩
      refine Wp.imp (K' := fun s' => trimO (rn6S op n a (o, [62] :: t :: v, q)).st.length s' = rn6S op n a (o ++ [rdTo t], v, false)) (R' := fun _ => False) (B' := fun _ _ => False) ?_ hwit (fun _ h => h.elim) (fun _ _ h => h.elim)
      clear hwit h1 h2 h4 hstop hend
      generalize rdTo t = s at *
      cases o with
      | nil =>
        cases a with
        | nil =>
          simp only [rn6S, raO, raX, roO, roX, List.nil_append, List.append_nil, rn6E, List.length_nil]
          cases q
          all_goals (all_goals have := fa (a3 @strC.eq_1 q5 q6); repeat' first | refine Wp.v ?_ | (refine Wp.c ?_ ?_ <;> intro))
          all_goals refine Wp.draw (by (simp [c_shape_readNode_D5, I.need]) <;> rfl) (by (simp [strC, q5, q6, headLen_cons, hct]) <;> rfl) (by (simp [strC, q5, q6, headLen_cons, hct]) <;> rfl) (by (unfold c_shape_readNode_D5); (repeat (first | ((first | apply Dr.op | apply Dr.opN | (apply Dr.opG; exact rfl)); ((simp [strC, q5, q6, headLen_cons, hct]) <;> rfl); (apply Evt.all; intro; (simp [strC, q5, q6, headLen_cons, hct]) <;> (try simp (disch := omega) only [wrap_id]) <;> first | exact ⟨rfl, rfl⟩ | exact rfl); ((simp [I.need]) <;> rfl)) | ((first | (apply Dr.opS; exact rfl; decide) | (apply Dr.opS0; exact rfl)); ((simp [I.need]) <;> rfl)) | (apply Dr.call; ((simp [strC, q5, q6, headLen_cons, hct]) <;> rfl); exact ht _) | (apply Dr.callG; (exact rfl); ((simp [strC, q5, q6, headLen_cons, hct]) <;> rfl); exact ht _))); exact Dr.nil) (by first | decide +kernel | exact rfl) (by (simp [M2.keep]) <;> rfl) ?_
          all_goals simp [trimO, trim, outC]
        | cons z a =>
          simp only [rn6S, raO, raX, roO, roX, List.nil_append, List.append_nil, rn6E, List.length_cons, List.length_nil]
          generalize (z :: a).map srcC = RA at *
          cases q
          all_goals (all_goals have := fa (a3 @strC.eq_1 q5 q6); repeat' first | refine Wp.v ?_ | (refine Wp.c ?_ ?_ <;> intro))
          all_goals refine Wp.draw (by (simp [c_shape_readNode_D5, I.need]) <;> rfl) (by (simp [strC, q5, q6, headLen_cons, hct]) <;> rfl) (by (simp [strC, q5, q6, headLen_cons, hct]) <;> rfl) (by (unfold c_shape_readNode_D5); (repeat (first | ((first | apply Dr.op | apply Dr.opN | (apply Dr.opG; exact rfl)); ((simp [strC, q5, q6, headLen_cons, hct]) <;> rfl); (apply Evt.all; intro; (simp [strC, q5, q6, headLen_cons, hct]) <;> (try simp (disch := omega) only [wrap_id]) <;> first | exact ⟨rfl, rfl⟩ | exact rfl); ((simp [I.need]) <;> rfl)) | ((first | (apply Dr.opS; exact rfl; decide) | (apply Dr.opS0; exact rfl)); ((simp [I.need]) <;> rfl)) | (apply Dr.call; ((simp [strC, q5, q6, headLen_cons, hct]) <;> rfl); exact ht _) | (apply Dr.callG; (exact rfl); ((simp [strC, q5, q6, headLen_cons, hct]) <;> rfl); exact ht _))); exact Dr.nil) (by first | decide +kernel | exact rfl) (by (simp [M2.keep]) <;> rfl) ?_
          all_goals simp [trimO, trim, outC]
      | cons p o =>
        have e1 := outC_snoc (p :: o) s
        have e2 : ((p :: o).map outC).length = o.length + 1 := by simp
        have e3 : (p :: (o ++ [s])).length = o.length + 1 + 1 := by simp
        have lim : (o.length + 1 + 1) * 8 ≤ 140737488355328 := by rw [List.length_cons] at h3; omega
        rw [List.cons_append] at e1
        cases a with
        | nil =>
          simp only [rn6S, raO, raX, roO, roX, List.cons_append, e3, rn6E, List.nil_append, List.length_nil]
          generalize (p :: (o ++ [s])).map outC = R1 at *
          generalize hR0 : (p :: o).map outC = R0 at *
          rw [List.length_cons]
          generalize o.length + 1 = m at *
          cases q
          all_goals (all_goals have := fa (a3 @strC.eq_1 q5 q6); repeat' first | refine Wp.v ?_ | (refine Wp.c ?_ ?_ <;> intro))
          all_goals refine Wp.draw (by (simp [c_shape_readNode_D5, I.need]) <;> rfl) (by (simp [strC, q5, q6, headLen_cons, hct, e1, e2, lim]) <;> rfl) (by (simp [strC, q5, q6, headLen_cons, hct, e1, e2, lim]) <;> rfl) (by (unfold c_shape_readNode_D5); (repeat (first | ((first | apply Dr.op | apply Dr.opN | (apply Dr.opG; exact rfl)); ((simp [strC, q5, q6, headLen_cons, hct, e1, e2, lim]) <;> rfl); (apply Evt.all; intro; (simp [strC, q5, q6, headLen_cons, hct, e1, e2, lim]) <;> (try simp (disch := omega) only [wrap_id]) <;> first | exact ⟨rfl, rfl⟩ | exact rfl); ((simp [I.need]) <;> rfl)) | ((first | (apply Dr.opS; exact rfl; decide) | (apply Dr.opS0; exact rfl)); ((simp [I.need]) <;> rfl)) | (apply Dr.call; ((simp [strC, q5, q6, headLen_cons, hct, e1, e2, lim]) <;> rfl); exact ht _) | (apply Dr.callG; (exact rfl); ((simp [strC, q5, q6, headLen_cons, hct, e1, e2, lim]) <;> rfl); exact ht _))); exact Dr.nil) (by first | decide +kernel | exact rfl) (by (simp [M2.keep]) <;> rfl) ?_
          all_goals simp [trimO, trim, outC]
        | cons z a =>
          simp only [rn6S, raO, raX, roO, roX, List.cons_append, e3, rn6E, List.nil_append, List.length_cons, List.length_nil]
          generalize (z :: a).map srcC = RA at *
          generalize (p :: (o ++ [s])).map outC = R1 at *
          generalize hR0 : (p :: o).map outC = R0 at *
          generalize o.length + 1 = m at *
          cases q
          all_goals (all_goals have := fa (a3 @strC.eq_1 q5 q6); repeat' first | refine Wp.v ?_ | (refine Wp.c ?_ ?_ <;> intro))
          all_goals refine Wp.draw (by (simp [c_shape_readNode_D5, I.need]) <;> rfl) (by (simp [strC, q5, q6, headLen_cons, hct, e1, e2, lim]) <;> rfl) (by (simp [strC, q5, q6, headLen_cons, hct, e1, e2, lim]) <;> rfl) (by (unfold c_shape_readNode_D5); (repeat (first | ((first | apply Dr.op | apply Dr.opN | (apply Dr.opG; exact rfl)); ((simp [strC, q5, q6, headLen_cons, hct, e1, e2, lim]) <;> rfl); (apply Evt.all; intro; (simp [strC, q5, q6, headLen_cons, hct, e1, e2, lim]) <;> (try simp (disch := omega) only [wrap_id]) <;> first | exact ⟨rfl, rfl⟩ | exact rfl); ((simp [I.need]) <;> rfl)) | ((first | (apply Dr.opS; exact rfl; decide) | (apply Dr.opS0; exact rfl)); ((simp [I.need]) <;> rfl)) | (apply Dr.call; ((simp [strC, q5, q6, headLen_cons, hct, e1, e2, lim]) <;> rfl); exact ht _) | (apply Dr.callG; (exact rfl); ((simp [strC, q5, q6, headLen_cons, hct, e1, e2, lim]) <;> rfl); exact ht _))); exact Dr.nil) (by first | decide +kernel | exact rfl) (by (simp [M2.keep]) <;> rfl) ?_
          all_goals simp [trimO, trim, outC]
    · have hb : (w == [62]) = false := beq_eq_false_iff_ne.2 hn
      have hst := hstop (fun w' t' v' e => by injection e with e _; rw [← e]; exact hn)
      have he := congrArg S.st (hend hst)
      rw [hst.2] at h2
      rw [← h2]
      simp only [rn6S] at he ⊢
      rw [he]
      generalize rnX op n (raO a) (roO (4 + (raX a).length) (spO r).1) ++ (raX a ++ roX (spO r).1) = ST at *
      cases q
      all_goals simp only [rn6E]
      all_goals (all_goals have := fa (a4 @strC.eq_1 q5 q6 hb); repeat' first | refine Wp.v ?_ | (refine Wp.c ?_ ?_ <;> intro))
      all_goals exact Wp.exit ⟨rfl, rfl⟩
def frzR (n : Nat) (st : List Ob) (id : Nat) : Option Ob → Option (U × List Ob)
  | some (.frow xs) => if xs.length = n then some (.sl true xs, st) else none
  | some (.row _ _ false xs) => if xs.length = n then some (.sl true xs, st.set id (.frow xs)) else none
  | some (.row _ _ true xs) => if xs.length = n then (accM (accM (frz 10)) st xs).bind fun (xs, st) => match st[id]? with
    | some (.row _ _ _ ys) => if ys.length = n then some (.sl true xs, st.set id (.frow xs)) else none
    | _ => none
    else none
  | _ => none
theorem frz11_own (st : List Ob) (id n : Nat) : frz 11 st (.own id n) = frzR n st id st[id]? := by
  rw [frz]
  unfold frzR
  rfl
theorem frzR_row (n : Nat) (st : List Ob) (id t e : Nat) (xs : List (List U)) : frzR n st id (some (.row t e false xs)) = if xs.length = n then some (.sl true xs, st.set id (.frow xs)) else none := rfl
theorem rdNode_15n {w : List UInt8} (h : opK w 19 = 15) : rdNode [w] = rdRest 15 0 [] := by simp only [rdNode]; rw [if_pos h]
theorem rdNode_15b {w t : List UInt8} {r : List (List UInt8)} (h : opK w 19 = 15) (hn : pNum t = none) : rdNode (w :: t :: r) = badN := by simp only [rdNode, hn]; rw [if_pos h]
theorem rdNode_15s {w t : List UInt8} {r : List (List UInt8)} {n : Int} (h : opK w 19 = 15) (hn : pNum t = some n) : rdNode (w :: t :: r) = rdRest 15 n r := by simp only [rdNode, hn]; rw [if_pos h]
theorem rdNode_o {w : List UInt8} {r : List (List UInt8)} (h : ¬ opK w 19 = 15) : rdNode (w :: r) = rdRest (opK w 19) 0 r := by simp only [rdNode]; rw [if_neg h]
def rnTail : C := match c_shape_readNode.body with
  | .seq _ (.seq _ (.seq _ (.seq _ (.seq _ c)))) => c
  | c => c
set_option maxHeartbeats 16000000 in
theorem rn_rest (op n : Int) (r : List (List UInt8)) (q : Bool) (hr : r.length ≤ 100000000) (hw : ∀ w ∈ r, w.length ≤ 100000000) :
    Wp T rnTail ⟨rn4E q r, rnX op n .nils .nils⟩ (Res c_shape_readNode (.agg (nodeC (rdRest op n r)))) (Res c_shape_readNode (.agg (nodeC (rdRest op n r)))) (fun _ _ => False) := by
  have h4 := fun R => rn4_loop op n r q hr hw R
  have h6 := fun a R => rn6_loop op n a (r.dropWhile notTo) true (Nat.le_trans (List.IsSuffix.length_le (List.dropWhile_suffix _)) hr) (fun w hw' => hw w ((List.dropWhile_suffix _).subset hw')) R
  unfold rdRest
  generalize (r.takeWhile notTo).map rdSrc = a at *
  have h6 := fun R => h6 a R
  generalize r.dropWhile notTo = u at *
  have hx : ∀ k, (raX a).length = k → (a = [] ∧ k = 0) ∨ (∃ s b, a = s :: b ∧ k = 2) := fun k hk => by
    cases a with
    | nil => exact .inl ⟨rfl, by rw [← hk]; rfl⟩
    | cons s b => exact .inr ⟨s, b, rfl, by rw [← hk]; rfl⟩
  simp only [rn6S, rn6E, roO, roX, List.append_nil, if_true, List.cons_append, List.nil_append] at h6
  simp only [rn4S, raO, raX, List.append_nil] at h4
  show Wp T (.seq _ _) _ _ _ _
  refine Wp.seq (Wp.block ?_)
  refine (h4 _).imp (fun _ h => h.elim) (fun _ h => h) ?_
  rintro b s ⟨rfl, rfl⟩
  rw [if_pos rfl]
  refine Wp.seq (Wp.block ?_)
  refine (h6 _).imp (fun _ h => h.elim) (fun _ h => h) ?_
  rintro b s ⟨rfl, rfl⟩
  rw [if_pos rfl]
  generalize (spO u).1 = o at *
  generalize (spO u).2 = z at *
  clear h4 h6
  cases z with
  | cons w z =>
    have q5 : (0 : Int) < (z.length : Int) + 1 := by omega
    rw [if_neg (by simp)]
    generalize raO a = uA
    generalize roO (4 + (raX a).length) o = uO
    generalize raX a ++ roX o = X
    (all_goals have := fa q5; repeat' first | refine Wp.v ?_ | (refine Wp.c ?_ ?_ <;> intro))
    refine Wp.ret ?_; simp [Res, resU, res1, c_shape_readNode, nodeC, badN, srcsU, outsU]
  | nil =>
    rw [if_pos rfl]
    cases a with
    | nil =>
      cases o with
      | nil =>
        simp only [raO, raX, roO, roX, List.append_nil]
        (repeat' first | refine Wp.u ?_ | (refine Wp.c ?_ ?_ <;> intro))
        refine Wp.ret ?_; simp [Res, resU, res1, c_shape_readNode, nodeC, srcsU, outsU]
      | cons p o =>
        have e2 : ((p :: o).map outC).length = (p :: o).length := List.length_map _
        simp only [raO, raX, roO, roX, List.nil_append, List.length_nil, nodeC, srcsU, outsU]
        generalize (p :: o).map outC = RO at *
        generalize (p :: o).length = m at *
        (repeat' first | refine Wp.u ?_ | (refine Wp.c ?_ ?_ <;> intro))
        refine Wp.ret ?_; simp [Res, resU, res1, c_shape_readNode, frz11_own, frzR_row, e2]
    | cons s a =>
      have e1 : ((s :: a).map srcC).length = (s :: a).length := List.length_map _
      cases o with
      | nil =>
        simp only [raO, raX, roO, roX, List.append_nil, nodeC, srcsU, outsU]
        generalize (s :: a).map srcC = RA at *
        generalize (s :: a).length = m at *
        (repeat' first | refine Wp.u ?_ | (refine Wp.c ?_ ?_ <;> intro))
        refine Wp.ret ?_; simp [Res, resU, res1, c_shape_readNode, frz11_own, frzR_row, e1]
      | cons p o =>
        have e2 : ((p :: o).map outC).length = (p :: o).length := List.length_map _
        simp only [raO, raX, roO, roX, List.cons_append, List.nil_append, List.length_cons, List.length_nil, nodeC, srcsU, outsU] at *
        generalize (s :: a).map srcC = RA at *
        generalize (p :: o).map outC = RO at *
        (repeat' first | refine Wp.u ?_ | (refine Wp.c ?_ ?_ <;> intro))
        refine Wp.ret ?_; simp [Res, resU, res1, c_shape_readNode, frz11_own, frzR_row, e1, e2]
theorem gl76 : gl_0.take 76 = gl_0 := rfl
set_option maxHeartbeats 16000000 in
theorem readNode_call (w : List UInt8) (r : List (List UInt8)) (hr : r.length ≤ 10000000) (hw : ∀ t ∈ r, t.length ≤ 100000000) (st : List Ob) : Cl T n_shape_readNode [wordsU true (w :: r)] st (.agg (nodeC (rdNode (w :: r)))) st := by
  refine Wp.pure (fn := c_shape_readNode) rfl rfl rfl («as» := [wordsU true (w :: r)]) rfl ?_
  have h1 := fun R => rn1_loop w r R
  have hct := cut_tail [.str w] (r.map strC)
  rw [List.length_map] at hct
  have h0 : opK w 0 = -1 := rfl
  simp only [rn1S, h0] at h1
  have g76 := gl76
  (all_goals have := fa g76; repeat' first | refine Wp.v ?_ | (refine Wp.c ?_ ?_ <;> intro))
  refine (h1 _).imp (fun _ h => h.elim) (fun _ h => h) ?_
  rintro b s ⟨rfl, rfl⟩
  rw [if_pos rfl]
  by_cases h15 : opK w 19 = 15
  · rw [h15]
    cases r with
    | nil =>
      have hrest := rn_rest 15 0 [] true (by simp) (by simp)
      simp only [rn4E] at hrest
      rw [rdNode_15n h15]
      (have := fa (a3 @strC.eq_1 @headLen_cons hct); repeat refine Wp.f ?_)
      refine Wp.i ?_ ?_ <;> intro h
      · cases h
      · refine Wp.skip ?_
        exact hrest.imp (fun _ h => h) (fun _ h => h) (fun _ _ h => h)
    | cons t r =>
      have q5 : (0 : Int) < (r.length : Int) + 1 := by omega
      have hp := nparse_call t (hw t (by simp))
      have hct2 := cut_tail [.str t] (r.map strC)
      rw [List.length_map] at hct2
      rw [List.map_cons, List.length_cons] at hct
      simp only [strC] at hct
      have hcc : (((r.length + 1 : Nat) : Int) + 1) = (r.length : Int) + 1 + 1 := by omega
      rw [hcc] at hct
      cases hn : pNum t with
      | none =>
        rw [hn] at hp
        simp only [numU] at hp
        rw [rdNode_15b h15 hn]
        (all_goals have := fa (a4 @strC.eq_1 @headLen_cons hct q5); repeat' first | refine Wp.v ?_ | (apply Wp.call; exact hp _) | (refine Wp.c ?_ ?_ <;> intro))
        refine Wp.ret ?_; simp [Res, resU, res1, c_shape_readNode, nodeC, badN, srcsU, outsU]
      | some n =>
        rw [hn] at hp
        simp only [numU] at hp
        rw [rdNode_15s h15 hn]
        have hrest := rn_rest 15 n r false (by rw [List.length_cons] at hr; omega) (fun x hx => hw x (by simp [hx]))
        simp only [rn4E] at hrest
        (all_goals have := fa (a4 @strC.eq_1 @headLen_cons hct q5); repeat' first | refine Wp.v ?_ | (apply Wp.call; exact hp _) | (refine Wp.c ?_ ?_ <;> intro))
        refine Wp.draw (by (simp [c_shape_readNode_D2, I.need]) <;> rfl) (by (simp [strC, headLen_cons, hct2]) <;> rfl) (by (simp [strC, headLen_cons, hct2]) <;> rfl) (by (unfold c_shape_readNode_D2); (repeat (first | ((first | apply Dr.op | apply Dr.opN | (apply Dr.opG; exact rfl)); ((simp [strC, headLen_cons, hct2]) <;> rfl); (apply Evt.all; intro; (simp [strC, headLen_cons, hct2]) <;> (try simp (disch := omega) only [wrap_id]) <;> first | exact ⟨rfl, rfl⟩ | exact rfl); ((simp [I.need]) <;> rfl)) | ((first | (apply Dr.opS; exact rfl; decide) | (apply Dr.opS0; exact rfl)); ((simp [I.need]) <;> rfl)))); exact Dr.nil) (by first | decide +kernel | exact rfl) (by (simp [M2.keep]) <;> rfl) ?_
        exact hrest.imp (fun _ h => h) (fun _ h => h) (fun _ _ h => h)
  · have hrest := rn_rest (opK w 19) 0 r true (by omega) hw
    rw [rdNode_o h15]
    simp only [rn4E] at hrest
    generalize opK w 19 = op at *
    (have := fa (a4 @strC.eq_1 @headLen_cons hct h15); repeat refine Wp.f ?_)
    refine Wp.i ?_ ?_ <;> intro h
    · cases h
    · refine Wp.skip ?_
      exact hrest.imp (fun _ h => h) (fun _ h => h) (fun _ _ h => h)
end Go.Proofs.YtbcojbmalcghbaaDoor.M2
