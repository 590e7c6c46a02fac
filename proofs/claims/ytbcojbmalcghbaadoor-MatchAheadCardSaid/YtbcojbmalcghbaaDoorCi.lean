/- What the functions answer in M2: values of nodes; what comes by a way. -/
import Derived.Test.YtbcojbmalcghbaaDoorCg
set_option linter.unusedSimpArgs false
set_option linter.unusedVariables false
set_option linter.unusedSectionVars false
namespace Go.Proofs.YtbcojbmalcghbaaDoor.M2
open Go
attribute [local simp] ev1 M2.get put A.ev ld sub part elems bin arith un opt idx fillC cellsO splice over newOb sto fillR laidOwn appTo appRow touch touchN touchM touchE touchA plainU flatU plainAs allM rowAt stoRow accM_nil accM_cons accMM_nil accMM_cons frz_int frz_bool frz_str frz_slt frz_nils frz_nilI frz_nilF frz_own frzRow_row frzRow_frow Ob.blw blw_bool blw_int blw_str blw_nils blw_nilI blw_nilF blw_nilp blw_nilm blw_sl blw_own blw_bp blw_rp blw_mp blw_it params
attribute [local simp] frz_agg frz_tup frz_iface frzS_agg frzS_iface accMS_cons frzS_int frzS_bool frzS_str frzS_slt frzS_nils frzS_nilI beq_dec bne_dec
def byt (n : Nat) : UInt8 := UInt8.ofNat (48 + n)
def dig (m : Nat) : List UInt8 := if m < 10 then [byt m] else dig (m / 10) ++ [byt (m % 10)]
termination_by m
decreasing_by omega
theorem dig_small {m : Nat} (h : m < 10) : dig m = [byt (m % 10)] := by rw [dig, if_pos h, Nat.mod_eq_of_lt h]
theorem dig_big {m : Nat} (h : ¬ m < 10) : dig m = dig (m / 10) ++ [byt (m % 10)] := by rw [dig, if_neg h]
theorem dig_len : ∀ (k m : Nat), m < 10 ^ (k + 1) → (dig m).length ≤ k + 1 := by
  intro k
  induction k with
  | zero =>
    intro m h
    rw [dig_small (by simpa using h)]
    simp
  | succ k ih =>
    intro m h
    by_cases h1 : m < 10
    · rw [dig_small h1]
      simp
    · rw [dig_big h1, List.length_append]
      have := ih (m / 10) (by rw [Nat.pow_succ] at h; omega)
      simp only [List.length_cons, List.length_nil]
      omega
theorem dig_20 {m : Nat} (h : m ≤ 9223372036854775808) : (dig m).length ≤ 20 := dig_len 19 m (by omega)
def textF (n : Int) : List UInt8 := if n < 0 then 45 :: dig n.natAbs else dig n.natAbs
theorem bytes_one (n : Int) : bytes [[.int .u8 n]] = some [UInt8.ofNat n.toNat] := rfl
set_option maxHeartbeats 4000000 in
theorem digits_call (m : Nat) : m ≤ 9223372036854775808 → ∀ st, Cl T n_joineryref01_digits [i64 (-(m : Int))] st (.str (dig m)) st := by
  induction m using Nat.strongRecOn with
  | _ m ih =>
  intro hm st
  obtain ⟨n, hn⟩ : ∃ n : Int, -(m : Int) = n := ⟨_, rfl⟩
  obtain ⟨r, hr⟩ : ∃ r : Int, -((m % 10 : Nat) : Int) = r := ⟨_, rfl⟩
  obtain ⟨q, hq⟩ : ∃ q : Int, -((m / 10 : Nat) : Int) = q := ⟨_, rfl⟩
  have er : n.tmod 10 = r := by rw [← hn, ← hr, Int.neg_tmod]; rfl
  have eq : n.tdiv 10 = q := by rw [← hn, ← hq, Int.neg_tdiv]; rfl
  have hw : IntKind.wrap .u8 (48 - r) = 48 - r := by
    simp only [IntKind.wrap, IntKind.bits, IntKind.signed, Bool.false_and]
    simp
    omega
  have hc : UInt8.ofNat (48 - r).toNat = byt (m % 10) := by
    unfold byt
    congr 1
    omega
  have r0 : -9 ≤ r ∧ r ≤ 0 := by omega
  have n0 : -9223372036854775808 ≤ n ∧ n ≤ 0 := by omega
  have q0 : -9223372036854775808 ≤ q ∧ q ≤ 0 := by omega
  rw [hn]
  refine Wp.pure (fn := c_joineryref01_digits) rfl rfl rfl («as» := [i64 n]) rfl ?_
  by_cases h9 : m < 10
  · have h9' : (-10 : Int) < n := by omega
    rw [dig_small h9]
    (all_goals have := fa (a5 er hw @bytes_one hc h9'); repeat' first | refine Wp.v ?_ | (refine Wp.c ?_ ?_ <;> intro))
    refine Wp.ret ?_; simp [Res, resU, res1, c_joineryref01_digits]
  · have h9' : ¬ (-10 : Int) < n := by omega
    have hl := dig_20 (m := m / 10) (by omega)
    have hl2 : (dig (m / 10)).length ≤ 9223372036854775806 := by omega
    have hl3 : (dig (m / 10)).length + 1 ≤ 9223372036854775807 := by omega
    have hd := ih (m / 10) (by omega) (by omega)
    rw [hq] at hd
    rw [dig_big h9]
    (all_goals have := fa (a5 er eq hw @bytes_one (a4 hc h9' hl2 hl3)); repeat' first | refine Wp.v ?_ | (apply Wp.call; exact hd _) | (refine Wp.c ?_ ?_ <;> intro))
    refine Wp.ret ?_; simp [Res, resU, res1, c_joineryref01_digits]
set_option maxHeartbeats 4000000 in
theorem rtext_call (n : Int) (h : rng n) (st : List Ob) : Cl T n_joineryref01_Text [i64 n] st (.str (textF n)) st := by
  obtain ⟨h1, h2⟩ := h
  have hd := digits_call n.natAbs (by omega)
  have hl := dig_20 (m := n.natAbs) (by omega)
  have hl2 : (dig n.natAbs).length ≤ 9223372036854775806 := by omega
  have hl3 : (dig n.natAbs).length + 1 ≤ 9223372036854775807 := by omega
  have hl4 : 1 + (dig n.natAbs).length ≤ 9223372036854775807 := by omega
  unfold textF
  refine Wp.pure (fn := c_joineryref01_Text) rfl rfl rfl («as» := [i64 n]) rfl ?_
  by_cases h0 : n < 0
  · rw [if_pos h0]
    rw [show -((n.natAbs : Nat) : Int) = n by omega] at hd
    generalize dig n.natAbs = D at *
    (all_goals have := fa (a4 h0 hl2 hl3 hl4); repeat' first | refine Wp.v ?_ | (apply Wp.call; exact hd _) | (refine Wp.c ?_ ?_ <;> intro))
    refine Wp.ret ?_; simp [Res, resU, res1, c_joineryref01_Text]
  · rw [if_neg h0]
    rw [show -((n.natAbs : Nat) : Int) = -n by omega] at hd
    generalize dig n.natAbs = D at *
    (all_goals have := fa h0; repeat' first | refine Wp.v ?_ | (apply Wp.call; exact hd _) | (refine Wp.c ?_ ?_ <;> intro))
    refine Wp.ret ?_; simp [Res, resU, res1, c_joineryref01_Text]
theorem wrap_u64 {n : Int} (h1 : 0 ≤ n) (h2 : n < 18446744073709551616) : IntKind.wrap .u64 n = n := by
  simp only [IntKind.wrap, IntKind.bits, IntKind.signed, Bool.false_and]
  simp
  omega
theorem wrap_u64n {n : Int} (h1 : -9223372036854775808 ≤ n) (h2 : n < 0) : IntKind.wrap .u64 n = n + 18446744073709551616 := by
  simp only [IntKind.wrap, IntKind.bits, IntKind.signed, Bool.false_and]
  simp
  omega
theorem wrap_u8 {n : Int} (h1 : 0 ≤ n) (h2 : n < 256) : IntKind.wrap .u8 n = n := by
  simp only [IntKind.wrap, IntKind.bits, IntKind.signed, Bool.false_and]
  simp
  omega
def bytC (b : UInt8) : List U := [.int .u8 b.toNat]
def bytR (s : List UInt8) : List (List U) := s.map bytC
theorem bytes_all (s : List UInt8) : bytes (bytR s) = some s := by
  induction s with
  | nil => rfl
  | cons b s ih =>
    show (bytes (bytR s)).bind _ = _
    rw [ih]
    simp
theorem bytR_app (s t : List UInt8) : bytR s ++ bytR t = bytR (s ++ t) := by simp [bytR]
theorem bytR_len (s : List UInt8) : (bytR s).length = s.length := by simp [bytR]
theorem bytR_one (c : UInt8) : [[U.int .u8 (c.toNat : Int)]] = bytR [c] := rfl
def nx0S (n : Int) (a : Nat × List UInt8 × Bool) : S := ⟨[(0, i64 n), (3, .int .u64 (a.1 : Nat)), (4, .own 0 a.2.1.length), (5, .bool a.2.2)], [.row 5 1 false (bytR a.2.1)]⟩
def NxI (N : Nat) (a : Nat × List UInt8 × Bool) : Prop := a.1 ≤ N ∧ (a.2.2 = true → dig a.1 ++ a.2.1.reverse = dig N) ∧ (a.2.2 = false → a.1 = 0 ∧ a.2.1.reverse = dig N)
theorem byt_nat {r : Nat} (h : r < 10) : (((byt r).toNat : Nat) : Int) = 48 + (r : Int) := by
  unfold byt
  rw [UInt8.toNat_ofNat']
  omega
set_option maxHeartbeats 4000000 in
theorem nx0_loop (n : Int) (N : Nat) (hN : N ≤ 9223372036854775808) (R : S → Prop) : Wp T (.loop c_num_Text_L0) (nx0S n (N, [], true)) (fun _ => False) R
    (fun k s' => k = 0 ∧ s' = ⟨[(0, i64 n), (3, .int .u64 0), (4, .own 0 (dig N).length), (15, .bool false)], [.row 5 1 false (bytR (dig N).reverse)]⟩) := by
  have h20 := dig_20 hN
  refine Wp.loop (fun a : Nat × List UInt8 × Bool => 2 * a.1 + if a.2.2 then 1 else 0) (nx0S n) (NxI N) (fun a ⟨hu, hm, hf⟩ => ?_) (N, [], true) ⟨Nat.le_refl _, fun _ => by simp, fun h => by cases h⟩
  obtain ⟨u, t, more⟩ := a
  simp only at hu hm hf
  cases more with
  | false =>
    obtain ⟨rfl, ht⟩ := hf rfl
    simp only [nx0S]
    repeat refine Wp.a ?_
    refine Wp.i ?_ ?_ <;> intro h1
    · cases h1
    · refine Wp.exit ⟨rfl, ?_⟩
      have : t = (dig N).reverse := by rw [← ht, List.reverse_reverse]
      rw [this, List.length_reverse]
  | true =>
    have hd := hm rfl
    obtain ⟨r, hr⟩ : ∃ r, u % 10 = r := ⟨_, rfl⟩
    obtain ⟨q, hq⟩ : ∃ q, u / 10 = q := ⟨_, rfl⟩
    have er : (u : Int).tmod 10 = (r : Int) := by rw [← hr]; rfl
    have eq : (u : Int).tdiv 10 = (q : Int) := by rw [← hq]; rfl
    have er' : (u : Int) % 10 = (r : Int) := by omega
    have eq' : (u : Int) / 10 = (q : Int) := by omega
    have w1 : IntKind.wrap .u64 (r : Int) = r := wrap_u64 (by omega) (by omega)
    have w2 : IntKind.wrap .u64 (48 + (r : Int)) = 48 + (r : Int) := wrap_u64 (by omega) (by omega)
    have w3 : IntKind.wrap .u64 (q : Int) = q := wrap_u64 (by omega) (by omega)
    have w4 : IntKind.wrap .u8 (48 + (r : Int)) = ((byt r).toNat : Int) := by rw [wrap_u8 (by omega) (by omega), byt_nat (by omega)]
    have hl : t.length + 1 ≤ 20 := by
      have := congrArg List.length hd
      have hp : 0 < (dig u).length := by
        by_cases h : u < 10
        · rw [dig_small h]; simp
        · rw [dig_big h]; simp
      simp only [List.length_append, List.length_reverse] at this
      omega
    have hl1 : t.length + 1 ≤ 140737488355328 := by omega
    have hl2 : t.length ≤ 140737488355327 := by omega
    have hnext : NxI N (q, t ++ [byt r], decide (0 < q)) := by
      refine ⟨by simp only; omega, fun h => ?_, fun h => ?_⟩
      · have h' : 0 < q := by simpa using h
        have : dig u = dig q ++ [byt r] := by rw [dig_big (m := u) (by omega), hq, hr]
        rw [this] at hd
        simpa using hd
      · have h' : q = 0 := by simpa using h
        have : dig u = [byt r] := by rw [dig_small (m := u) (by omega), hr]
        rw [this] at hd
        exact ⟨h', by simpa using hd⟩
    simp only [nx0S]
    repeat refine Wp.a ?_
    refine Wp.i ?_ ?_ <;> intro h1
    · (have := fa (a5 er eq er' eq' (a5 w1 w2 w3 w4 (a3 @bytR_len hl1 hl2))); repeat refine Wp.f ?_)
      refine ⟨(q, t ++ [byt r], decide (0 < q)), ?_, ?_, hnext⟩
      · simp [trimO, trim, nx0S, bytR, bytC]
      · simp only
        split <;> rename_i h
        · have h' : 0 < q := by simpa using h
          simp only [if_true]
          omega
        · simp only [if_true]
          omega
    · cases h1
theorem bytR_set (s : List UInt8) (k : Nat) (b : UInt8) : (bytR s).set k [.int .u8 (b.toNat : Int)] = bytR (s.set k b) := by simp [bytR, bytC, List.map_set]
theorem bytR_rep (n : Nat) : List.replicate n [U.int .u8 0] = bytR (List.replicate n 0) := by simp [bytR, bytC]
theorem bytR_get (s : List UInt8) (i : Nat) (b : UInt8) (h : s[i]? = some b) : (bytR s)[i]? = some [.int .u8 (b.toNat : Int)] := by simp [bytR, bytC, h]
theorem rep_set (k : Nat) (r : List UInt8) (b : UInt8) : (List.replicate (k + 1) 0 ++ r).set k b = List.replicate k 0 ++ b :: r := by
  induction k with
  | zero => rfl
  | succ k ih =>
    rw [List.replicate_succ, List.cons_append, List.set_cons_succ, ih]
    rfl
def out1 (t : List UInt8) (i : Nat) : List UInt8 := List.replicate (t.length - i) 0 ++ (t.take i).reverse
theorem out1_len (t : List UInt8) (i : Nat) (h : i ≤ t.length) : (out1 t i).length = t.length := by
  simp [out1]
  omega
theorem out1_set (t : List UInt8) (i k : Nat) (h : i < t.length) (hk : t.length - 1 - i = k) : (out1 t i).set k t[i] = out1 t (i + 1) := by
  unfold out1
  rw [show t.length - i = k + 1 by omega, rep_set, List.take_succ_eq_append_getElem h, List.reverse_append, show t.length - (i + 1) = k by omega]
  rfl
def nx1S (t : List UInt8) (X : List Ob) (i : Nat) : S := ⟨[(4, .own 0 t.length), (6, .own (X.length + 1) t.length), (35, .own 0 t.length), (36, i64 t.length), (37, i64 i)], .row 5 1 false (bytR t) :: (X ++ [.row 5 1 false (bytR (out1 t i))])⟩
set_option maxHeartbeats 4000000 in
theorem nx1_loop (t : List UInt8) (X : List Ob) (hX : X = [] ∨ X = [.row 5 1 false (bytR [45])]) (ht : t.length ≤ 1000) (R : S → Prop) : Wp T (.loop c_num_Text_L1) (nx1S t X 0) (fun _ => False) R
    (fun k s' => k = 2 ∧ s' = ⟨[(4, .own 0 t.length), (6, .own (X.length + 1) t.length), (35, .own 0 t.length), (36, i64 t.length), (37, i64 (t.length : Nat)), (38, .bool false)], .row 5 1 false (bytR t) :: (X ++ [.row 5 1 false (bytR t.reverse)])⟩) := by
  refine Wp.count t.length (fun i => nx1S t X i) (fun _ => True) (fun i hi _ => ?_) (fun _ => ?_) 0 (by omega) trivial
  · have hi' : (i : Int) < t.length := by omega
    obtain ⟨k, hk⟩ : ∃ k, t.length - 1 - i = k := ⟨_, rfl⟩
    have ek : (t.length : Int) - 1 - i = k := by omega
    have hk' : (k : Int) < t.length := by omega
    have hk2 : k < t.length := by omega
    have hg := bytR_get t i t[i] (List.getElem?_eq_getElem hi)
    have hs := bytR_set (out1 t i) k t[i]
    rw [out1_set t i k hi hk] at hs
    have hl := bytR_len (out1 t i)
    rw [out1_len t i (by omega)] at hl
    have hlt := bytR_len t
    have hgo : (bytR (out1 t i))[k]? = some [.int .u8 ((out1 t i)[k]'(by rw [out1_len t i (by omega)]; omega)).toNat] := bytR_get _ _ _ (List.getElem?_eq_getElem _)
    generalize (out1 t i)[k]'(by rw [out1_len t i (by omega)]; omega) = c at hgo
    generalize hB : bytR (out1 t i) = B at *
    have hend : bytR (out1 t (i + 1)) = B.set k [.int .u8 (t[i].toNat : Int)] := hs.symm
    simp only [nx1S, hB, hend]
    generalize t[i] = b at *
    rcases hX with rfl | rfl
    · (have := fa hi'; repeat refine Wp.f ?_)
      refine Wp.i ?_ ?_ <;> intro h1
      · (have := fa (a5 hlt hi' hg hl (a4 hgo ek hk' @wrap_id)); repeat refine Wp.f ?_)
        exact ⟨trimO_len rfl, trivial⟩
      · cases h1
    · (have := fa hi'; repeat refine Wp.f ?_)
      refine Wp.i ?_ ?_ <;> intro h1
      · (have := fa (a5 hlt hi' hg hl (a4 hgo ek hk' @wrap_id)); repeat refine Wp.f ?_)
        exact ⟨trimO_len rfl, trivial⟩
      · cases h1
  · have : out1 t t.length = t.reverse := by simp [out1]
    simp only [nx1S, this]
    repeat refine Wp.a ?_
    refine Wp.i ?_ ?_ <;> intro h1
    · simp at h1
    · exact Wp.exit ⟨rfl, rfl⟩
set_option maxHeartbeats 8000000 in
theorem text_call (n : Int) (h : rng n) (st : List Ob) : Cl T n_num_Text [i64 n] st (.str (textF n)) st := by
  obtain ⟨h1, h2⟩ := h
  refine Wp.pure (fn := c_num_Text) rfl rfl rfl («as» := [i64 n]) rfl ?_
  have hl0 := fun R => nx0_loop n n.natAbs (by omega) R
  have hd := dig_20 (m := n.natAbs) (by omega)
  unfold textF
  by_cases h0 : n < 0
  · rw [if_pos h0]
    obtain ⟨w, hw⟩ : ∃ w : Int, n + 18446744073709551616 = w := ⟨_, rfl⟩
    have w1 : IntKind.wrap .u64 n = w := by rw [wrap_u64n h1 h0, hw]
    have w2 : IntKind.wrap .u64 (-w) = (n.natAbs : Int) := by
      rw [show ((n.natAbs : Nat) : Int) = -n by omega]
      simp only [IntKind.wrap, IntKind.bits, IntKind.signed, Bool.false_and]
      simp
      omega
    generalize n.natAbs = N at *
    obtain ⟨t, ht⟩ : ∃ t, (dig N).reverse ++ [45] = t := ⟨_, rfl⟩
    obtain ⟨M, hM⟩ : ∃ M, (dig N).length + 1 = M := ⟨_, rfl⟩
    have htl : t.length = M := by rw [← ht, ← hM]; simp
    have hMi : ((dig N).length : Int) + 1 = (M : Int) := by omega
    have hl1 := fun R => nx1_loop t [.row 5 1 false (bytR [45])] (Or.inr rfl) (by omega) R
    have e0 : out1 t 0 = List.replicate M 0 := by simp [out1, htl]
    have e3 : bytR [45] = [[U.int .u8 45]] := rfl
    have e1 : bytR (dig N).reverse ++ [[.int .u8 45]] = bytR t := by rw [← ht]; exact bytR_app _ [45]
    have e2 : (bytR (dig N).reverse).length = (dig N).length := by rw [bytR_len, List.length_reverse]
    have e5 : (bytR t).length = M := by rw [bytR_len, htl]
    have e6 : t.reverse = 45 :: dig N := by rw [← ht]; simp
    simp only [nx1S, htl, e0, e3, List.length_cons, List.length_nil, Nat.zero_add, List.cons_append, List.nil_append] at hl1
    simp only [nx0S] at hl0
    have lim : M ≤ 140737488355328 := by omega
    have limi : (M : Int) ≤ limit := by simp only [limit]; omega
    have lim2 : (dig N).length ≤ 140737488355327 := by omega
    (all_goals have := fa (a3 h0 w1 w2); repeat' first | refine Wp.v ?_ | (refine Wp.c ?_ ?_ <;> intro))
    refine (hl0 _).imp (fun _ h => h.elim) (fun _ h => h) ?_
    rintro k s ⟨rfl, rfl⟩
    rw [if_pos rfl]
    generalize bytR (dig N).reverse = DR at *
    (all_goals have := fa (a5 h0 e1 e2 hM (a5 hMi e5 lim lim2 (a2 limi @bytR_rep))); repeat' first | refine Wp.v ?_ | (refine Wp.c ?_ ?_ <;> intro))
    refine (hl1 _).imp (fun _ h => h.elim) (fun _ h => h) ?_
    rintro k s ⟨rfl, rfl⟩
    rw [if_pos rfl, e6]
    have e7 := bytes_all (45 :: dig N)
    have e8 : (bytR (45 :: dig N)).length = M := by rw [bytR_len, ← hM]; simp
    generalize bytR (45 :: dig N) = BR at *
    (all_goals have := fa (a2 e7 e8); repeat' first | refine Wp.v ?_ | (refine Wp.c ?_ ?_ <;> intro))
    refine Wp.ret ?_; simp [Res, resU, res1, c_num_Text]
  · rw [if_neg h0]
    have w1 : IntKind.wrap .u64 n = (n.natAbs : Int) := by rw [wrap_u64 (by omega) (by omega)]; omega
    generalize n.natAbs = N at *
    obtain ⟨t, ht⟩ : ∃ t, (dig N).reverse = t := ⟨_, rfl⟩
    obtain ⟨M, hM⟩ : ∃ M, (dig N).length = M := ⟨_, rfl⟩
    have htl : t.length = M := by rw [← ht, ← hM]; simp
    have hl1 := fun R => nx1_loop t [] (Or.inl rfl) (by omega) R
    have e0 : out1 t 0 = List.replicate M 0 := by simp [out1, htl]
    have e5 : (bytR t).length = M := by rw [bytR_len, htl]
    have e6 : t.reverse = dig N := by rw [← ht]; simp
    simp only [nx1S, htl, e0, List.length_cons, List.length_nil, Nat.zero_add, List.cons_append, List.nil_append] at hl1
    simp only [nx0S, ht, hM] at hl0
    have limi : (M : Int) ≤ limit := by simp only [limit]; omega
    (all_goals have := fa (a2 h0 w1); repeat' first | refine Wp.v ?_ | (refine Wp.c ?_ ?_ <;> intro))
    refine (hl0 _).imp (fun _ h => h.elim) (fun _ h => h) ?_
    rintro k s ⟨rfl, rfl⟩
    rw [if_pos rfl]
    (all_goals have := fa (a4 h0 e5 limi @bytR_rep); repeat' first | refine Wp.v ?_ | (refine Wp.c ?_ ?_ <;> intro))
    refine (hl1 _).imp (fun _ h => h.elim) (fun _ h => h) ?_
    rintro k s ⟨rfl, rfl⟩
    rw [if_pos rfl, e6]
    have e7 := bytes_all (dig N)
    have e8 : (bytR (dig N)).length = M := by rw [bytR_len, hM]
    generalize bytR (dig N) = BR at *
    (all_goals have := fa (a2 e7 e8); repeat' first | refine Wp.v ?_ | (refine Wp.c ?_ ?_ <;> intro))
    refine Wp.ret ?_; simp [Res, resU, res1, c_num_Text]
theorem text_len {n : Int} (h : rng n) : (textF n).length ≤ 21 := by
  have := dig_20 (m := n.natAbs) (by have := h.1; have := h.2; omega)
  unfold textF
  split
  · simp only [List.length_cons]; omega
  · omega
def toF (n : Int) : List UInt8 := if n < 0 then [45] else textF n
def srcF (s : Int × Int) : List UInt8 := if s.1 = 0 then [110, 111, 110, 101] else if s.1 = 1 then 114 :: textF s.2 else if s.1 = 2 then 35 :: textF s.2 else if s.1 = 3 then [100, 101, 102] else 118 :: textF s.2
theorem to_len {n : Int} (h : rng n) : (toF n).length ≤ 21 := by
  have := text_len h
  unfold toF
  split
  · simp
  · omega
theorem src_len {s : Int × Int} (h : SrcR s) : (srcF s).length ≤ 22 := by
  have := text_len h.2
  unfold srcF
  repeat' split
  all_goals simp only [List.length_cons, List.length_nil]
  all_goals omega
set_option maxHeartbeats 4000000 in
theorem to_call (n : Int) (h : rng n) (st : List Ob) : Cl T n_shape_to [i64 n] st (.str (toF n)) st := by
  have ht := text_call n h
  refine Wp.pure (fn := c_shape_to) rfl rfl rfl («as» := [i64 n]) rfl ?_
  unfold toF
  by_cases h0 : n < 0
  · rw [if_pos h0]
    (all_goals have := fa h0; repeat' first | refine Wp.v ?_ | (refine Wp.c ?_ ?_ <;> intro))
    refine Wp.ret ?_; simp [Res, resU, res1, c_shape_to]
  · rw [if_neg h0]
    (all_goals have := fa h0; repeat' first | refine Wp.v ?_ | (apply Wp.call; exact ht _) | (refine Wp.c ?_ ?_ <;> intro))
    refine Wp.ret ?_; simp [Res, resU, res1, c_shape_to]
set_option maxHeartbeats 4000000 in
theorem rto_call (n : Int) (h : rng n) (hn : -1 ≤ n) (st : List Ob) : Cl T n_joineryref14_to [i64 n] st (.str (toF n)) st := by
  have ht := rtext_call n h
  refine Wp.pure (fn := c_joineryref14_to) rfl rfl rfl («as» := [i64 n]) rfl ?_
  unfold toF
  by_cases h0 : n = -1
  · subst h0
    (repeat' first | refine Wp.u ?_ | (refine Wp.c ?_ ?_ <;> intro))
    refine Wp.ret ?_; simp [Res, resU, res1, c_joineryref14_to]
  · rw [if_neg (by omega)]
    (all_goals have := fa h0; repeat' first | refine Wp.v ?_ | (apply Wp.call; exact ht _) | (refine Wp.c ?_ ?_ <;> intro))
    refine Wp.ret ?_; simp [Res, resU, res1, c_joineryref14_to]
set_option maxHeartbeats 8000000 in
theorem source_call (s : Int × Int) (h : SrcR s) (st : List Ob) : Cl T n_shape_source [.agg (srcC s)] st (.str (srcF s)) st := by
  have ht := text_call s.2 h.2
  have hl := text_len h.2
  have hl2 : 1 + (textF s.2).length ≤ 9223372036854775807 := by omega
  have hl3 : (textF s.2).length + 1 ≤ 9223372036854775807 := by omega
  have hl4 : (textF s.2).length ≤ 9223372036854775806 := by omega
  refine Wp.pure (fn := c_shape_source) rfl rfl rfl («as» := [.agg (srcC s)]) rfl ?_
  unfold srcF
  obtain ⟨k, m⟩ := s
  simp only [srcC] at *
  generalize textF m = t at *
  by_cases h0 : k = 0
  · subst h0
    (repeat' first | refine Wp.u ?_ | (refine Wp.c ?_ ?_ <;> intro))
    refine Wp.ret ?_; simp [Res, resU, res1, c_shape_source]
  · by_cases h1 : k = 1
    · subst h1
      (all_goals have := fa (a3 hl2 hl3 hl4); repeat' first | refine Wp.v ?_ | (apply Wp.call; exact ht _) | (refine Wp.c ?_ ?_ <;> intro))
      refine Wp.ret ?_; simp [Res, resU, res1, c_shape_source]
    · by_cases h2 : k = 2
      · subst h2
        (all_goals have := fa (a3 hl2 hl3 hl4); repeat' first | refine Wp.v ?_ | (apply Wp.call; exact ht _) | (refine Wp.c ?_ ?_ <;> intro))
        refine Wp.ret ?_; simp [Res, resU, res1, c_shape_source]
      · by_cases h3 : k = 3
        · subst h3
          (repeat' first | refine Wp.u ?_ | (refine Wp.c ?_ ?_ <;> intro))
          refine Wp.ret ?_; simp [Res, resU, res1, c_shape_source]
        · (all_goals have := fa (a5 h0 h1 h2 h3 (a3 hl2 hl3 hl4)); repeat' first | refine Wp.v ?_ | (apply Wp.call; exact ht _) | (refine Wp.c ?_ ?_ <;> intro))
          refine Wp.ret ?_; simp [Res, resU, res1, c_shape_source, h0, h1, h2, h3]
set_option maxHeartbeats 8000000 in
theorem rsource_call (s : Int × Int) (h : SrcR s) (hk : 0 ≤ s.1 ∧ s.1 ≤ 4) (st : List Ob) : Cl T n_joineryref14_source [.agg (srcC s)] st (.str (srcF s)) st := by
  have ht := rtext_call s.2 h.2
  have hl := text_len h.2
  have hl2 : 1 + (textF s.2).length ≤ 9223372036854775807 := by omega
  have hl3 : (textF s.2).length + 1 ≤ 9223372036854775807 := by omega
  have hl4 : (textF s.2).length ≤ 9223372036854775806 := by omega
  refine Wp.pure (fn := c_joineryref14_source) rfl rfl rfl («as» := [.agg (srcC s)]) rfl ?_
  unfold srcF
  obtain ⟨k, m⟩ := s
  simp only [srcC] at *
  generalize textF m = t at *
  have hc : k = 0 ∨ k = 1 ∨ k = 2 ∨ k = 3 ∨ k = 4 := by omega
  rcases hc with rfl | rfl | rfl | rfl | rfl
  all_goals (all_goals have := fa (a3 hl2 hl3 hl4); repeat' first | refine Wp.v ?_ | (apply Wp.call; exact ht _) | (refine Wp.c ?_ ?_ <;> intro))
  all_goals refine Wp.ret ?_; simp [Res, resU, res1, c_joineryref14_source]
def jn (ws : List (List UInt8)) : List UInt8 := (ws.flatMap (fun w => 32 :: w)).tail
theorem jn_snoc {l : List (List UInt8)} (h : l ≠ []) (w : List UInt8) : jn (l ++ [w]) = jn l ++ 32 :: w := by
  cases l with
  | nil => exact absurd rfl h
  | cons a l => simp [jn]
theorem jn_one (w : List UInt8) : jn [w] = w := by simp [jn]
theorem jn_cons (w : List UInt8) (l : List (List UInt8)) : jn (w :: l) = w ++ l.flatMap (fun w => 32 :: w) := by simp [jn]
theorem jn_len (ws : List (List UInt8)) (h : ∀ w ∈ ws, w.length ≤ 100) : (jn ws).length ≤ 101 * ws.length := by
  have : (ws.flatMap (fun w => 32 :: w)).length ≤ 101 * ws.length := by
    induction ws with
    | nil => simp
    | cons w ws ih =>
      have h1 := ih (fun x hx => h x (by simp [hx]))
      have h2 := h w (by simp)
      simp only [List.flatMap_cons, List.length_append, List.length_cons]
      omega
  have h2 : (jn ws).length ≤ (ws.flatMap (fun w => 32 :: w)).length := by
    unfold jn
    rw [List.length_tail]
    omega
  omega
def lineF (ws : List (List UInt8)) : List UInt8 := jn ws ++ [10]
def strC (w : List UInt8) : List U := [.str w]
theorem strC_snoc (W : List (List UInt8)) (s : List UInt8) : W.map strC ++ [[.str s]] = (W ++ [s]).map strC := by simp [strC]
theorem strC_snoc2 (W : List (List UInt8)) (s t : List UInt8) : W.map strC ++ [[.str s], [.str t]] = (W ++ [s, t]).map strC := by simp [strC]
abbrev wordsU (q : Bool) (ws : List (List UInt8)) : U := .sl q (ws.map strC)
def li0S (q : Bool) (ws : List (List UInt8)) (i : Nat) : S := ⟨[(3, .str (jn (ws.take i))), (6, wordsU q ws), (7, i64 ws.length), (8, i64 i)], []⟩
set_option maxHeartbeats 4000000 in
theorem li0_loop (q : Bool) (ws : List (List UInt8)) (hw : ∀ w ∈ ws, w.length ≤ 100) (hn : ws.length ≤ 300) (R : S → Prop) : Wp T (.loop c_shape_line_L0) (li0S q ws 0) (fun _ => False) R
    (fun k s' => k = 0 ∧ s' = ⟨[(3, .str (jn ws)), (6, wordsU q ws), (7, i64 ws.length), (8, i64 (ws.length : Nat)), (9, .bool false)], []⟩) := by
  refine Wp.count ws.length (fun i => li0S q ws i) (fun _ => True) (fun i hi _ => ?_) (fun _ => ?_) 0 (by omega) trivial
  · have hi' : (i : Int) < ws.length := by omega
    have eg : ws[i]? = some ws[i] := List.getElem?_eq_getElem hi
    have hl := jn_len (ws.take i) (fun w h => hw w (List.mem_of_mem_take h))
    rw [List.length_take] at hl
    replace hl : (jn (ws.take i)).length ≤ 101 * 300 := Nat.le_trans hl (Nat.mul_le_mul_left _ (by omega))
    have hwl := hw _ (List.getElem_mem hi)
    have e1 : i ≠ 0 → jn (ws.take (i + 1)) = jn (ws.take i) ++ 32 :: ws[i] := fun h => by
      rw [List.take_succ_eq_append_getElem hi]
      exact jn_snoc (fun e => by have := congrArg List.length e; rw [List.length_take, List.length_nil] at this; omega) _
    have e0 : i = 0 → jn (ws.take (i + 1)) = jn (ws.take i) ++ ws[i] := fun h => by
      subst h
      rw [List.take_succ_eq_append_getElem hi]
      simp [jn]
    simp only [li0S]
    generalize jn (ws.take (i + 1)) = j1 at *
    generalize jn (ws.take i) = j0 at *
    generalize ws[i] = w at *
    by_cases h0 : i = 0
    · have h0' : ¬ 0 < i := by omega
      have hl2 : j0.length + w.length ≤ 9223372036854775807 := by omega
      rw [e0 h0]
      (all_goals have := fa (a5 hi' eg h0' @strC.eq_1 hl2); repeat' first | refine Wp.v ?_ | (refine Wp.c ?_ ?_ <;> intro))
      (have := fa @wrap_id; repeat refine Wp.f ?_)
      exact ⟨trimO_len rfl, trivial⟩
    · have h0' : 0 < i := by omega
      have hl1 : j0.length + 1 ≤ 9223372036854775807 := by omega
      have hl3 : j0.length ≤ 9223372036854775806 := by omega
      have hl2 : j0.length + 1 + w.length ≤ 9223372036854775807 := by omega
      have hl4 : j0.length + (w.length + 1) ≤ 9223372036854775807 := by omega
      rw [e1 h0]
      (all_goals have := fa (a5 hi' eg h0' @strC.eq_1 (a4 hl1 hl2 hl3 hl4)); repeat' first | refine Wp.v ?_ | (refine Wp.c ?_ ?_ <;> intro))
      (have := fa @wrap_id; repeat refine Wp.f ?_)
      exact ⟨by simp [trimO, trim], trivial⟩
  · rw [show li0S q ws ws.length = ⟨[(3, .str (jn ws)), (6, wordsU q ws), (7, i64 ws.length), (8, i64 (ws.length : Nat))], []⟩ by simp [li0S]]
    repeat refine Wp.a ?_
    refine Wp.i ?_ ?_ <;> intro h1
    · simp at h1
    · exact Wp.exit ⟨rfl, rfl⟩
set_option maxHeartbeats 4000000 in
theorem line_call (q : Bool) (ws : List (List UInt8)) (hw : ∀ w ∈ ws, w.length ≤ 100) (hn : ws.length ≤ 300) (st : List Ob) : Cl T n_shape_line [wordsU q ws] st (.str (lineF ws)) st := by
  refine Wp.pure (fn := c_shape_line) rfl rfl rfl («as» := [wordsU q ws]) rfl ?_
  have hl := jn_len ws hw
  have hl0 := li0_loop q ws hw hn (Res c_shape_line (.str (lineF ws)))
  rw [show li0S q ws 0 = ⟨[(3, .str []), (6, wordsU q ws), (7, i64 ws.length), (8, i64 0)], []⟩ by simp [li0S, jn]] at hl0
  unfold lineF at *
  generalize jn ws = j at *
  have hl1 : j.length + 1 ≤ 9223372036854775807 := by omega
  have hl2 : j.length ≤ 9223372036854775806 := by omega
  (repeat' first | refine Wp.u ?_ | (refine Wp.c ?_ ?_ <;> intro))
  refine hl0.imp (fun _ h => h.elim) (fun _ h => h) ?_
  rintro k s ⟨rfl, rfl⟩
  rw [if_pos rfl]
  (all_goals have := fa (a2 hl1 hl2); repeat' first | refine Wp.v ?_ | (refine Wp.c ?_ ?_ <;> intro))
  refine Wp.ret ?_; simp [Res, resU, res1, c_shape_line]
theorem Cl.lend {f : Nat} {fn : F} (hT : T f = some fn) (hp : fn.pure = true) {as' bs : List U} {st st' : List Ob} {u : U} (hl : as'.length = bs.length) (hb : allM (brwA frzD st) as' = allM (brwA frzD st) bs) (h : Cl T f bs st u st') : Cl T f as' st u st' :=
  Evt.mono h fun n h => by
    simp only [M2.call, callF, hT, Option.bind_some, hp, if_true] at h ⊢
    rw [hl, hb]
    exact h
theorem line_own (ws : List (List UInt8)) (hw : ∀ w ∈ ws, w.length ≤ 100) (hn : ws.length ≤ 300) {id t e n : Nat} (st : List Ob) (h1 : st[id]? = some (.row t e false (ws.map strC))) (h2 : ws.length = n) : Cl T n_shape_line [.own id n] st (.str (lineF ws)) st := by
  refine Cl.lend (fn := c_shape_line) rfl rfl (bs := [wordsU false ws]) rfl ?_ (line_call false ws hw hn st)
  have : brwA frzD st (.own id n) = some (wordsU false ws) := by
    show brw frzD st (.own id n) = _
    unfold frzD brw
    simp only [h1, List.length_map, h2, if_true]
  simp only [allM, this]
  rfl
def opOk (op : Int) : Bool := decide (op = 0) || decide (4 ≤ op) && decide (op ≤ 15) || decide (op = 17) || decide (op = 18)
def argsF (op : Int) : Nat := if 4 ≤ op ∧ op ≤ 12 ∨ op = 14 then 2 else if op = 0 then 0 else 1
def outsF (op : Int) : Nat := if op = 0 ∨ op = 18 then 0 else if op = 17 then 2 else 1
def defF (op : Int) : Bool := decide (4 ≤ op) && decide (op ≤ 13) || decide (op = 15)
def opWords : List (List UInt8) := [[99, 117, 116], [], [], [], [97, 100, 100], [115, 117, 98], [109, 117, 108], [100, 105, 118], [97, 110, 100], [111, 114], [120, 111, 114], [108, 101, 115, 115], [115, 97, 109, 101], [108, 111, 97, 100], [115, 116, 111, 114, 101], [99, 97, 108, 108], [], [122, 101, 114, 111], [114, 101, 116]]
def wordF (op : Int) : List UInt8 := if op < 0 then [] else opWords.getD op.toNat []
def kindC (op : Int) : List U := if opOk op then [.str (wordF op), i64 (argsF op), i64 (outsF op), .bool (defF op)] else [.str [], i64 0, i64 0, .bool false]
theorem op_cases {op : Int} (h : opOk op = true) : op = 0 ∨ op = 4 ∨ op = 5 ∨ op = 6 ∨ op = 7 ∨ op = 8 ∨ op = 9 ∨ op = 10 ∨ op = 11 ∨ op = 12 ∨ op = 13 ∨ op = 14 ∨ op = 15 ∨ op = 17 ∨ op = 18 := by
  simp only [opOk, Bool.or_eq_true, Bool.and_eq_true, decide_eq_true_eq] at h
  omega
theorem op_none {op : Int} (h : opOk op = false) : op < 0 ∨ 19 ≤ op ∨ op = 1 ∨ op = 2 ∨ op = 3 ∨ op = 16 := by
  simp only [opOk, Bool.or_eq_false_iff, Bool.and_eq_false_iff, decide_eq_false_iff_not] at h
  omega
theorem word_none {op : Int} (h : opOk op = false) : wordF op = [] := by
  rcases op_none h with h | h | rfl | rfl | rfl | rfl
  · simp [wordF, h]
  · unfold wordF
    rw [if_neg (by omega), List.getD_eq_getElem?_getD, List.getElem?_eq_none (by simp [opWords]; omega)]
    rfl
  all_goals rfl
theorem word_some {op : Int} (h : opOk op = true) : wordF op ≠ [] := by
  rcases op_cases h with rfl | rfl | rfl | rfl | rfl | rfl | rfl | rfl | rfl | rfl | rfl | rfl | rfl | rfl | rfl
  all_goals decide
theorem word_len (op : Int) : (wordF op).length ≤ 5 := by
  cases h : opOk op
  · rw [word_none h]; simp
  · rcases op_cases h with rfl | rfl | rfl | rfl | rfl | rfl | rfl | rfl | rfl | rfl | rfl | rfl | rfl | rfl | rfl
    all_goals decide
set_option maxHeartbeats 16000000 in
theorem of_call (op : Int) (st : List Ob) : Cl T n_shape_of [i64 op] st (.tup [.agg (kindC op), .bool (opOk op)]) st := by
  refine Wp.pure (fn := c_shape_of) rfl rfl rfl («as» := [i64 op]) rfl ?_
  cases h : opOk op with
  | false =>
    have hk : kindC op = [.str [], i64 0, i64 0, .bool false] := by simp [kindC, h]
    rw [hk]
    rcases op_none h with h | h | rfl | rfl | rfl | rfl
    · (all_goals have := fa h; repeat' first | refine Wp.v ?_ | (refine Wp.c ?_ ?_ <;> intro))
      refine Wp.ret ?_; simp [Res, resU, res1, c_shape_of]
    · have h0 : ¬ op < 0 := by omega
      (all_goals have := fa (a2 h h0); repeat' first | refine Wp.v ?_ | (refine Wp.c ?_ ?_ <;> intro))
      refine Wp.ret ?_; simp [Res, resU, res1, c_shape_of]
    all_goals (all_goals have := fa @gl_0.eq_1; repeat' first | refine Wp.v ?_ | (refine Wp.c ?_ ?_ <;> intro))
    all_goals refine Wp.ret ?_; simp [Res, resU, res1, c_shape_of]
  | true =>
    have hk : kindC op = [.str (wordF op), i64 (argsF op), i64 (outsF op), .bool (defF op)] := by simp [kindC, h]
    rw [hk]
    clear hk
    rcases op_cases h with rfl | rfl | rfl | rfl | rfl | rfl | rfl | rfl | rfl | rfl | rfl | rfl | rfl | rfl | rfl
    all_goals (all_goals have := fa @gl_0.eq_1; repeat' first | refine Wp.v ?_ | (refine Wp.c ?_ ?_ <;> intro))
    all_goals refine Wp.ret ?_; simp [Res, resU, res1, c_shape_of, wordF, opWords, argsF, outsF, defF]
set_option maxHeartbeats 16000000 in
theorem rword_call (op : Int) (st : List Ob) : Cl T n_joineryref14_Word [i64 op] st (.str (wordF op)) st := by
  refine Wp.pure (fn := c_joineryref14_Word) rfl rfl rfl («as» := [i64 op]) rfl ?_
  cases h : opOk op with
  | false =>
    rw [word_none h]
    have h0 : ¬ op = 0 := by rintro rfl; cases h
    have h13 : ¬ op = 13 := by rintro rfl; cases h
    have h14 : ¬ op = 14 := by rintro rfl; cases h
    have h15 : ¬ op = 15 := by rintro rfl; cases h
    have h17 : ¬ op = 17 := by rintro rfl; cases h
    have h18 : ¬ op = 18 := by rintro rfl; cases h
    by_cases h4 : (4 : Int) ≤ op
    · have h12 : ¬ op ≤ 12 := by
        rcases op_none h with h | h | rfl | rfl | rfl | rfl <;> omega
      (all_goals have := fa (a5 h0 h13 h14 h15 (a4 h17 h18 h4 h12)); repeat' first | refine Wp.v ?_ | (refine Wp.c ?_ ?_ <;> intro))
      refine Wp.ret ?_; simp [Res, resU, res1, c_joineryref14_Word]
    · (all_goals have := fa (a5 h0 h13 h14 h15 (a3 h17 h18 h4)); repeat' first | refine Wp.v ?_ | (refine Wp.c ?_ ?_ <;> intro))
      refine Wp.ret ?_; simp [Res, resU, res1, c_joineryref14_Word]
  | true =>
    rcases op_cases h with rfl | rfl | rfl | rfl | rfl | rfl | rfl | rfl | rfl | rfl | rfl | rfl | rfl | rfl | rfl
    all_goals (repeat' first | refine Wp.u ?_ | (refine Wp.c ?_ ?_ <;> intro))
    all_goals refine Wp.ret ?_; simp [Res, resU, res1, c_joineryref14_Word, wordF, opWords]
set_option maxHeartbeats 16000000 in
theorem rargs_call (op : Int) (st : List Ob) : Cl T n_joineryref14_args [i64 op] st (i64 (argsF op)) st := by
  refine Wp.pure (fn := c_joineryref14_args) rfl rfl rfl («as» := [i64 op]) rfl ?_
  unfold argsF
  by_cases h4 : (4 : Int) ≤ op
  · by_cases h12 : op ≤ 12
    · (all_goals have := fa (a2 h4 h12); repeat' first | refine Wp.v ?_ | (refine Wp.c ?_ ?_ <;> intro))
      refine Wp.ret ?_; simp [Res, resU, res1, c_joineryref14_args, h4, h12]
    · by_cases h14 : op = 14
      · subst h14
        (repeat' first | refine Wp.u ?_ | (refine Wp.c ?_ ?_ <;> intro))
        refine Wp.ret ?_; simp [Res, resU, res1, c_joineryref14_args]
      · have h0 : ¬ op = 0 := by omega
        (all_goals have := fa (a4 h4 h12 h14 h0); repeat' first | refine Wp.v ?_ | (refine Wp.c ?_ ?_ <;> intro))
        refine Wp.ret ?_; simp [Res, resU, res1, c_joineryref14_args, h4, h12, h14, h0]
  · have h14 : ¬ op = 14 := by omega
    by_cases h0 : op = 0
    · subst h0
      (repeat' first | refine Wp.u ?_ | (refine Wp.c ?_ ?_ <;> intro))
      refine Wp.ret ?_; simp [Res, resU, res1, c_joineryref14_args]
    · (all_goals have := fa (a3 h4 h14 h0); repeat' first | refine Wp.v ?_ | (refine Wp.c ?_ ?_ <;> intro))
      refine Wp.ret ?_; simp [Res, resU, res1, c_joineryref14_args, h4, h14, h0]
set_option maxHeartbeats 16000000 in
theorem routs_call (op : Int) (st : List Ob) : Cl T n_joineryref14_outs [i64 op] st (i64 (outsF op)) st := by
  refine Wp.pure (fn := c_joineryref14_outs) rfl rfl rfl («as» := [i64 op]) rfl ?_
  unfold outsF
  by_cases h0 : op = 0
  · subst h0
    (repeat' first | refine Wp.u ?_ | (refine Wp.c ?_ ?_ <;> intro))
    refine Wp.ret ?_; simp [Res, resU, res1, c_joineryref14_outs]
  · by_cases h18 : op = 18
    · subst h18
      (repeat' first | refine Wp.u ?_ | (refine Wp.c ?_ ?_ <;> intro))
      refine Wp.ret ?_; simp [Res, resU, res1, c_joineryref14_outs]
    · by_cases h17 : op = 17
      · subst h17
        (repeat' first | refine Wp.u ?_ | (refine Wp.c ?_ ?_ <;> intro))
        refine Wp.ret ?_; simp [Res, resU, res1, c_joineryref14_outs]
      · (all_goals have := fa (a3 h0 h17 h18); repeat' first | refine Wp.v ?_ | (refine Wp.c ?_ ?_ <;> intro))
        refine Wp.ret ?_; simp [Res, resU, res1, c_joineryref14_outs, h0, h17, h18]
def valF (x : FForm) (s : Int × Int) (n : Int) : Bool := decide (s.1 = 4) && decide (0 ≤ s.2) && (x.vals[s.2.toNat]?).any (fun v => decide (v.pos = n))
def comesF (x : FForm) (s e : Int × Int) : Bool :=
  if s.1 = 2 then true else if s.1 = 0 then decide (s.2 = 0) else if s.1 = 1 then decide (e.1 < 0) && decide (0 ≤ s.2) && decide (s.2 < 8)
  else if s.1 = 3 then decide (0 ≤ e.1) && decide (s.2 = 0) && (x.nodes[e.1.toNat]?).any (fun y => defF y.op) else decide (0 ≤ e.1) && valF x s e.1
set_option maxHeartbeats 8000000 in
theorem value_call (x : FForm) (s : Int × Int) (n : Int) (st : List Ob) : Cl T n_shape_value [formU x, .agg (srcC s), i64 n] st (.bool (valF x s n)) st := by
  refine Wp.pure (fn := c_shape_value) rfl rfl rfl («as» := [formU x, .agg (srcC s), i64 n]) rfl ?_
  obtain ⟨k, m⟩ := s
  unfold valF
  by_cases h4 : k = 4
  · subst h4
    by_cases h0 : (0 : Int) ≤ m
    · obtain ⟨i, rfl⟩ : ∃ i : Nat, m = i := ⟨m.toNat, by omega⟩
      by_cases hi : i < x.vals.length
      · have hi' : (i : Int) < x.vals.length := by omega
        have eg : x.vals[i]? = some x.vals[i] := List.getElem?_eq_getElem hi
        have et : ((i : Int)).toNat = i := by omega
        rw [et, eg]
        generalize x.vals[i] = v at *
        by_cases hp : v.pos = n
        · (all_goals have := fa (a5 @formC.eq_1 @srcC.eq_1 @valC.eq_1 hi' (a2 eg hp)); repeat' first | refine Wp.v ?_ | (refine Wp.c ?_ ?_ <;> intro))
          refine Wp.ret ?_; simp [Res, resU, res1, c_shape_value, hp]
        · (all_goals have := fa (a5 @formC.eq_1 @srcC.eq_1 @valC.eq_1 hi' (a2 eg hp)); repeat' first | refine Wp.v ?_ | (refine Wp.c ?_ ?_ <;> intro))
          refine Wp.ret ?_; simp [Res, resU, res1, c_shape_value, hp]
      · have hi' : ¬ (i : Int) < x.vals.length := by omega
        have et : ((i : Int)).toNat = i := by omega
        have en : x.vals[i]? = none := List.getElem?_eq_none (by omega)
        rw [et, en]
        (all_goals have := fa (a4 @formC.eq_1 @srcC.eq_1 hi' hi); repeat' first | refine Wp.v ?_ | (refine Wp.c ?_ ?_ <;> intro))
        refine Wp.ret ?_; simp [Res, resU, res1, c_shape_value]
    · (all_goals have := fa (a3 @formC.eq_1 @srcC.eq_1 h0); repeat' first | refine Wp.v ?_ | (refine Wp.c ?_ ?_ <;> intro))
      refine Wp.ret ?_; simp [Res, resU, res1, c_shape_value, h0]
  · (all_goals have := fa (a3 @formC.eq_1 @srcC.eq_1 h4); repeat' first | refine Wp.v ?_ | (refine Wp.c ?_ ?_ <;> intro))
    refine Wp.ret ?_; simp [Res, resU, res1, c_shape_value, h4]
def rv0S (x : FForm) (s : Int × Int) (n : Int) (i : Nat) : S := ⟨[(2, i64 n), (3, .bp 0 0), (4, .bp 1 0), (7, i64 i)], [.box (formC x), .box (srcC s)]⟩
set_option maxHeartbeats 8000000 in
theorem rv0_loop (x : FForm) (hx : Small x) (s : Int × Int) (n : Int) : Wp T (.loop c_joineryref14_val_L0) (rv0S x s n 0) (fun _ => False) (Res c_joineryref14_val (.bool (valF x s n)))
    (fun b s' => b = 0 ∧ valF x s n = false ∧ s' = ⟨[(2, i64 n), (3, .bp 0 0), (4, .bp 1 0), (7, i64 (x.vals.length : Nat)), (12, .bool false)], [.box (formC x), .box (srcC s)]⟩) := by
  have hbv := hx.vals
  refine Wp.count x.vals.length (fun i => rv0S x s n i) (fun i => ∀ j (h : j < x.vals.length), j < i → ¬ (s.1 = 4 ∧ s.2 = j ∧ x.vals[j].pos = n)) (fun i hi hI => ?_) (fun hI => ?_) 0 (by omega) (fun j h h0 => by omega)
  · have hi' : (i : Int) < x.vals.length := by omega
    have eg : x.vals[i]? = some x.vals[i] := List.getElem?_eq_getElem hi
    have hnx : ¬ (s.1 = 4 ∧ s.2 = i ∧ x.vals[i].pos = n) → ∀ j (h : j < x.vals.length), j < i + 1 → ¬ (s.1 = 4 ∧ s.2 = j ∧ x.vals[j].pos = n) := fun hh j h hj => by
      by_cases e : j = i
      · subst e; exact hh
      · exact hI j h (by omega)
    have hyes : s.1 = 4 → s.2 = i → x.vals[i].pos = n → valF x s n = true := fun a b c => by
      have et : ((i : Int)).toNat = i := by omega
      simp [valF, a, b, et, eg, c]
    obtain ⟨k, m⟩ := s
    simp only at hnx hyes
    generalize x.vals[i] = v at *
    simp only [rv0S, srcC]
    (have := fa (a2 @formC.eq_1 hi'); repeat refine Wp.f ?_)
    refine Wp.i ?_ ?_ <;> intro h1
    · by_cases h4 : k = 4
      · subst h4
        by_cases hm : m = i
        · subst hm
          by_cases hp : v.pos = n
          · rw [hyes rfl rfl hp]
            (all_goals have := fa (a5 @formC.eq_1 @valC.eq_1 hi' eg hp); repeat' first | refine Wp.v ?_ | (refine Wp.c ?_ ?_ <;> intro))
            refine Wp.ret ?_; simp [Res, resU, res1, c_joineryref14_val]
          · (all_goals have := fa (a5 @formC.eq_1 @valC.eq_1 hi' eg hp); repeat' first | refine Wp.v ?_ | (refine Wp.c ?_ ?_ <;> intro))
            (have := fa @wrap_id; repeat refine Wp.f ?_)
            exact ⟨trimO_len rfl, hnx (fun h => hp h.2.2)⟩
        · (all_goals have := fa (a5 @formC.eq_1 @valC.eq_1 hi' eg hm); repeat' first | refine Wp.v ?_ | (refine Wp.c ?_ ?_ <;> intro))
          (have := fa @wrap_id; repeat refine Wp.f ?_)
          exact ⟨trimO_len rfl, hnx (fun h => hm h.2.1)⟩
      · (all_goals have := fa (a5 @formC.eq_1 @valC.eq_1 hi' eg h4); repeat' first | refine Wp.v ?_ | (refine Wp.c ?_ ?_ <;> intro))
        (have := fa @wrap_id; repeat refine Wp.f ?_)
        exact ⟨trimO_len rfl, hnx (fun h => h4 h.1)⟩
    · cases h1
  · have hfalse : valF x s n = false := by
      cases h : valF x s n with
      | false => rfl
      | true =>
        simp only [valF, Bool.and_eq_true, decide_eq_true_eq] at h
        obtain ⟨⟨h4, h0⟩, h2⟩ := h
        cases hv : x.vals[s.2.toNat]? with
        | none => rw [hv] at h2; cases h2
        | some v =>
          obtain ⟨hj, e⟩ := List.getElem?_eq_some_iff.1 hv
          rw [hv] at h2
          exact absurd ⟨h4, by omega, by rw [e]; simpa using h2⟩ (hI s.2.toNat hj hj)
    simp only [rv0S]
    (have := fa @formC.eq_1; repeat refine Wp.f ?_)
    refine Wp.i ?_ ?_ <;> intro h1
    · simp at h1
    · exact Wp.exit ⟨rfl, hfalse, rfl⟩
set_option maxHeartbeats 8000000 in
theorem rval_call (x : FForm) (hx : Small x) (s : Int × Int) (n : Int) (st : List Ob) : Cl T n_joineryref14_val [formU x, .agg (srcC s), i64 n] st (.bool (valF x s n)) st := by
  refine Wp.pure (fn := c_joineryref14_val) rfl rfl rfl («as» := [formU x, .agg (srcC s), i64 n]) rfl ?_
  have hl0 := rv0_loop x hx s n
  simp only [rv0S] at hl0
  (repeat' first | refine Wp.u ?_ | (refine Wp.c ?_ ?_ <;> intro))
  refine hl0.imp (fun _ h => h.elim) (fun _ h => h) ?_
  rintro k s ⟨rfl, hf, rfl⟩
  rw [if_pos rfl, hf]
  (repeat' first | refine Wp.u ?_ | (refine Wp.c ?_ ?_ <;> intro))
  refine Wp.ret ?_; simp [Res, resU, res1, c_joineryref14_val]
def EdgeOK (x : FForm) (e : Int × Int) : Prop := e.1 = -1 ∨ 0 ≤ e.1 ∧ e.1 < x.nodes.length
set_option maxHeartbeats 16000000 in
theorem comes_call (x : FForm) (s e : Int × Int) (he : EdgeOK x e) (st : List Ob) : Cl T n_shape_comes [formU x, .agg (srcC s), .agg (srcC e)] st (.bool (comesF x s e)) st := by
  have hv := fun st => value_call x s e.1 st
  refine Wp.pure (fn := c_shape_comes) rfl rfl rfl («as» := [formU x, .agg (srcC s), .agg (srcC e)]) rfl ?_
  obtain ⟨k, m⟩ := s
  obtain ⟨f, w⟩ := e
  simp only [srcC] at hv
  unfold comesF
  by_cases h2 : k = 2
  · subst h2
    (all_goals have := fa @srcC.eq_1; repeat' first | refine Wp.v ?_ | (refine Wp.c ?_ ?_ <;> intro))
    refine Wp.ret ?_; simp [Res, resU, res1, c_shape_comes]
  · by_cases h0 : k = 0
    · subst h0
      by_cases hm : m = 0
      · subst hm
        (all_goals have := fa @srcC.eq_1; repeat' first | refine Wp.v ?_ | (refine Wp.c ?_ ?_ <;> intro))
        refine Wp.ret ?_; simp [Res, resU, res1, c_shape_comes]
      · (all_goals have := fa (a2 @srcC.eq_1 hm); repeat' first | refine Wp.v ?_ | (refine Wp.c ?_ ?_ <;> intro))
        refine Wp.ret ?_; simp [Res, resU, res1, c_shape_comes, hm]
    · by_cases h1 : k = 1
      · subst h1
        by_cases hf : f < 0
        · by_cases hm0 : (0 : Int) ≤ m
          · by_cases hm8 : m < 8
            · (all_goals have := fa (a4 @srcC.eq_1 hf hm0 hm8); repeat' first | refine Wp.v ?_ | (refine Wp.c ?_ ?_ <;> intro))
              refine Wp.ret ?_; simp [Res, resU, res1, c_shape_comes, hf, hm0, hm8]
            · (all_goals have := fa (a4 @srcC.eq_1 hf hm0 hm8); repeat' first | refine Wp.v ?_ | (refine Wp.c ?_ ?_ <;> intro))
              refine Wp.ret ?_; simp [Res, resU, res1, c_shape_comes, hf, hm0, hm8]
          · (all_goals have := fa (a3 @srcC.eq_1 hf hm0); repeat' first | refine Wp.v ?_ | (refine Wp.c ?_ ?_ <;> intro))
            refine Wp.ret ?_; simp [Res, resU, res1, c_shape_comes, hf, hm0]
        · (all_goals have := fa (a2 @srcC.eq_1 hf); repeat' first | refine Wp.v ?_ | (refine Wp.c ?_ ?_ <;> intro))
          refine Wp.ret ?_; simp [Res, resU, res1, c_shape_comes, hf]
      · by_cases h3 : k = 3
        · subst h3
          by_cases hf : f < 0
          · have hf' : ¬ (0 : Int) ≤ f := by omega
            (all_goals have := fa (a2 @srcC.eq_1 hf); repeat' first | refine Wp.v ?_ | (refine Wp.c ?_ ?_ <;> intro))
            refine Wp.ret ?_; simp [Res, resU, res1, c_shape_comes, hf']
          · by_cases hm : m = 0
            · subst hm
              rcases he with he | ⟨hf0, hfl⟩
              · simp only at he; omega
              · simp only at hf0 hfl
                obtain ⟨i, rfl⟩ : ∃ i : Nat, f = i := ⟨f.toNat, by omega⟩
                have hi : i < x.nodes.length := by omega
                have eg : x.nodes[i]? = some x.nodes[i] := List.getElem?_eq_getElem hi
                have et : ((i : Int)).toNat = i := by omega
                have hof := fun st => of_call x.nodes[i].op st
                rw [et, eg]
                generalize x.nodes[i] = y at *
                have hkl : (kindC y.op).length = 4 := by unfold kindC; split <;> rfl
                cases ho : opOk y.op with
                | true =>
                  have hk : kindC y.op = [.str (wordF y.op), i64 (argsF y.op), i64 (outsF y.op), .bool (defF y.op)] := by simp [kindC, ho]
                  rw [hk] at hof
                  (all_goals have := fa (a5 @srcC.eq_1 @formC.eq_1 @nodeC.eq_1 hf (a3 hf0 hfl eg)); repeat' first | refine Wp.v ?_ | (apply Wp.call; exact hof _) | (refine Wp.c ?_ ?_ <;> intro))
                  refine Wp.ret ?_; simp [Res, resU, res1, c_shape_comes]
                | false =>
                  have hk : kindC y.op = [.str [], i64 0, i64 0, .bool false] := by simp [kindC, ho]
                  have hd : defF y.op = false := by
                    have := op_none ho
                    simp only [defF, Bool.or_eq_false_iff, Bool.and_eq_false_iff, decide_eq_false_iff_not]
                    omega
                  rw [hk] at hof
                  (all_goals have := fa (a5 @srcC.eq_1 @formC.eq_1 @nodeC.eq_1 hf (a3 hf0 hfl eg)); repeat' first | refine Wp.v ?_ | (apply Wp.call; exact hof _) | (refine Wp.c ?_ ?_ <;> intro))
                  refine Wp.ret ?_; simp [Res, resU, res1, c_shape_comes, hd]
            · (all_goals have := fa (a3 @srcC.eq_1 hf hm); repeat' first | refine Wp.v ?_ | (refine Wp.c ?_ ?_ <;> intro))
              refine Wp.ret ?_; simp [Res, resU, res1, c_shape_comes, hm]
        · by_cases hf : (0 : Int) ≤ f
          · (all_goals have := fa (a5 @srcC.eq_1 @formC.eq_1 h0 h1 (a3 h2 h3 hf)); repeat' first | refine Wp.v ?_ | (apply Wp.call; exact hv _) | (refine Wp.c ?_ ?_ <;> intro))
            refine Wp.ret ?_; simp [Res, resU, res1, c_shape_comes, h0, h1, h2, h3, hf]
          · (all_goals have := fa (a5 @srcC.eq_1 @formC.eq_1 h0 h1 (a3 h2 h3 hf)); repeat' first | refine Wp.v ?_ | (apply Wp.call; exact hv _) | (refine Wp.c ?_ ?_ <;> intro))
            refine Wp.ret ?_; simp [Res, resU, res1, c_shape_comes, h0, h1, h2, h3, hf]
set_option maxHeartbeats 16000000 in
theorem may_call (x : FForm) (hx : Small x) (s e : Int × Int) (he : EdgeOK x e) (st : List Ob) : Cl T n_joineryref14_may [formU x, .agg (srcC s), .agg (srcC e)] st (.bool (comesF x s e)) st := by
  have hv := fun st => rval_call x hx s e.1 st
  refine Wp.pure (fn := c_joineryref14_may) rfl rfl rfl («as» := [formU x, .agg (srcC s), .agg (srcC e)]) rfl ?_
  obtain ⟨k, m⟩ := s
  obtain ⟨f, w⟩ := e
  simp only [srcC] at hv
  unfold comesF
  by_cases h2 : k = 2
  · subst h2
    (all_goals have := fa @srcC.eq_1; repeat' first | refine Wp.v ?_ | (refine Wp.c ?_ ?_ <;> intro))
    refine Wp.ret ?_; simp [Res, resU, res1, c_joineryref14_may]
  · by_cases h0 : k = 0
    · subst h0
      by_cases hm : m = 0
      · subst hm
        (all_goals have := fa @srcC.eq_1; repeat' first | refine Wp.v ?_ | (refine Wp.c ?_ ?_ <;> intro))
        refine Wp.ret ?_; simp [Res, resU, res1, c_joineryref14_may]
      · (all_goals have := fa (a2 @srcC.eq_1 hm); repeat' first | refine Wp.v ?_ | (refine Wp.c ?_ ?_ <;> intro))
        refine Wp.ret ?_; simp [Res, resU, res1, c_joineryref14_may, hm]
    · rcases he with he | ⟨hf0, hfl⟩
      · simp only at he
        subst he
        by_cases h1 : k = 1
        · subst h1
          by_cases hm0 : (0 : Int) ≤ m
          · by_cases hm8 : m ≤ 7
            · have hm8' : m < 8 := by omega
              (all_goals have := fa (a3 @srcC.eq_1 hm0 hm8); repeat' first | refine Wp.v ?_ | (refine Wp.c ?_ ?_ <;> intro))
              refine Wp.ret ?_; simp [Res, resU, res1, c_joineryref14_may, hm0, hm8']
            · have hm8' : ¬ m < 8 := by omega
              (all_goals have := fa (a3 @srcC.eq_1 hm0 hm8); repeat' first | refine Wp.v ?_ | (refine Wp.c ?_ ?_ <;> intro))
              refine Wp.ret ?_; simp [Res, resU, res1, c_joineryref14_may, hm0, hm8']
          · (all_goals have := fa (a2 @srcC.eq_1 hm0); repeat' first | refine Wp.v ?_ | (refine Wp.c ?_ ?_ <;> intro))
            refine Wp.ret ?_; simp [Res, resU, res1, c_joineryref14_may, hm0]
        · (all_goals have := fa (a4 @srcC.eq_1 h0 h1 h2); repeat' first | refine Wp.v ?_ | (refine Wp.c ?_ ?_ <;> intro))
          refine Wp.ret ?_; simp [Res, resU, res1, c_joineryref14_may, h0, h1, h2]
      · simp only at hf0 hfl
        obtain ⟨i, rfl⟩ : ∃ i : Nat, f = i := ⟨f.toNat, by omega⟩
        have hi : i < x.nodes.length := by omega
        have eg : x.nodes[i]? = some x.nodes[i] := List.getElem?_eq_getElem hi
        have et : ((i : Int)).toNat = i := by omega
        have hne : ¬ (i : Int) = -1 := by omega
        have hlt : ¬ (i : Int) < 0 := by omega
        rw [et, eg]
        generalize x.nodes[i] = y at *
        by_cases h3 : k = 3
        · subst h3
          by_cases hm : m = 0
          · subst hm
            by_cases o4 : (4 : Int) ≤ y.op
            · by_cases o13 : y.op ≤ 13
              · (all_goals have := fa (a5 @srcC.eq_1 @formC.eq_1 @nodeC.eq_1 hne (a4 hfl eg o4 o13)); repeat' first | refine Wp.v ?_ | (refine Wp.c ?_ ?_ <;> intro))
                refine Wp.ret ?_; simp [Res, resU, res1, c_joineryref14_may, defF, o4, o13]
              · by_cases o15 : y.op = 15
                · (all_goals have := fa (a5 @srcC.eq_1 @formC.eq_1 @nodeC.eq_1 hne (a5 hfl eg o4 o13 o15)); repeat' first | refine Wp.v ?_ | (refine Wp.c ?_ ?_ <;> intro))
                  refine Wp.ret ?_; simp [Res, resU, res1, c_joineryref14_may, defF, o15]
                · (all_goals have := fa (a5 @srcC.eq_1 @formC.eq_1 @nodeC.eq_1 hne (a5 hfl eg o4 o13 o15)); repeat' first | refine Wp.v ?_ | (refine Wp.c ?_ ?_ <;> intro))
                  refine Wp.ret ?_; simp [Res, resU, res1, c_joineryref14_may, defF, o4, o13, o15]
            · have o15 : ¬ y.op = 15 := by omega
              (all_goals have := fa (a5 @srcC.eq_1 @formC.eq_1 @nodeC.eq_1 hne (a4 hfl eg o4 o15)); repeat' first | refine Wp.v ?_ | (refine Wp.c ?_ ?_ <;> intro))
              refine Wp.ret ?_; simp [Res, resU, res1, c_joineryref14_may, defF, o4, o15]
          · (all_goals have := fa (a5 @srcC.eq_1 @formC.eq_1 @nodeC.eq_1 hne (a3 hfl eg hm)); repeat' first | refine Wp.v ?_ | (refine Wp.c ?_ ?_ <;> intro))
            refine Wp.ret ?_; simp [Res, resU, res1, c_joineryref14_may, hm]
        · by_cases h1 : k = 1
          · subst h1
            have hvf : valF x (1, m) i = false := by simp [valF]
            rw [hvf] at hv
            (all_goals have := fa (a5 @srcC.eq_1 @formC.eq_1 @nodeC.eq_1 hne (a2 hfl eg)); repeat' first | refine Wp.v ?_ | (apply Wp.call; exact hv _) | (refine Wp.c ?_ ?_ <;> intro))
            refine Wp.ret ?_; simp [Res, resU, res1, c_joineryref14_may, hlt]
          · (all_goals have := fa (a5 @srcC.eq_1 @formC.eq_1 @nodeC.eq_1 h0 (a5 h1 h2 h3 hne (a2 hfl eg))); repeat' first | refine Wp.v ?_ | (apply Wp.call; exact hv _) | (refine Wp.c ?_ ?_ <;> intro))
            refine Wp.ret ?_; simp [Res, resU, res1, c_joineryref14_may, h0, h1, h2, h3, hf0]
end Go.Proofs.YtbcojbmalcghbaaDoor.M2
