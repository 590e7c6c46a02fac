/- What the functions answer in M2: are two forms alike? (the document's, whole) -/
import Derived.Test.YtbcojbmalcghbaaDoorCg
set_option linter.unusedSimpArgs false
set_option linter.unusedVariables false
set_option linter.unusedSectionVars false
namespace Go.Proofs.YtbcojbmalcghbaaDoor.M2
open Go
attribute [local simp] ev1 M2.get put A.ev ld sub part elems bin arith un opt idx fillC cellsO splice over newOb sto fillR laidOwn appTo appRow touch touchN touchM touchE touchA plainU flatU plainAs allM rowAt stoRow accM_nil accM_cons accMM_nil accMM_cons frz_int frz_bool frz_str frz_slt frz_nils frz_nilI frz_nilF frz_own frzRow_row frzRow_frow Ob.blw blw_bool blw_int blw_str blw_nils blw_nilI blw_nilF blw_nilp blw_nilm blw_sl blw_own blw_bp blw_rp blw_mp blw_it params
attribute [local simp] frz_agg frz_tup frz_iface frzS_agg frzS_iface accMS_cons frzS_int frzS_bool frzS_str frzS_slt frzS_nils frzS_nilI beq_dec bne_dec
def byt (n : Nat) : UInt8 := UInt8.ofNat (48 + n)
def dig (m : Nat) : List UInt8 := if m < 10 then [byt m] else dig (m / 10) ++ [byt (m % 10)]
termination_by m
decreasing_by omega
theorem dig_small {m : Nat} (h : m < 10) : dig m = [byt (m % 10)] := by rw [dig, if_pos h, Nat.mod_eq_of_lt h]
theorem dig_big {m : Nat} (h : ¬ m < 10) : dig m = dig (m / 10) ++ [byt (m % 10)] := by rw [dig, if_neg h]
theorem dig_len : ∀ (k m : Nat), m < 10 ^ (k + 1) → (dig m).length ≤ k + 1 := by
  intro k
  induction k with
  | zero =>
    intro m h
    rw [dig_small (by simpa using h)]
    simp
  | succ k ih =>
    intro m h
    by_cases h1 : m < 10
    · rw [dig_small h1]
      simp
    · rw [dig_big h1, List.length_append]
      have := ih (m / 10) (by rw [Nat.pow_succ] at h; omega)
      simp only [List.length_cons, List.length_nil]
      omega
theorem dig_20 {m : Nat} (h : m ≤ 9223372036854775808) : (dig m).length ≤ 20 := dig_len 19 m (by omega)
def textF (n : Int) : List UInt8 := if n < 0 then 45 :: dig n.natAbs else dig n.natAbs
theorem bytes_one (n : Int) : bytes [[.int .u8 n]] = some [UInt8.ofNat n.toNat] := rfl
set_option maxHeartbeats 4000000 in
theorem digits_call (m : Nat) : m ≤ 9223372036854775808 → ∀ st, Cl T n_joineryref01_digits [i64 (-(m : Int))] st (.str (dig m)) st := by
  induction m using Nat.strongRecOn with
  | _ m ih =>
  intro hm st
  obtain ⟨n, hn⟩ : ∃ n : Int, -(m : Int) = n := ⟨_, rfl⟩
  obtain ⟨r, hr⟩ : ∃ r : Int, -((m % 10 : Nat) : Int) = r := ⟨_, rfl⟩
  obtain ⟨q, hq⟩ : ∃ q : Int, -((m / 10 : Nat) : Int) = q := ⟨_, rfl⟩
  have er : n.tmod 10 = r := by rw [← hn, ← hr, Int.neg_tmod]; rfl
  have eq : n.tdiv 10 = q := by rw [← hn, ← hq, Int.neg_tdiv]; rfl
  have hw : IntKind.wrap .u8 (48 - r) = 48 - r := by
    simp only [IntKind.wrap, IntKind.bits, IntKind.signed, Bool.false_and]
    simp
    omega
  have hc : UInt8.ofNat (48 - r).toNat = byt (m % 10) := by
    unfold byt
    congr 1
    omega
  have r0 : -9 ≤ r ∧ r ≤ 0 := by omega
  have n0 : -9223372036854775808 ≤ n ∧ n ≤ 0 := by omega
  have q0 : -9223372036854775808 ≤ q ∧ q ≤ 0 := by omega
  rw [hn]
  refine Wp.pure (fn := c_joineryref01_digits) rfl rfl rfl («as» := [i64 n]) rfl ?_
  by_cases h9 : m < 10
  · have h9' : (-10 : Int) < n := by omega
    rw [dig_small h9]
    (all_goals have := fa (a5 er hw @bytes_one hc h9'); repeat' first | refine Wp.v ?_ | (refine Wp.c ?_ ?_ <;> intro))
    refine Wp.ret ?_; simp [Res, resU, res1, c_joineryref01_digits]
  · have h9' : ¬ (-10 : Int) < n := by omega
    have hl := dig_20 (m := m / 10) (by omega)
    have hl2 : (dig (m / 10)).length ≤ 9223372036854775806 := by omega
    have hl3 : (dig (m / 10)).length + 1 ≤ 9223372036854775807 := by omega
    have hd := ih (m / 10) (by omega) (by omega)
    rw [hq] at hd
    rw [dig_big h9]
    (all_goals have := fa (a5 er eq hw @bytes_one (a4 hc h9' hl2 hl3)); repeat' first | refine Wp.v ?_ | (apply Wp.call; exact hd _) | (refine Wp.c ?_ ?_ <;> intro))
    refine Wp.ret ?_; simp [Res, resU, res1, c_joineryref01_digits]
set_option maxHeartbeats 4000000 in
theorem rtext_call (n : Int) (h : rng n) (st : List Ob) : Cl T n_joineryref01_Text [i64 n] st (.str (textF n)) st := by
  obtain ⟨h1, h2⟩ := h
  have hd := digits_call n.natAbs (by omega)
  have hl := dig_20 (m := n.natAbs) (by omega)
  have hl2 : (dig n.natAbs).length ≤ 9223372036854775806 := by omega
  have hl3 : (dig n.natAbs).length + 1 ≤ 9223372036854775807 := by omega
  have hl4 : 1 + (dig n.natAbs).length ≤ 9223372036854775807 := by omega
  unfold textF
  refine Wp.pure (fn := c_joineryref01_Text) rfl rfl rfl («as» := [i64 n]) rfl ?_
  by_cases h0 : n < 0
  · rw [if_pos h0]
    rw [show -((n.natAbs : Nat) : Int) = n by omega] at hd
    generalize dig n.natAbs = D at *
    (all_goals have := fa (a4 h0 hl2 hl3 hl4); repeat' first | refine Wp.v ?_ | (apply Wp.call; exact hd _) | (refine Wp.c ?_ ?_ <;> intro))
    refine Wp.ret ?_; simp [Res, resU, res1, c_joineryref01_Text]
  · rw [if_neg h0]
    rw [show -((n.natAbs : Nat) : Int) = -n by omega] at hd
    generalize dig n.natAbs = D at *
    (all_goals have := fa h0; repeat' first | refine Wp.v ?_ | (apply Wp.call; exact hd _) | (refine Wp.c ?_ ?_ <;> intro))
    refine Wp.ret ?_; simp [Res, resU, res1, c_joineryref01_Text]
theorem wrap_u64 {n : Int} (h1 : 0 ≤ n) (h2 : n < 18446744073709551616) : IntKind.wrap .u64 n = n := by
  simp only [IntKind.wrap, IntKind.bits, IntKind.signed, Bool.false_and]
  simp
  omega
theorem wrap_u64n {n : Int} (h1 : -9223372036854775808 ≤ n) (h2 : n < 0) : IntKind.wrap .u64 n = n + 18446744073709551616 := by
  simp only [IntKind.wrap, IntKind.bits, IntKind.signed, Bool.false_and]
  simp
  omega
theorem wrap_u8 {n : Int} (h1 : 0 ≤ n) (h2 : n < 256) : IntKind.wrap .u8 n = n := by
  simp only [IntKind.wrap, IntKind.bits, IntKind.signed, Bool.false_and]
  simp
  omega
def bytC (b : UInt8) : List U := [.int .u8 b.toNat]
def bytR (s : List UInt8) : List (List U) := s.map bytC
theorem bytes_all (s : List UInt8) : bytes (bytR s) = some s := by
  induction s with
  | nil => rfl
  | cons b s ih =>
    show (bytes (bytR s)).bind _ = _
    rw [ih]
    simp
theorem bytR_app (s t : List UInt8) : bytR s ++ bytR t = bytR (s ++ t) := by simp [bytR]
theorem bytR_len (s : List UInt8) : (bytR s).length = s.length := by simp [bytR]
theorem bytR_one (c : UInt8) : [[U.int .u8 (c.toNat : Int)]] = bytR [c] := rfl
def nx0S (n : Int) (a : Nat × List UInt8 × Bool) : S := ⟨[(0, i64 n), (3, .int .u64 (a.1 : Nat)), (4, .own 0 a.2.1.length), (5, .bool a.2.2)], [.row 5 1 false (bytR a.2.1)]⟩
def NxI (N : Nat) (a : Nat × List UInt8 × Bool) : Prop := a.1 ≤ N ∧ (a.2.2 = true → dig a.1 ++ a.2.1.reverse = dig N) ∧ (a.2.2 = false → a.1 = 0 ∧ a.2.1.reverse = dig N)
theorem byt_nat {r : Nat} (h : r < 10) : (((byt r).toNat : Nat) : Int) = 48 + (r : Int) := by
  unfold byt
  rw [UInt8.toNat_ofNat']
  omega
set_option maxHeartbeats 4000000 in
theorem nx0_loop (n : Int) (N : Nat) (hN : N ≤ 9223372036854775808) (R : S → Prop) : Wp T (.loop c_num_Text_L0) (nx0S n (N, [], true)) (fun _ => False) R
    (fun k s' => k = 0 ∧ s' = ⟨[(0, i64 n), (3, .int .u64 0), (4, .own 0 (dig N).length), (15, .bool false)], [.row 5 1 false (bytR (dig N).reverse)]⟩) := by
  have h20 := dig_20 hN
  refine Wp.loop (fun a : Nat × List UInt8 × Bool => 2 * a.1 + if a.2.2 then 1 else 0) (nx0S n) (NxI N) (fun a ⟨hu, hm, hf⟩ => ?_) (N, [], true) ⟨Nat.le_refl _, fun _ => by simp, fun h => by cases h⟩
  obtain ⟨u, t, more⟩ := a
  simp only at hu hm hf
  cases more with
  | false =>
    obtain ⟨rfl, ht⟩ := hf rfl
    simp only [nx0S]
    repeat refine Wp.a ?_
    refine Wp.i ?_ ?_ <;> intro h1
    · cases h1
    · refine Wp.exit ⟨rfl, ?_⟩
      have : t = (dig N).reverse := by rw [← ht, List.reverse_reverse]
      rw [this, List.length_reverse]
  | true =>
    have hd := hm rfl
    obtain ⟨r, hr⟩ : ∃ r, u % 10 = r := ⟨_, rfl⟩
    obtain ⟨q, hq⟩ : ∃ q, u / 10 = q := ⟨_, rfl⟩
    have er : (u : Int).tmod 10 = (r : Int) := by rw [← hr]; rfl
    have eq : (u : Int).tdiv 10 = (q : Int) := by rw [← hq]; rfl
    have er' : (u : Int) % 10 = (r : Int) := by omega
    have eq' : (u : Int) / 10 = (q : Int) := by omega
    have w1 : IntKind.wrap .u64 (r : Int) = r := wrap_u64 (by omega) (by omega)
    have w2 : IntKind.wrap .u64 (48 + (r : Int)) = 48 + (r : Int) := wrap_u64 (by omega) (by omega)
    have w3 : IntKind.wrap .u64 (q : Int) = q := wrap_u64 (by omega) (by omega)
    have w4 : IntKind.wrap .u8 (48 + (r : Int)) = ((byt r).toNat : Int) := by rw [wrap_u8 (by omega) (by omega), byt_nat (by omega)]
    have hl : t.length + 1 ≤ 20 := by
      have := congrArg List.length hd
      have hp : 0 < (dig u).length := by
        by_cases h : u < 10
        · rw [dig_small h]; simp
        · rw [dig_big h]; simp
      simp only [List.length_append, List.length_reverse] at this
      omega
    have hl1 : t.length + 1 ≤ 140737488355328 := by omega
    have hl2 : t.length ≤ 140737488355327 := by omega
    have hnext : NxI N (q, t ++ [byt r], decide (0 < q)) := by
      refine ⟨by simp only; omega, fun h => ?_, fun h => ?_⟩
      · have h' : 0 < q := by simpa using h
        have : dig u = dig q ++ [byt r] := by rw [dig_big (m := u) (by omega), hq, hr]
        rw [this] at hd
        simpa using hd
      · have h' : q = 0 := by simpa using h
        have : dig u = [byt r] := by rw [dig_small (m := u) (by omega), hr]
        rw [this] at hd
        exact ⟨h', by simpa using hd⟩
    simp only [nx0S]
    repeat refine Wp.a ?_
    refine Wp.i ?_ ?_ <;> intro h1
    · (have := fa (a5 er eq er' eq' (a5 w1 w2 w3 w4 (a3 @bytR_len hl1 hl2))); repeat refine Wp.f ?_)
      refine ⟨(q, t ++ [byt r], decide (0 < q)), ?_, ?_, hnext⟩
      · simp [trimO, trim, nx0S, bytR, bytC]
      · simp only
        split <;> rename_i h
        · have h' : 0 < q := by simpa using h
          simp only [if_true]
          omega
        · simp only [if_true]
          omega
    · cases h1
theorem bytR_set (s : List UInt8) (k : Nat) (b : UInt8) : (bytR s).set k [.int .u8 (b.toNat : Int)] = bytR (s.set k b) := by simp [bytR, bytC, List.map_set]
theorem bytR_rep (n : Nat) : List.replicate n [U.int .u8 0] = bytR (List.replicate n 0) := by simp [bytR, bytC]
theorem bytR_get (s : List UInt8) (i : Nat) (b : UInt8) (h : s[i]? = some b) : (bytR s)[i]? = some [.int .u8 (b.toNat : Int)] := by simp [bytR, bytC, h]
theorem rep_set (k : Nat) (r : List UInt8) (b : UInt8) : (List.replicate (k + 1) 0 ++ r).set k b = List.replicate k 0 ++ b :: r := by
  induction k with
  | zero => rfl
  | succ k ih =>
    rw [List.replicate_succ, List.cons_append, List.set_cons_succ, ih]
    rfl
def out1 (t : List UInt8) (i : Nat) : List UInt8 := List.replicate (t.length - i) 0 ++ (t.take i).reverse
theorem out1_len (t : List UInt8) (i : Nat) (h : i ≤ t.length) : (out1 t i).length = t.length := by
  simp [out1]
  omega
theorem out1_set (t : List UInt8) (i k : Nat) (h : i < t.length) (hk : t.length - 1 - i = k) : (out1 t i).set k t[i] = out1 t (i + 1) := by
  unfold out1
  rw [show t.length - i = k + 1 by omega, rep_set, List.take_succ_eq_append_getElem h, List.reverse_append, show t.length - (i + 1) = k by omega]
  rfl
def nx1S (t : List UInt8) (X : List Ob) (i : Nat) : S := ⟨[(4, .own 0 t.length), (6, .own (X.length + 1) t.length), (35, .own 0 t.length), (36, i64 t.length), (37, i64 i)], .row 5 1 false (bytR t) :: (X ++ [.row 5 1 false (bytR (out1 t i))])⟩
set_option maxHeartbeats 4000000 in
theorem nx1_loop (t : List UInt8) (X : List Ob) (hX : X = [] ∨ X = [.row 5 1 false (bytR [45])]) (ht : t.length ≤ 1000) (R : S → Prop) : Wp T (.loop c_num_Text_L1) (nx1S t X 0) (fun _ => False) R
    (fun k s' => k = 2 ∧ s' = ⟨[(4, .own 0 t.length), (6, .own (X.length + 1) t.length), (35, .own 0 t.length), (36, i64 t.length), (37, i64 (t.length : Nat)), (38, .bool false)], .row 5 1 false (bytR t) :: (X ++ [.row 5 1 false (bytR t.reverse)])⟩) := by
  refine Wp.count t.length (fun i => nx1S t X i) (fun _ => True) (fun i hi _ => ?_) (fun _ => ?_) 0 (by omega) trivial
  · have hi' : (i : Int) < t.length := by omega
    obtain ⟨k, hk⟩ : ∃ k, t.length - 1 - i = k := ⟨_, rfl⟩
    have ek : (t.length : Int) - 1 - i = k := by omega
    have hk' : (k : Int) < t.length := by omega
    have hk2 : k < t.length := by omega
    have hg := bytR_get t i t[i] (List.getElem?_eq_getElem hi)
    have hs := bytR_set (out1 t i) k t[i]
    rw [out1_set t i k hi hk] at hs
    have hl := bytR_len (out1 t i)
    rw [out1_len t i (by omega)] at hl
    have hlt := bytR_len t
    have hgo : (bytR (out1 t i))[k]? = some [.int .u8 ((out1 t i)[k]'(by rw [out1_len t i (by omega)]; omega)).toNat] := bytR_get _ _ _ (List.getElem?_eq_getElem _)
    generalize (out1 t i)[k]'(by rw [out1_len t i (by omega)]; omega) = c at hgo
    generalize hB : bytR (out1 t i) = B at *
    have hend : bytR (out1 t (i + 1)) = B.set k [.int .u8 (t[i].toNat : Int)] := hs.symm
    simp only [nx1S, hB, hend]
    generalize t[i] = b at *
    rcases hX with rfl | rfl
    · (have := fa hi'; repeat refine Wp.f ?_)
      refine Wp.i ?_ ?_ <;> intro h1
      · (have := fa (a5 hlt hi' hg hl (a4 hgo ek hk' @wrap_id)); repeat refine Wp.f ?_)
        exact ⟨trimO_len rfl, trivial⟩
      · cases h1
    · (have := fa hi'; repeat refine Wp.f ?_)
      refine Wp.i ?_ ?_ <;> intro h1
      · (have := fa (a5 hlt hi' hg hl (a4 hgo ek hk' @wrap_id)); repeat refine Wp.f ?_)
        exact ⟨trimO_len rfl, trivial⟩
      · cases h1
  · have : out1 t t.length = t.reverse := by simp [out1]
    simp only [nx1S, this]
    repeat refine Wp.a ?_
    refine Wp.i ?_ ?_ <;> intro h1
    · simp at h1
    · exact Wp.exit ⟨rfl, rfl⟩
set_option maxHeartbeats 8000000 in
theorem text_call (n : Int) (h : rng n) (st : List Ob) : Cl T n_num_Text [i64 n] st (.str (textF n)) st := by
  obtain ⟨h1, h2⟩ := h
  refine Wp.pure (fn := c_num_Text) rfl rfl rfl («as» := [i64 n]) rfl ?_
  have hl0 := fun R => nx0_loop n n.natAbs (by omega) R
  have hd := dig_20 (m := n.natAbs) (by omega)
  unfold textF
  by_cases h0 : n < 0
  · rw [if_pos h0]
    obtain ⟨w, hw⟩ : ∃ w : Int, n + 18446744073709551616 = w := ⟨_, rfl⟩
    have w1 : IntKind.wrap .u64 n = w := by rw [wrap_u64n h1 h0, hw]
    have w2 : IntKind.wrap .u64 (-w) = (n.natAbs : Int) := by
      rw [show ((n.natAbs : Nat) : Int) = -n by omega]
      simp only [IntKind.wrap, IntKind.bits, IntKind.signed, Bool.false_and]
      simp
      omega
    generalize n.natAbs = N at *
    obtain ⟨t, ht⟩ : ∃ t, (dig N).reverse ++ [45] = t := ⟨_, rfl⟩
    obtain ⟨M, hM⟩ : ∃ M, (dig N).length + 1 = M := ⟨_, rfl⟩
    have htl : t.length = M := by rw [← ht, ← hM]; simp
    have hMi : ((dig N).length : Int) + 1 = (M : Int) := by omega
    have hl1 := fun R => nx1_loop t [.row 5 1 false (bytR [45])] (Or.inr rfl) (by omega) R
    have e0 : out1 t 0 = List.replicate M 0 := by simp [out1, htl]
    have e3 : bytR [45] = [[U.int .u8 45]] := rfl
    have e1 : bytR (dig N).reverse ++ [[.int .u8 45]] = bytR t := by rw [← ht]; exact bytR_app _ [45]
    have e2 : (bytR (dig N).reverse).length = (dig N).length := by rw [bytR_len, List.length_reverse]
    have e5 : (bytR t).length = M := by rw [bytR_len, htl]
    have e6 : t.reverse = 45 :: dig N := by rw [← ht]; simp
    simp only [nx1S, htl, e0, e3, List.length_cons, List.length_nil, Nat.zero_add, List.cons_append, List.nil_append] at hl1
    simp only [nx0S] at hl0
    have lim : M ≤ 140737488355328 := by omega
    have limi : (M : Int) ≤ limit := by simp only [limit]; omega
    have lim2 : (dig N).length ≤ 140737488355327 := by omega
    (all_goals have := fa (a3 h0 w1 w2); repeat' first | refine Wp.v ?_ | (refine Wp.c ?_ ?_ <;> intro))
    refine (hl0 _).imp (fun _ h => h.elim) (fun _ h => h) ?_
    rintro k s ⟨rfl, rfl⟩
    rw [if_pos rfl]
    generalize bytR (dig N).reverse = DR at *
    (all_goals have := fa (a5 h0 e1 e2 hM (a5 hMi e5 lim lim2 (a2 limi @bytR_rep))); repeat' first | refine Wp.v ?_ | (refine Wp.c ?_ ?_ <;> intro))
    refine (hl1 _).imp (fun _ h => h.elim) (fun _ h => h) ?_
    rintro k s ⟨rfl, rfl⟩
    rw [if_pos rfl, e6]
    have e7 := bytes_all (45 :: dig N)
    have e8 : (bytR (45 :: dig N)).length = M := by rw [bytR_len, ← hM]; simp
    generalize bytR (45 :: dig N) = BR at *
    (all_goals have := fa (a2 e7 e8); repeat' first | refine Wp.v ?_ | (refine Wp.c ?_ ?_ <;> intro))
    refine Wp.ret ?_; simp [Res, resU, res1, c_num_Text]
  · rw [if_neg h0]
    have w1 : IntKind.wrap .u64 n = (n.natAbs : Int) := by rw [wrap_u64 (by omega) (by omega)]; omega
    generalize n.natAbs = N at *
    obtain ⟨t, ht⟩ : ∃ t, (dig N).reverse = t := ⟨_, rfl⟩
    obtain ⟨M, hM⟩ : ∃ M, (dig N).length = M := ⟨_, rfl⟩
    have htl : t.length = M := by rw [← ht, ← hM]; simp
    have hl1 := fun R => nx1_loop t [] (Or.inl rfl) (by omega) R
    have e0 : out1 t 0 = List.replicate M 0 := by simp [out1, htl]
    have e5 : (bytR t).length = M := by rw [bytR_len, htl]
    have e6 : t.reverse = dig N := by rw [← ht]; simp
    simp only [nx1S, htl, e0, List.length_cons, List.length_nil, Nat.zero_add, List.cons_append, List.nil_append] at hl1
    simp only [nx0S, ht, hM] at hl0
    have limi : (M : Int) ≤ limit := by simp only [limit]; omega
    (all_goals have := fa (a2 h0 w1); repeat' first | refine Wp.v ?_ | (refine Wp.c ?_ ?_ <;> intro))
    refine (hl0 _).imp (fun _ h => h.elim) (fun _ h => h) ?_
    rintro k s ⟨rfl, rfl⟩
    rw [if_pos rfl]
    (all_goals have := fa (a4 h0 e5 limi @bytR_rep); repeat' first | refine Wp.v ?_ | (refine Wp.c ?_ ?_ <;> intro))
    refine (hl1 _).imp (fun _ h => h.elim) (fun _ h => h) ?_
    rintro k s ⟨rfl, rfl⟩
    rw [if_pos rfl, e6]
    have e7 := bytes_all (dig N)
    have e8 : (bytR (dig N)).length = M := by rw [bytR_len, hM]
    generalize bytR (dig N) = BR at *
    (all_goals have := fa (a2 e7 e8); repeat' first | refine Wp.v ?_ | (refine Wp.c ?_ ?_ <;> intro))
    refine Wp.ret ?_; simp [Res, resU, res1, c_num_Text]
theorem text_len {n : Int} (h : rng n) : (textF n).length ≤ 21 := by
  have := dig_20 (m := n.natAbs) (by have := h.1; have := h.2; omega)
  unfold textF
  split
  · simp only [List.length_cons]; omega
  · omega
def toF (n : Int) : List UInt8 := if n < 0 then [45] else textF n
def srcF (s : Int × Int) : List UInt8 := if s.1 = 0 then [110, 111, 110, 101] else if s.1 = 1 then 114 :: textF s.2 else if s.1 = 2 then 35 :: textF s.2 else if s.1 = 3 then [100, 101, 102] else 118 :: textF s.2
theorem to_len {n : Int} (h : rng n) : (toF n).length ≤ 21 := by
  have := text_len h
  unfold toF
  split
  · simp
  · omega
theorem src_len {s : Int × Int} (h : SrcR s) : (srcF s).length ≤ 22 := by
  have := text_len h.2
  unfold srcF
  repeat' split
  all_goals simp only [List.length_cons, List.length_nil]
  all_goals omega
set_option maxHeartbeats 4000000 in
theorem to_call (n : Int) (h : rng n) (st : List Ob) : Cl T n_shape_to [i64 n] st (.str (toF n)) st := by
  have ht := text_call n h
  refine Wp.pure (fn := c_shape_to) rfl rfl rfl («as» := [i64 n]) rfl ?_
  unfold toF
  by_cases h0 : n < 0
  · rw [if_pos h0]
    (all_goals have := fa h0; repeat' first | refine Wp.v ?_ | (refine Wp.c ?_ ?_ <;> intro))
    refine Wp.ret ?_; simp [Res, resU, res1, c_shape_to]
  · rw [if_neg h0]
    (all_goals have := fa h0; repeat' first | refine Wp.v ?_ | (apply Wp.call; exact ht _) | (refine Wp.c ?_ ?_ <;> intro))
    refine Wp.ret ?_; simp [Res, resU, res1, c_shape_to]
set_option maxHeartbeats 4000000 in
theorem rto_call (n : Int) (h : rng n) (hn : -1 ≤ n) (st : List Ob) : Cl T n_joineryref14_to [i64 n] st (.str (toF n)) st := by
  have ht := rtext_call n h
  refine Wp.pure (fn := c_joineryref14_to) rfl rfl rfl («as» := [i64 n]) rfl ?_
  unfold toF
  by_cases h0 : n = -1
  · subst h0
    (repeat' first | refine Wp.u ?_ | (refine Wp.c ?_ ?_ <;> intro))
    refine Wp.ret ?_; simp [Res, resU, res1, c_joineryref14_to]
  · rw [if_neg (by omega)]
    (all_goals have := fa h0; repeat' first | refine Wp.v ?_ | (apply Wp.call; exact ht _) | (refine Wp.c ?_ ?_ <;> intro))
    refine Wp.ret ?_; simp [Res, resU, res1, c_joineryref14_to]
set_option maxHeartbeats 8000000 in
theorem source_call (s : Int × Int) (h : SrcR s) (st : List Ob) : Cl T n_shape_source [.agg (srcC s)] st (.str (srcF s)) st := by
  have ht := text_call s.2 h.2
  have hl := text_len h.2
  have hl2 : 1 + (textF s.2).length ≤ 9223372036854775807 := by omega
  have hl3 : (textF s.2).length + 1 ≤ 9223372036854775807 := by omega
  have hl4 : (textF s.2).length ≤ 9223372036854775806 := by omega
  refine Wp.pure (fn := c_shape_source) rfl rfl rfl («as» := [.agg (srcC s)]) rfl ?_
  unfold srcF
  obtain ⟨k, m⟩ := s
  simp only [srcC] at *
  generalize textF m = t at *
  by_cases h0 : k = 0
  · subst h0
    (repeat' first | refine Wp.u ?_ | (refine Wp.c ?_ ?_ <;> intro))
    refine Wp.ret ?_; simp [Res, resU, res1, c_shape_source]
  · by_cases h1 : k = 1
    · subst h1
      (all_goals have := fa (a3 hl2 hl3 hl4); repeat' first | refine Wp.v ?_ | (apply Wp.call; exact ht _) | (refine Wp.c ?_ ?_ <;> intro))
      refine Wp.ret ?_; simp [Res, resU, res1, c_shape_source]
    · by_cases h2 : k = 2
      · subst h2
        (all_goals have := fa (a3 hl2 hl3 hl4); repeat' first | refine Wp.v ?_ | (apply Wp.call; exact ht _) | (refine Wp.c ?_ ?_ <;> intro))
        refine Wp.ret ?_; simp [Res, resU, res1, c_shape_source]
      · by_cases h3 : k = 3
        · subst h3
          (repeat' first | refine Wp.u ?_ | (refine Wp.c ?_ ?_ <;> intro))
          refine Wp.ret ?_; simp [Res, resU, res1, c_shape_source]
        · (all_goals have := fa (a5 h0 h1 h2 h3 (a3 hl2 hl3 hl4)); repeat' first | refine Wp.v ?_ | (apply Wp.call; exact ht _) | (refine Wp.c ?_ ?_ <;> intro))
          refine Wp.ret ?_; simp [Res, resU, res1, c_shape_source, h0, h1, h2, h3]
set_option maxHeartbeats 8000000 in
theorem rsource_call (s : Int × Int) (h : SrcR s) (hk : 0 ≤ s.1 ∧ s.1 ≤ 4) (st : List Ob) : Cl T n_joineryref14_source [.agg (srcC s)] st (.str (srcF s)) st := by
  have ht := rtext_call s.2 h.2
  have hl := text_len h.2
  have hl2 : 1 + (textF s.2).length ≤ 9223372036854775807 := by omega
  have hl3 : (textF s.2).length + 1 ≤ 9223372036854775807 := by omega
  have hl4 : (textF s.2).length ≤ 9223372036854775806 := by omega
  refine Wp.pure (fn := c_joineryref14_source) rfl rfl rfl («as» := [.agg (srcC s)]) rfl ?_
  unfold srcF
  obtain ⟨k, m⟩ := s
  simp only [srcC] at *
  generalize textF m = t at *
  have hc : k = 0 ∨ k = 1 ∨ k = 2 ∨ k = 3 ∨ k = 4 := by omega
  rcases hc with rfl | rfl | rfl | rfl | rfl
  all_goals (all_goals have := fa (a3 hl2 hl3 hl4); repeat' first | refine Wp.v ?_ | (apply Wp.call; exact ht _) | (refine Wp.c ?_ ?_ <;> intro))
  all_goals refine Wp.ret ?_; simp [Res, resU, res1, c_joineryref14_source]
theorem src_same (a b : Int × Int) : sameV (.tst [(1, .ti), (1, .ti)]) (.agg (srcC a)) (.agg (srcC b)) = some (decide (a = b)) := by
  obtain ⟨a1, a2⟩ := a
  obtain ⟨b1, b2⟩ := b
  simp only [sameV, cellsS, Option.bind_some, srcC, sameD, same, same.fields, List.length_cons, List.length_nil, List.take, List.drop, i64, Prod.mk.injEq]
  by_cases h1 : a1 = b1
  · by_cases h2 : a2 = b2 <;> simp [h1, h2]
  · simp [h1]
theorem srcC_len (s : Int × Int) : (srcC s).length = 2 := rfl
theorem srcC_take (s : Int × Int) : (srcC s).take 2 = srcC s := rfl
theorem srcC_over (s : Int × Int) (a b : U) : over (srcC s) [a, b] = srcC s := rfl
theorem nodeC_len (y : FNode) : (nodeC y).length = 4 := rfl
theorem nodeC_take (y : FNode) : (nodeC y).take 4 = nodeC y := rfl
theorem nodeC_over (y : FNode) (a b c d : U) : over (nodeC y) [a, b, c, d] = nodeC y := rfl
theorem valC_len (y : FVal) : (valC y).length = 2 := rfl
theorem valC_take (y : FVal) : (valC y).take 2 = valC y := rfl
theorem valC_over (y : FVal) (a b : U) : over (valC y) [a, b] = valC y := rfl
def ss0S (a b : List (Int × Int)) (i : Nat) : S := ⟨[(0, srcsU a), (1, srcsU b), (5, i64 i)], []⟩
set_option maxHeartbeats 4000000 in
theorem ss0_loop (a b : List (Int × Int)) (hl : a.length = b.length) (hb : a.length ≤ 1000000) : Wp T (.loop c_joineryref13_sameSrcs_L1) (ss0S a b 0) (fun _ => False) (Res c_joineryref13_sameSrcs (.bool (decide (a = b))))
    (fun k s' => k = 0 ∧ a = b ∧ s' = ⟨[(0, srcsU a), (1, srcsU b), (5, i64 (a.length : Nat)), (14, .bool false)], []⟩) := by
  refine Wp.count a.length (fun i => ss0S a b i) (fun i => a.take i = b.take i) (fun i hi hI => ?_) (fun hI => ?_) 0 (by omega) (by simp)
  · have hi' : (i : Int) < a.length := by omega
    have hj : i < b.length := by omega
    have hj' : (i : Int) < b.length := by omega
    have ea : a[i]? = some a[i] := List.getElem?_eq_getElem hi
    have eb : b[i]? = some b[i] := List.getElem?_eq_getElem hj
    have hnx := take_eq hi hj hI
    have hne : a[i] ≠ b[i] → decide (a = b) = false := fun h => decide_eq_false fun e => h (by subst e; rfl)
    generalize a[i] = x at *
    generalize b[i] = y at *
    simp only [ss0S]
    (have := fa (a2 @srcsU.eq_1 hi'); repeat refine Wp.f ?_)
    refine Wp.i ?_ ?_ <;> intro h1
    · (have := fa @srcsU.eq_1; repeat refine Wp.f ?_)
      by_cases he : x = y
      · refine Wp.draw (by (simp [c_joineryref13_sameSrcs_D0, I.need]) <;> rfl) (by (simp [srcsU, hi', hj', ea, eb, srcC_len, srcC_take, src_same, he]) <;> rfl) (by (simp [srcsU, hi', hj', ea, eb, srcC_len, srcC_take, src_same, he]) <;> rfl) (by (unfold c_joineryref13_sameSrcs_D0); (repeat (first | ((first | apply Dr.op | apply Dr.opN | (apply Dr.opG; exact rfl)); ((simp [srcsU, hi', hj', ea, eb, srcC_len, srcC_take, src_same, he]) <;> rfl); (apply Evt.all; intro; (simp [srcsU, hi', hj', ea, eb, srcC_len, srcC_take, src_same, he]) <;> (try simp (disch := omega) only [wrap_id]) <;> first | exact ⟨rfl, rfl⟩ | exact rfl); ((simp [I.need]) <;> rfl)) | ((first | (apply Dr.opS; exact rfl; decide) | (apply Dr.opS0; exact rfl)); ((simp [I.need]) <;> rfl)))); exact Dr.nil) (by first | decide +kernel | exact rfl) (by (simp [M2.keep]) <;> rfl) ?_
        repeat refine Wp.a ?_
        refine Wp.i ?_ ?_ <;> intro h2
        · cases h2
        · (have := fa @wrap_id; repeat refine Wp.f ?_)
          exact ⟨by simp [trimO, trim, srcsU], hnx he⟩
      · refine Wp.draw (by (simp [c_joineryref13_sameSrcs_D0, I.need]) <;> rfl) (by (simp [srcsU, hi', hj', ea, eb, srcC_len, srcC_take, src_same, he]) <;> rfl) (by (simp [srcsU, hi', hj', ea, eb, srcC_len, srcC_take, src_same, he]) <;> rfl) (by (unfold c_joineryref13_sameSrcs_D0); (repeat (first | ((first | apply Dr.op | apply Dr.opN | (apply Dr.opG; exact rfl)); ((simp [srcsU, hi', hj', ea, eb, srcC_len, srcC_take, src_same, he]) <;> rfl); (apply Evt.all; intro; (simp [srcsU, hi', hj', ea, eb, srcC_len, srcC_take, src_same, he]) <;> (try simp (disch := omega) only [wrap_id]) <;> first | exact ⟨rfl, rfl⟩ | exact rfl); ((simp [I.need]) <;> rfl)) | ((first | (apply Dr.opS; exact rfl; decide) | (apply Dr.opS0; exact rfl)); ((simp [I.need]) <;> rfl)))); exact Dr.nil) (by first | decide +kernel | exact rfl) (by (simp [M2.keep]) <;> rfl) ?_
        repeat refine Wp.a ?_
        refine Wp.i ?_ ?_ <;> intro h2
        · rw [hne he]
          repeat refine Wp.a ?_
          refine Wp.ret ?_; simp [Res, resU, res1, c_joineryref13_sameSrcs]
        · cases h2
    · cases h1
  · rw [List.take_of_length_le (Nat.le_refl _), List.take_of_length_le (by omega)] at hI
    simp only [ss0S]
    (have := fa @srcsU.eq_1; repeat refine Wp.f ?_)
    refine Wp.i ?_ ?_ <;> intro h1
    · simp at h1
    · exact Wp.exit ⟨rfl, hI, rfl⟩
set_option maxHeartbeats 4000000 in
theorem rsources_call (a b : List (Int × Int)) (hb : a.length ≤ 1000000) (hb2 : b.length ≤ 1000000) (st : List Ob) : Cl T n_joineryref13_sameSrcs [srcsU a, srcsU b] st (.bool (decide (a = b))) st := by
  refine Wp.pure (fn := c_joineryref13_sameSrcs) rfl rfl rfl («as» := [srcsU a, srcsU b]) rfl ?_
  by_cases hl : a.length = b.length
  · have hl' : (a.length : Int) = b.length := by omega
    (have := fa (a2 @srcsU.eq_1 hl'); repeat refine Wp.f ?_)
    refine Wp.i ?_ ?_ <;> intro h1
    · cases h1
    (have := fa (a2 @srcsU.eq_1 hl'); repeat refine Wp.f ?_)
    have := ss0_loop a b hl hb
    simp only [ss0S, srcsU, hl'] at this
    refine this.imp (fun _ h => h.elim) (fun _ h => h) ?_
    rintro k s ⟨rfl, he, rfl⟩
    rw [if_pos rfl, he]
    repeat refine Wp.a ?_
    refine Wp.ret ?_; simp [Res, resU, res1, c_joineryref13_sameSrcs]
  · have hl' : ¬ (a.length : Int) = b.length := by omega
    have : decide (a = b) = false := decide_eq_false fun e => hl (by rw [e])
    rw [this]
    (have := fa (a2 @srcsU.eq_1 hl'); repeat refine Wp.f ?_)
    refine Wp.i ?_ ?_ <;> intro h1
    · repeat refine Wp.a ?_
      refine Wp.ret ?_; simp [Res, resU, res1, c_joineryref13_sameSrcs]
    · cases h1
def rs0S (x y : FForm) (a b : FNode) (n k : Nat) : S := ⟨[(2, .bp 0 0), (3, .bp 1 0), (5, i64 n), (6, .bp 2 0), (7, .bp 3 0), (8, i64 k)], [.box (formC x), .box (formC y), .box (nodeC a), .box (nodeC b)]⟩
set_option maxHeartbeats 4000000 in
theorem rs0_loop (x y : FForm) (a b : FNode) (n : Nat) (hl : a.outs.length = b.outs.length) (hb : a.outs.length ≤ 1000000) (r : Bool) (hr : a.outs ≠ b.outs → r = false) :
    Wp T (.loop c_joineryref13_Same_L2) (rs0S x y a b n 0) (fun _ => False) (Res c_joineryref13_Same (.bool r))
      (fun c s' => c = 2 ∧ a.outs = b.outs ∧ s' = ⟨[(2, .bp 0 0), (3, .bp 1 0), (5, i64 n), (6, .bp 2 0), (7, .bp 3 0), (8, i64 (a.outs.length : Nat)), (83, .bool false)], [.box (formC x), .box (formC y), .box (nodeC a), .box (nodeC b)]⟩) := by
  refine Wp.count a.outs.length (fun k => rs0S x y a b n k) (fun k => a.outs.take k = b.outs.take k) (fun k hk hI => ?_) (fun hI => ?_) 0 (by omega) (by simp)
  · have hk' : (k : Int) < a.outs.length := by omega
    have hj : k < b.outs.length := by omega
    have hj' : (k : Int) < b.outs.length := by omega
    have ea : a.outs[k]? = some a.outs[k] := List.getElem?_eq_getElem hk
    have eb : b.outs[k]? = some b.outs[k] := List.getElem?_eq_getElem hj
    have hnx := take_eq hk hj hI
    have hne : a.outs[k] ≠ b.outs[k] → r = false := fun h => hr fun e => h (by simp [e])
    generalize a.outs[k] = u at *
    generalize b.outs[k] = v at *
    simp only [rs0S]
    (have := fa (a3 @nodeC.eq_1 @outsU.eq_1 hk'); repeat refine Wp.f ?_)
    refine Wp.i ?_ ?_ <;> intro h1
    · by_cases he : u = v
      · repeat refine Wp.a ?_
        refine Wp.draw (by (simp [c_joineryref13_Same_D1, I.need]) <;> rfl) (by (simp [outsU, outC, nodeC, hk', hj', ea, eb, he]) <;> rfl) (by (simp [outsU, outC, nodeC, hk', hj', ea, eb, he]) <;> rfl) (by (unfold c_joineryref13_Same_D1); (repeat (first | ((first | apply Dr.op | apply Dr.opN | (apply Dr.opG; exact rfl)); ((simp [outsU, outC, nodeC, hk', hj', ea, eb, he]) <;> rfl); (apply Evt.all; intro; (simp [outsU, outC, nodeC, hk', hj', ea, eb, he]) <;> (try simp (disch := omega) only [wrap_id]) <;> first | exact ⟨rfl, rfl⟩ | exact rfl); ((simp [I.need]) <;> rfl)) | ((first | (apply Dr.opS; exact rfl; decide) | (apply Dr.opS0; exact rfl)); ((simp [I.need]) <;> rfl)))); exact Dr.nil) (by first | decide +kernel | exact rfl) (by (simp [M2.keep]) <;> rfl) ?_
        repeat refine Wp.a ?_
        refine Wp.i ?_ ?_ <;> intro h2
        · cases h2
        · (have := fa @wrap_id; repeat refine Wp.f ?_)
          exact ⟨trimO_len rfl, hnx he⟩
      · repeat refine Wp.a ?_
        refine Wp.draw (by (simp [c_joineryref13_Same_D1, I.need]) <;> rfl) (by (simp [outsU, outC, nodeC, hk', hj', ea, eb, he]) <;> rfl) (by (simp [outsU, outC, nodeC, hk', hj', ea, eb, he]) <;> rfl) (by (unfold c_joineryref13_Same_D1); (repeat (first | ((first | apply Dr.op | apply Dr.opN | (apply Dr.opG; exact rfl)); ((simp [outsU, outC, nodeC, hk', hj', ea, eb, he]) <;> rfl); (apply Evt.all; intro; (simp [outsU, outC, nodeC, hk', hj', ea, eb, he]) <;> (try simp (disch := omega) only [wrap_id]) <;> first | exact ⟨rfl, rfl⟩ | exact rfl); ((simp [I.need]) <;> rfl)) | ((first | (apply Dr.opS; exact rfl; decide) | (apply Dr.opS0; exact rfl)); ((simp [I.need]) <;> rfl)))); exact Dr.nil) (by first | decide +kernel | exact rfl) (by (simp [M2.keep]) <;> rfl) ?_
        repeat refine Wp.a ?_
        refine Wp.i ?_ ?_ <;> intro h2
        · rw [hne he]
          repeat refine Wp.a ?_
          refine Wp.ret ?_; simp [Res, resU, res1, c_joineryref13_Same]
        · cases h2
    · cases h1
  · rw [List.take_of_length_le (Nat.le_refl _), List.take_of_length_le (by omega)] at hI
    simp only [rs0S]
    (have := fa (a2 @nodeC.eq_1 @outsU.eq_1); repeat refine Wp.f ?_)
    refine Wp.i ?_ ?_ <;> intro h1
    · simp at h1
    · exact Wp.exit ⟨rfl, hI, rfl⟩
def rs1S (x y : FForm) (n : Nat) : S := ⟨[(2, .bp 0 0), (3, .bp 1 0), (5, i64 n)], [.box (formC x), .box (formC y)]⟩
set_option maxHeartbeats 8000000 in
theorem rs1_loop (x y : FForm) (hx : Small x) (hy : Small y) (hl : x.nodes.length = y.nodes.length) (r : Bool) (hr : x.nodes ≠ y.nodes → r = false) :
    Wp T (.loop c_joineryref13_Same_L3) (rs1S x y 0) (fun _ => False) (Res c_joineryref13_Same (.bool r))
      (fun c s' => c = 0 ∧ x.nodes = y.nodes ∧ s' = ⟨[(2, .bp 0 0), (3, .bp 1 0), (5, i64 (x.nodes.length : Nat)), (37, .bool false)], [.box (formC x), .box (formC y)]⟩) := by
  have hbx := hx.nodes
  refine Wp.count x.nodes.length (fun k => rs1S x y k) (fun k => x.nodes.take k = y.nodes.take k) (fun n hn hI => ?_) (fun hI => ?_) 0 (by omega) (by simp)
  · have hn' : (n : Int) < x.nodes.length := by omega
    have hj : n < y.nodes.length := by omega
    have hj' : (n : Int) < y.nodes.length := by omega
    have ea : x.nodes[n]? = some x.nodes[n] := List.getElem?_eq_getElem hn
    have eb : y.nodes[n]? = some y.nodes[n] := List.getElem?_eq_getElem hj
    have hnx := take_eq hn hj hI
    have hne : x.nodes[n] ≠ y.nodes[n] → r = false := fun h => hr fun e => h (by simp [e])
    have ha1 := hx.args _ (List.getElem_mem hn)
    have ha2 := hy.args _ (List.getElem_mem hj)
    have ho1 := hx.outs _ (List.getElem_mem hn)
    generalize x.nodes[n] = a at *
    generalize y.nodes[n] = b at *
    have hso := fun st => rsources_call a.args b.args (by omega) (by omega) st
    simp only [rs1S]
    (have := fa (a2 @formC.eq_1 hn'); repeat refine Wp.f ?_)
    refine Wp.i ?_ ?_ <;> intro h1
    · repeat refine Wp.a ?_
      refine Wp.draw (by (simp [c_joineryref13_Same_D0, I.need]) <;> rfl) (by (simp [formC, hn', hj', ea, eb, nodeC_len, nodeC_take, nodeC_over]) <;> rfl) (by (simp [formC, hn', hj', ea, eb, nodeC_len, nodeC_take, nodeC_over]) <;> rfl) (by (unfold c_joineryref13_Same_D0); (repeat (first | ((first | apply Dr.op | apply Dr.opN | (apply Dr.opG; exact rfl)); ((simp [formC, hn', hj', ea, eb, nodeC_len, nodeC_take, nodeC_over]) <;> rfl); (apply Evt.all; intro; (simp [formC, hn', hj', ea, eb, nodeC_len, nodeC_take, nodeC_over]) <;> (try simp (disch := omega) only [wrap_id]) <;> first | exact ⟨rfl, rfl⟩ | exact rfl); ((simp [I.need]) <;> rfl)) | ((first | (apply Dr.opS; exact rfl; decide) | (apply Dr.opS0; exact rfl)); ((simp [I.need]) <;> rfl)))); exact Dr.nil) (by first | decide +kernel | exact rfl) (by (simp [M2.keep]) <;> rfl) ?_
      by_cases c1 : a.op = b.op
      · by_cases c2 : a.n = b.n
        · by_cases c3 : a.args = b.args
          · by_cases c4 : a.outs.length = b.outs.length
            · have c4' : (a.outs.length : Int) = b.outs.length := by omega
              have d3 : decide (a.args = b.args) = true := decide_eq_true c3
              rw [d3] at hso
              (all_goals have := fa (a5 @nodeC.eq_1 @outsU.eq_1 @c1 @c2 c4'); repeat' first | refine Wp.v ?_ | (apply Wp.call; exact hso _) | (refine Wp.c ?_ ?_ <;> intro))
              have hlp := rs0_loop x y a b n c4 (by omega) r (fun h => hne fun e => h (by rw [e]))
              simp only [rs0S, nodeC, outsU, formC, c1, c2, c4'] at hlp
              refine hlp.imp (fun _ h => h.elim) (fun _ h => h) ?_
              rintro c s ⟨rfl, he, rfl⟩
              rw [if_pos rfl]
              (have := fa @wrap_id; repeat refine Wp.f ?_)
              refine ⟨by simp [trimO, trim, formC], hnx ?_⟩
              obtain ⟨a1, a2, a3, a4⟩ := a
              obtain ⟨b1, b2, b3, b4⟩ := b
              simp only at c1 c2 c3 he
              rw [c1, c2, c3, he]
            · have c4' : ¬ (a.outs.length : Int) = b.outs.length := by omega
              have d3 : decide (a.args = b.args) = true := decide_eq_true c3
              rw [d3] at hso
              rw [hne (fun e => c4 (by rw [e]))]
              (all_goals have := fa (a5 @nodeC.eq_1 @outsU.eq_1 @c1 @c2 c4'); repeat' first | refine Wp.v ?_ | (apply Wp.call; exact hso _) | (refine Wp.c ?_ ?_ <;> intro))
              refine Wp.ret ?_; simp [Res, resU, res1, c_joineryref13_Same]
          · have d3 : decide (a.args = b.args) = false := decide_eq_false c3
            rw [d3] at hso
            rw [hne (fun e => c3 (by rw [e]))]
            (all_goals have := fa (a4 @nodeC.eq_1 @outsU.eq_1 @c1 @c2); repeat' first | refine Wp.v ?_ | (apply Wp.call; exact hso _) | (refine Wp.c ?_ ?_ <;> intro))
            refine Wp.ret ?_; simp [Res, resU, res1, c_joineryref13_Same]
        · rw [hne (fun e => c2 (by rw [e]))]
          (all_goals have := fa (a4 @nodeC.eq_1 @outsU.eq_1 @c1 @c2); repeat' first | refine Wp.v ?_ | (refine Wp.c ?_ ?_ <;> intro))
          refine Wp.ret ?_; simp [Res, resU, res1, c_joineryref13_Same]
      · rw [hne (fun e => c1 (by rw [e]))]
        (all_goals have := fa (a3 @nodeC.eq_1 @outsU.eq_1 @c1); repeat' first | refine Wp.v ?_ | (refine Wp.c ?_ ?_ <;> intro))
        refine Wp.ret ?_; simp [Res, resU, res1, c_joineryref13_Same]
    · cases h1
  · rw [List.take_of_length_le (Nat.le_refl _), List.take_of_length_le (by omega)] at hI
    simp only [rs1S]
    (have := fa @formC.eq_1; repeat refine Wp.f ?_)
    refine Wp.i ?_ ?_ <;> intro h1
    · simp at h1
    · exact Wp.exit ⟨rfl, hI, rfl⟩
def rs3S (x y : FForm) (n : Nat) : S := ⟨[(2, .bp 0 0), (3, .bp 1 0), (9, i64 n)], [.box (formC x), .box (formC y)]⟩
set_option maxHeartbeats 8000000 in
theorem rs3_loop (x y : FForm) (hx : Small x) (hy : Small y) (hl : x.vals.length = y.vals.length) (r : Bool) (hr : x.vals ≠ y.vals → r = false) :
    Wp T (.loop c_joineryref13_Same_L5) (rs3S x y 0) (fun _ => False) (Res c_joineryref13_Same (.bool r))
      (fun c s' => c = 4 ∧ x.vals = y.vals ∧ s' = ⟨[(2, .bp 0 0), (3, .bp 1 0), (9, i64 (x.vals.length : Nat)), (101, .bool false)], [.box (formC x), .box (formC y)]⟩) := by
  have hbx := hx.vals
  refine Wp.count x.vals.length (fun k => rs3S x y k) (fun k => x.vals.take k = y.vals.take k) (fun n hn hI => ?_) (fun hI => ?_) 0 (by omega) (by simp)
  · have hn' : (n : Int) < x.vals.length := by omega
    have hj : n < y.vals.length := by omega
    have hj' : (n : Int) < y.vals.length := by omega
    have ea : x.vals[n]? = some x.vals[n] := List.getElem?_eq_getElem hn
    have eb : y.vals[n]? = some y.vals[n] := List.getElem?_eq_getElem hj
    have hnx := take_eq hn hj hI
    have hne : x.vals[n] ≠ y.vals[n] → r = false := fun h => hr fun e => h (by simp [e])
    have ha1 := hx.src _ (List.getElem_mem hn)
    have ha2 := hy.src _ (List.getElem_mem hj)
    generalize x.vals[n] = a at *
    generalize y.vals[n] = b at *
    have hso := fun st => rsources_call a.src b.src (by omega) (by omega) st
    simp only [rs3S]
    (have := fa (a2 @formC.eq_1 hn'); repeat refine Wp.f ?_)
    refine Wp.i ?_ ?_ <;> intro h1
    · by_cases c1 : a.pos = b.pos
      · by_cases c2 : a.src = b.src
        · have d : decide (a.src = b.src) = true := decide_eq_true c2
          rw [d] at hso
          repeat refine Wp.a ?_
          refine Wp.draw (by (simp [c_joineryref13_Same_D4, I.need]) <;> rfl) (by (simp [formC, valC, hn', ea, hj', eb, c1]) <;> rfl) (by (simp [formC, valC, hn', ea, hj', eb, c1]) <;> rfl) (by (unfold c_joineryref13_Same_D4); (repeat (first | ((first | apply Dr.op | apply Dr.opN | (apply Dr.opG; exact rfl)); ((simp [formC, valC, hn', ea, hj', eb, c1]) <;> rfl); (apply Evt.all; intro; (simp [formC, valC, hn', ea, hj', eb, c1]) <;> (try simp (disch := omega) only [wrap_id]) <;> first | exact ⟨rfl, rfl⟩ | exact rfl); ((simp [I.need]) <;> rfl)) | ((first | (apply Dr.opS; exact rfl; decide) | (apply Dr.opS0; exact rfl)); ((simp [I.need]) <;> rfl)) | (apply Dr.call; ((simp [formC, valC, hn', ea, hj', eb, c1]) <;> rfl); exact hso _) | (apply Dr.callG; (exact rfl); ((simp [formC, valC, hn', ea, hj', eb, c1]) <;> rfl); exact hso _))); exact Dr.nil) (by first | decide +kernel | exact rfl) (by (simp [M2.keep]) <;> rfl) ?_
          refine Wp.i ?_ ?_ <;> intro h2
          · cases h2
          · (have := fa @wrap_id; repeat refine Wp.f ?_)
            exact ⟨by simp [trimO, trim, formC], hnx (by
              obtain ⟨a1, a2⟩ := a
              obtain ⟨b1, b2⟩ := b
              simp only at c1 c2
              rw [c1, c2])⟩
        · have d : decide (a.src = b.src) = false := decide_eq_false c2
          rw [d] at hso
          rw [hne (fun e => c2 (by rw [e]))]
          repeat refine Wp.a ?_
          refine Wp.draw (by (simp [c_joineryref13_Same_D4, I.need]) <;> rfl) (by (simp [formC, valC, hn', ea, hj', eb, c1]) <;> rfl) (by (simp [formC, valC, hn', ea, hj', eb, c1]) <;> rfl) (by (unfold c_joineryref13_Same_D4); (repeat (first | ((first | apply Dr.op | apply Dr.opN | (apply Dr.opG; exact rfl)); ((simp [formC, valC, hn', ea, hj', eb, c1]) <;> rfl); (apply Evt.all; intro; (simp [formC, valC, hn', ea, hj', eb, c1]) <;> (try simp (disch := omega) only [wrap_id]) <;> first | exact ⟨rfl, rfl⟩ | exact rfl); ((simp [I.need]) <;> rfl)) | ((first | (apply Dr.opS; exact rfl; decide) | (apply Dr.opS0; exact rfl)); ((simp [I.need]) <;> rfl)) | (apply Dr.call; ((simp [formC, valC, hn', ea, hj', eb, c1]) <;> rfl); exact hso _) | (apply Dr.callG; (exact rfl); ((simp [formC, valC, hn', ea, hj', eb, c1]) <;> rfl); exact hso _))); exact Dr.nil) (by first | decide +kernel | exact rfl) (by (simp [M2.keep]) <;> rfl) ?_
          refine Wp.i ?_ ?_ <;> intro h2
          · repeat refine Wp.a ?_
            refine Wp.ret ?_; simp [Res, resU, res1, c_joineryref13_Same]
          · cases h2
      · rw [hne (fun e => c1 (by rw [e]))]
        repeat refine Wp.a ?_
        refine Wp.draw (by (simp [c_joineryref13_Same_D4, I.need]) <;> rfl) (by (simp [formC, valC, hn', ea, hj', eb, c1]) <;> rfl) (by (simp [formC, valC, hn', ea, hj', eb, c1]) <;> rfl) (by (unfold c_joineryref13_Same_D4); (repeat (first | ((first | apply Dr.op | apply Dr.opN | (apply Dr.opG; exact rfl)); ((simp [formC, valC, hn', ea, hj', eb, c1]) <;> rfl); (apply Evt.all; intro; (simp [formC, valC, hn', ea, hj', eb, c1]) <;> (try simp (disch := omega) only [wrap_id]) <;> first | exact ⟨rfl, rfl⟩ | exact rfl); ((simp [I.need]) <;> rfl)) | ((first | (apply Dr.opS; exact rfl; decide) | (apply Dr.opS0; exact rfl)); ((simp [I.need]) <;> rfl)) | (apply Dr.call; ((simp [formC, valC, hn', ea, hj', eb, c1]) <;> rfl); exact hso _) | (apply Dr.callG; (exact rfl); ((simp [formC, valC, hn', ea, hj', eb, c1]) <;> rfl); exact hso _))); exact Dr.nil) (by first | decide +kernel | exact rfl) (by (simp [M2.keep]) <;> rfl) ?_
        refine Wp.i ?_ ?_ <;> intro h2
        · repeat refine Wp.a ?_
          refine Wp.ret ?_; simp [Res, resU, res1, c_joineryref13_Same]
        · cases h2
    · cases h1
  · rw [List.take_of_length_le (Nat.le_refl _), List.take_of_length_le (by omega)] at hI
    simp only [rs3S]
    (have := fa @formC.eq_1; repeat refine Wp.f ?_)
    refine Wp.i ?_ ?_ <;> intro h1
    · simp at h1
    · exact Wp.exit ⟨rfl, hI, rfl⟩
set_option maxHeartbeats 8000000 in
theorem rsame_call (x y : FForm) (hx : Small x) (hy : Small y) (st : List Ob) : Cl T n_joineryref13_Same [formU x, formU y] st (.bool (decide (x = y))) st := by
  refine Wp.pure (fn := c_joineryref13_Same) rfl rfl rfl («as» := [formU x, formU y]) rfl ?_
  generalize hr : decide (x = y) = r
  have hne : x ≠ y → r = false := fun h => by rw [← hr]; exact decide_eq_false h
  by_cases c1 : x.entry = y.entry
  · by_cases c2 : x.nodes.length = y.nodes.length
    · have c2' : (x.nodes.length : Int) = y.nodes.length := by omega
      by_cases c3 : x.vals.length = y.vals.length
      · have c3' : (x.vals.length : Int) = y.vals.length := by omega
        have hl1 := rs1_loop x y hx hy c2 r (fun h => hne fun e => h (by rw [e]))
        have hl3 := rs3_loop x y hx hy c3 r (fun h => hne fun e => h (by rw [e]))
        simp only [rs1S, formC, c1, c2'] at hl1
        simp only [rs3S, formC, c1, c3'] at hl3
        (all_goals have := fa (a4 @formC.eq_1 @c1 c2' c3'); repeat' first | refine Wp.v ?_ | (refine Wp.c ?_ ?_ <;> intro))
        refine hl1.imp (fun _ h => h.elim) (fun _ h => h) ?_
        rintro c s ⟨rfl, e1, rfl⟩
        rw [if_pos rfl]
        (have := fa c3'; repeat refine Wp.f ?_)
        refine hl3.imp (fun _ h => h.elim) (fun _ h => h) ?_
        rintro c s ⟨rfl, e2, rfl⟩
        rw [if_pos rfl]
        have hxy : x = y := by
          obtain ⟨a1, a2, a3⟩ := x
          obtain ⟨b1, b2, b3⟩ := y
          simp only at c1 e1 e2
          rw [c1, e1, e2]
        rw [← hr, decide_eq_true hxy]
        repeat refine Wp.a ?_
        refine Wp.ret ?_; simp [Res, resU, res1, c_joineryref13_Same]
      · have c3' : ¬ (x.vals.length : Int) = y.vals.length := by omega
        rw [hne (fun e => c3 (by rw [e]))]
        (all_goals have := fa (a4 @formC.eq_1 @c1 c2' c3'); repeat' first | refine Wp.v ?_ | (refine Wp.c ?_ ?_ <;> intro))
        refine Wp.ret ?_; simp [Res, resU, res1, c_joineryref13_Same]
    · have c2' : ¬ (x.nodes.length : Int) = y.nodes.length := by omega
      rw [hne (fun e => c2 (by rw [e]))]
      (all_goals have := fa (a3 @formC.eq_1 @c1 c2'); repeat' first | refine Wp.v ?_ | (refine Wp.c ?_ ?_ <;> intro))
      refine Wp.ret ?_; simp [Res, resU, res1, c_joineryref13_Same]
  · rw [hne (fun e => c1 (by rw [e]))]
    (all_goals have := fa (a2 @formC.eq_1 @c1); repeat' first | refine Wp.v ?_ | (refine Wp.c ?_ ?_ <;> intro))
    refine Wp.ret ?_; simp [Res, resU, res1, c_joineryref13_Same]
end Go.Proofs.YtbcojbmalcghbaaDoor.M2
