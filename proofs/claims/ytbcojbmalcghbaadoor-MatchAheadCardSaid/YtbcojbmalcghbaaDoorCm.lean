/- What the functions answer in M2: the first unlike line (the document's). -/
import Derived.Test.YtbcojbmalcghbaaDoorCi
import Derived.Test.YtbcojbmalcghbaaDoorCl
import Derived.Test.YtbcojbmalcghbaaDoorCk
set_option linter.unusedSimpArgs false
set_option linter.unusedVariables false
set_option linter.unusedSectionVars false
namespace Go.Proofs.YtbcojbmalcghbaaDoor.M2
open Go
attribute [local simp] ev1 M2.get put A.ev ld sub part elems bin arith un opt idx fillC cellsO splice over newOb sto fillR laidOwn appTo appRow touch touchN touchM touchE touchA plainU flatU plainAs allM rowAt stoRow accM_nil accM_cons accMM_nil accMM_cons frz_int frz_bool frz_str frz_slt frz_nils frz_nilI frz_nilF frz_own frzRow_row frzRow_frow Ob.blw blw_bool blw_int blw_str blw_nils blw_nilI blw_nilF blw_nilp blw_nilm blw_sl blw_own blw_bp blw_rp blw_mp blw_it params
attribute [local simp] frz_agg frz_tup frz_iface frzS_agg frzS_iface accMS_cons frzS_int frzS_bool frzS_str frzS_slt frzS_nils frzS_nilI beq_dec bne_dec
theorem decode_asc (s : List UInt8) (k : Nat) (hk : k < s.length) (ha : s[k].toNat < 128) : Utf8.decode ⟨s.toArray⟩ k = (s[k].toNat, 1) := by
  have h : (ByteArray.mk s.toArray).get! (k + 0) = s[k] := by
    simp [ByteArray.get!, hk]
  unfold Utf8.decode
  simp only [h]
  rw [if_pos (by omega)]
theorem Wp.callv {T : Nat → Option F} {K R : S → Prop} {B : Nat → S → Prop} {d f : Nat} {x : A} {xs : List A} {caps : List U} {l : List O} {live : List Nat} {e : Env} {st st1 : List Ob} {u : U} (hx : x.ev e = .fn f caps) (h : Cl T f (xs.map (·.ev e) ++ caps) st u st1) (k : Wp T (.ops l live) ⟨(d, u) :: e, st1⟩ K R B) : Wp T (.ops (⟨some d, .callv x xs, none⟩ :: l) live) ⟨e, st⟩ K R B :=
  Wp.op (h.mono fun n h => by simp only [ev1, hx]; exact h) k
def lnO (D : List (List UInt8)) : U := match D with
  | [] => .nils
  | _ :: _ => .own 5 D.length
def lnX (D : List (List UInt8)) : List Ob := match D with
  | [] => []
  | d :: _ => [.row 9 1 false [[.str d]], .row 9 1 false (D.map strC)]
def lnSt (s : List UInt8) (D : List (List UInt8)) (f p : Nat) : List Ob := .box [.str s] :: .box [lnO D] :: .box [i64 f] :: .iter s p :: lnX D
set_option maxHeartbeats 8000000 in
theorem end_new (s w : List UInt8) (f i p : Nat) (hi : i ≤ 100000000) (hc : cut s (f : Int) (i : Int) = some w) :
    Cl T 67 [i64 i, .bp 1 0, .bp 0 0, .bp 2 0] (lnSt s [] f p) (.tup []) (lnSt s [w] (i + 1) p) := by
  refine Wp.impure (fn := c_match_lines_1) rfl rfl rfl ?_
  simp only [lnSt, lnO, lnX]
  repeat refine Wp.a ?_
  refine Wp.draw (by (simp [c_match_lines_1_D0, I.need]) <;> rfl) (by (simp [hc]) <;> rfl) (by (simp [hc]) <;> rfl) (by (unfold c_match_lines_1_D0); (repeat (first | ((first | apply Dr.op | apply Dr.opN | (apply Dr.opG; exact rfl)); ((simp [hc]) <;> rfl); (apply Evt.all; intro; (simp [hc]) <;> (try simp (disch := omega) only [wrap_id]) <;> first | exact ⟨rfl, rfl⟩ | exact rfl); ((simp [I.need]) <;> rfl)) | ((first | (apply Dr.opS; exact rfl; decide) | (apply Dr.opS0; exact rfl)); ((simp [I.need]) <;> rfl)))); exact Dr.nil) (by first | decide +kernel | exact rfl) (by (simp [M2.keep]) <;> rfl) ?_
  (have := fa @wrap_id; repeat refine Wp.f ?_)
  exact ⟨rfl, by simp [trimO, trim, strC]⟩
set_option maxHeartbeats 8000000 in
theorem end_old (s w d : List UInt8) (D : List (List UInt8)) (f i p : Nat) (hi : i ≤ 100000000) (hD : D.length ≤ 100000000) (hc : cut s (f : Int) (i : Int) = some w) :
    Cl T 67 [i64 i, .bp 1 0, .bp 0 0, .bp 2 0] (lnSt s (d :: D) f p) (.tup []) (lnSt s (d :: D ++ [w]) (i + 1) p) := by
  refine Wp.impure (fn := c_match_lines_1) rfl rfl rfl ?_
  have e1 := strC_snoc (d :: D) w
  have e2 : ((d :: D).map strC).length = D.length + 1 := by simp
  have lim : (D.length + 1 + 1) * 16 ≤ 140737488355328 := by omega
  have e3 : (d :: D ++ [w]).length = D.length + 1 + 1 := by simp
  simp only [lnSt, lnO, lnX, List.cons_append, List.length_cons, List.length_append, List.length_nil, Nat.zero_add] at *
  generalize (d :: (D ++ [w])).map strC = R1 at *
  generalize (d :: D).map strC = R0 at *
  repeat refine Wp.a ?_
  refine Wp.draw (by (simp [c_match_lines_1_D0, I.need]) <;> rfl) (by (simp [hc, e1, e2, lim]) <;> rfl) (by (simp [hc, e1, e2, lim]) <;> rfl) (by (unfold c_match_lines_1_D0); (repeat (first | ((first | apply Dr.op | apply Dr.opN | (apply Dr.opG; exact rfl)); ((simp [hc, e1, e2, lim]) <;> rfl); (apply Evt.all; intro; (simp [hc, e1, e2, lim]) <;> (try simp (disch := omega) only [wrap_id]) <;> first | exact ⟨rfl, rfl⟩ | exact rfl); ((simp [I.need]) <;> rfl)) | ((first | (apply Dr.opS; exact rfl; decide) | (apply Dr.opS0; exact rfl)); ((simp [I.need]) <;> rfl)))); exact Dr.nil) (by first | decide +kernel | exact rfl) (by (simp [M2.keep]) <;> rfl) ?_
  (have := fa @wrap_id; repeat refine Wp.f ?_)
  have hb : blw blwD 6 (U.tup []) = true := rfl
  exact ⟨rfl, by simp [trimO, trim, hb]⟩
theorem cut_mid (a b c : List UInt8) (h : (a ++ (b ++ c)).length ≤ 100000000) : cut (a ++ (b ++ c)) ((a.length : Nat) : Int) ((a.length + b.length : Nat) : Int) = some b := by
  unfold cut
  rw [List.length_append, List.length_append] at h
  rw [if_pos ⟨by omega, by omega, by rw [List.length_append, List.length_append]; omega⟩]
  have e1 : (((a.length + b.length : Nat) : Int)).toNat = a.length + b.length := by omega
  have e2 : (((a.length : Nat) : Int)).toNat = a.length := by omega
  rw [e1, e2, ← List.append_assoc, show a.length + b.length = (a ++ b).length by rw [List.length_append], List.take_left, List.drop_left]
theorem mid_get (a b : List UInt8) (c : UInt8) (r : List UInt8) : (a ++ (b ++ c :: r))[a.length + b.length]? = some c := by
  rw [← List.append_assoc, show a.length + b.length = (a ++ b).length by rw [List.length_append], List.getElem?_append_right (Nat.le_refl _)]
  simp
theorem flat_ge (D : List (List UInt8)) : D.length ≤ (D.flatMap endL).length := by
  induction D with
  | nil => simp
  | cons d D ih =>
    rw [List.flatMap_cons, List.length_append, List.length_cons]
    simp only [endL, List.length_append, List.length_cons, List.length_nil]
    omega
def lnE : Option Nat → Env
  | none => [(3, .bp 1 0), (5, .fn 67 [.bp 1 0, .bp 0 0, .bp 2 0]), (10, .it 3)]
  | some p => [(3, .bp 1 0), (5, .fn 67 [.bp 1 0, .bp 0 0, .bp 2 0]), (6, i64 p), (10, .it 3), (16, .bool false)]
def lnS (s : List UInt8) (a : List (List UInt8) × List UInt8 × List UInt8 × Option Nat) : S :=
  ⟨lnE a.2.2.2, lnSt s a.1 (a.1.flatMap endL).length ((a.1.flatMap endL).length + a.2.1.length)⟩
set_option maxHeartbeats 8000000 in
theorem ln_loop (s : List UInt8) (ha : ∀ c ∈ s, c.toNat < 128) (hs : s.length ≤ 10000000) (R : S → Prop) : Wp T (.loop c_match_lines_L0) (lnS s ([], [], s, none)) (fun _ => False) R
    (fun b s' => b = 0 ∧ ∃ D cur, s = D.flatMap endL ++ cur ∧ (∀ c ∈ cur, c ≠ 10) ∧ (∀ w ∈ D, ∀ c ∈ w, c ≠ 10) ∧ s' = ⟨[(3, .bp 1 0), (5, .fn 67 [.bp 1 0, .bp 0 0, .bp 2 0]), (10, .it 3), (11, .tup [.bool false]), (12, .bool false)], lnSt s D (D.flatMap endL).length s.length⟩) := by
  refine Wp.loop (fun a : List (List UInt8) × List UInt8 × List UInt8 × Option Nat => a.2.2.1.length) (lnS s) (fun a => s = a.1.flatMap endL ++ (a.2.1 ++ a.2.2.1) ∧ (∀ c ∈ a.2.1, c ≠ 10) ∧ ∀ w ∈ a.1, ∀ c ∈ w, c ≠ 10) (fun a ⟨he, hc, hD⟩ => ?_) ([], [], s, none) ⟨by simp, by simp, by simp⟩
  obtain ⟨D, cur, rest, q⟩ := a
  simp only at he hc hD
  cases rest with
  | nil =>
    rw [List.append_nil] at he
    have hl : (D.flatMap endL).length + cur.length = s.length := by rw [he, List.length_append]
    simp only [lnS, hl, lnSt]
    have hfin : ∃ D' cur', s = D'.flatMap endL ++ cur' ∧ (∀ c ∈ cur', c ≠ 10) ∧ (∀ w ∈ D', ∀ c ∈ w, c ≠ 10) ∧ (⟨[(3, .bp 1 0), (5, .fn 67 [.bp 1 0, .bp 0 0, .bp 2 0]), (10, .it 3), (11, .tup [.bool false]), (12, .bool false)], .box [.str s] :: .box [lnO D] :: .box [i64 (D.flatMap endL).length] :: .iter s s.length :: lnX D⟩ : S) = ⟨[(3, .bp 1 0), (5, .fn 67 [.bp 1 0, .bp 0 0, .bp 2 0]), (10, .it 3), (11, .tup [.bool false]), (12, .bool false)], .box [.str s] :: .box [lnO D'] :: .box [i64 (D'.flatMap endL).length] :: .iter s s.length :: lnX D'⟩ := ⟨D, cur, he, hc, hD, rfl⟩
    generalize (D.flatMap endL).length = F at *
    cases q
    all_goals simp only [lnE]
    all_goals (repeat' first | refine Wp.u ?_ | (refine Wp.c ?_ ?_ <;> intro))
    all_goals exact Wp.exit ⟨rfl, hfin⟩
  | cons c rest =>
    have hl : (D.flatMap endL).length + (cur.length + (rest.length + 1)) = s.length := by rw [he, List.length_append, List.length_append, List.length_cons]
    have hg : s[(D.flatMap endL).length + cur.length]? = some c := by rw [he]; exact mid_get _ _ _ _
    have hp : (D.flatMap endL).length + cur.length < s.length := by omega
    have hgc : s[(D.flatMap endL).length + cur.length] = c := (List.getElem?_eq_some_iff.1 hg).2
    have hd := decode_asc s _ hp (ha _ (List.getElem_mem hp))
    rw [hgc] at hd
    have hct := cut_mid (D.flatMap endL) cur (c :: rest) (by rw [← he]; omega)
    rw [← he] at hct
    have hDl := flat_ge D
    have hF' : ((D ++ [cur]).flatMap endL).length = (D.flatMap endL).length + cur.length + 1 := by simp [endL]; omega
    by_cases h10 : c = 10
    · subst h10
      have hnext : s = (D ++ [cur]).flatMap endL ++ ([] ++ rest) := by
        rw [he]
        simp [endL]
      have hdc : Utf8.decode ⟨s.toArray⟩ ((D.flatMap endL).length + cur.length) = (10, 1) := hd
      have hst : lnSt s (D ++ [cur]) ((D ++ [cur]).flatMap endL).length (((D ++ [cur]).flatMap endL).length + ([] : List UInt8).length) = lnSt s (D ++ [cur]) ((D.flatMap endL).length + cur.length + 1) ((D.flatMap endL).length + cur.length + 1) := by rw [hF']; rfl
      have hwit : ∀ s', trimO (lnSt s D (D.flatMap endL).length ((D.flatMap endL).length + cur.length)).length s' = ⟨lnE none, lnSt s (D ++ [cur]) ((D.flatMap endL).length + cur.length + 1) ((D.flatMap endL).length + cur.length + 1)⟩ →
          ∃ b : List (List UInt8) × List UInt8 × List UInt8 × Option Nat, trimO (lnSt s D (D.flatMap endL).length ((D.flatMap endL).length + cur.length)).length s' = lnS s b ∧ b.2.2.1.length < (10 :: rest).length ∧ s = b.1.flatMap endL ++ (b.2.1 ++ b.2.2.1) ∧ (∀ c ∈ b.2.1, c ≠ 10) ∧ ∀ w ∈ b.1, ∀ c ∈ w, c ≠ 10 := fun s' h => ⟨(D ++ [cur], [], rest, none), by rw [h, lnS, hst], by simp, hnext, by simp, fun w hw => by
        rcases List.mem_append.1 hw with hw | hw
        · exact hD w hw
        · rw [List.mem_singleton.1 hw]; exact hc⟩
      simp only [lnS]
      generalize (D.flatMap endL).length = F at *
      generalize hpp : F + cur.length = p at *
      cases D with
      | nil =>
        have hend := end_new s cur F p (p + 1) (by omega) hct
        simp only [lnSt, lnO, lnX, List.nil_append] at hend hwit ⊢
        cases q
        all_goals simp only [lnE]
        all_goals (all_goals have := fa (a2 hp hdc); repeat' first | refine Wp.v ?_ | (apply Wp.callv; exact rfl; exact hend) | (refine Wp.c ?_ ?_ <;> intro))
        all_goals refine hwit _ ?_
        all_goals simp [trimO, trim, lnE]
      | cons d D =>
        have hend := end_old s cur d D F p (p + 1) (by omega) (by rw [List.length_cons] at hDl; omega) hct
        simp only [lnSt, lnO, lnX, List.cons_append] at hend hwit ⊢
        generalize (d :: D).map strC = R0 at *
        generalize (d :: (D ++ [cur])).map strC = R1 at *
        cases q
        all_goals simp only [lnE]
        all_goals (all_goals have := fa (a2 hp hdc); repeat' first | refine Wp.v ?_ | (apply Wp.callv; exact rfl; exact hend) | (refine Wp.c ?_ ?_ <;> intro))
        all_goals refine hwit _ ?_
        all_goals exact trimO_len rfl
    · have hne : ¬ c.toNat = 10 := fun h => h10 (UInt8.toNat_inj.1 h)
      have hne' : ¬ (c.toNat : Int) = 10 := by omega
      have hwit : ∀ s', trimO (lnSt s D (D.flatMap endL).length ((D.flatMap endL).length + cur.length)).length s' = ⟨lnE (some ((D.flatMap endL).length + cur.length)), lnSt s D (D.flatMap endL).length ((D.flatMap endL).length + cur.length + 1)⟩ →
          ∃ b : List (List UInt8) × List UInt8 × List UInt8 × Option Nat, trimO (lnSt s D (D.flatMap endL).length ((D.flatMap endL).length + cur.length)).length s' = lnS s b ∧ b.2.2.1.length < (c :: rest).length ∧ s = b.1.flatMap endL ++ (b.2.1 ++ b.2.2.1) ∧ (∀ c ∈ b.2.1, c ≠ 10) ∧ ∀ w ∈ b.1, ∀ c ∈ w, c ≠ 10 := fun s' h => ⟨(D, cur ++ [c], rest, some ((D.flatMap endL).length + cur.length)), by
            rw [h, lnS]
            simp only [List.length_append, List.length_cons, List.length_nil, Nat.zero_add, Nat.add_assoc], by simp, by rw [he]; simp, fun x hx => by
            rcases List.mem_append.1 hx with hx | hx
            · exact hc x hx
            · rw [List.mem_singleton.1 hx]; exact h10, hD⟩
      simp only [lnS]
      generalize (D.flatMap endL).length = F at *
      generalize hpp : F + cur.length = p at *
      simp only [lnSt] at hwit ⊢
      cases q
      all_goals simp only [lnE]
      all_goals (all_goals have := fa (a4 hp hd hne hne'); repeat' first | refine Wp.v ?_ | (refine Wp.c ?_ ?_ <;> intro))
      all_goals refine hwit _ ?_
      all_goals exact trimO_len rfl
theorem end_part : ∀ {D ls : List (List UInt8)} {cur : List UInt8}, (∀ w ∈ D, ∀ c ∈ w, c ≠ 10) → (∀ w ∈ ls, ∀ c ∈ w, c ≠ 10) → (∀ c ∈ cur, c ≠ 10) → D.flatMap endL ++ cur = ls.flatMap endL → D = ls ∧ cur = []
  | [], [], cur, _, _, _, h => ⟨rfl, by simpa using h⟩
  | [], l :: ls, cur, _, _, hc, h => by
    have : (10 : UInt8) ∈ cur := by
      rw [List.flatMap_nil, List.nil_append] at h
      rw [h]
      simp [endL]
    exact absurd rfl (hc 10 this)
  | d :: D, [], cur, _, _, _, h => by simp [endL] at h
  | d :: D, l :: ls, cur, hd, hl, hc, h => by
    rw [List.flatMap_cons, List.flatMap_cons] at h
    unfold endL at h
    rw [List.append_assoc, List.append_assoc, List.append_assoc] at h
    obtain ⟨e1, e2⟩ := split_at (q := 10) (hd d (by simp)) (hl l (by simp)) (.inr rfl) (.inr rfl) h
    injection e2 with _ e2
    obtain ⟨k1, k2⟩ := end_part (fun w hw => hd w (by simp [hw])) (fun w hw => hl w (by simp [hw])) hc e2
    exact ⟨by rw [e1, k1], k2⟩
def Ln0 (D : List (List UInt8)) : Prop := ∀ w ∈ D, ∀ c ∈ w, c ≠ 10
theorem asc_dig (m : Nat) : ∀ c ∈ dig m, c.toNat < 128 := fun c hc => by have := dig_dgt m c hc; unfold Dgt at this; omega
theorem asc_text (n : Int) : ∀ c ∈ textF n, c.toNat < 128 := fun c hc => by
  unfold textF at hc
  split at hc
  · rcases List.mem_cons.1 hc with rfl | hc
    · decide
    · exact asc_dig _ c hc
  · exact asc_dig _ c hc
theorem asc_to (n : Int) : ∀ c ∈ toF n, c.toNat < 128 := fun c hc => by
  unfold toF at hc
  split at hc
  · rw [List.mem_singleton.1 hc]; decide
  · exact asc_text n c hc
theorem asc_src (s : Int × Int) : ∀ c ∈ srcF s, c.toNat < 128 := fun c hc => by
  unfold srcF at hc
  split at hc
  · revert c; decide
  · split at hc
    · rcases List.mem_cons.1 hc with rfl | hc
      · decide
      · exact asc_text _ c hc
    · split at hc
      · rcases List.mem_cons.1 hc with rfl | hc
        · decide
        · exact asc_text _ c hc
      · split at hc
        · revert c; decide
        · rcases List.mem_cons.1 hc with rfl | hc
          · decide
          · exact asc_text _ c hc
theorem asc_word {op : Int} (h : opOk op = true) : ∀ c ∈ wordF op, c.toNat < 128 := by
  rcases op_cases h with rfl | rfl | rfl | rfl | rfl | rfl | rfl | rfl | rfl | rfl | rfl | rfl | rfl | rfl | rfl
  all_goals decide
theorem asc_jn {ws : List (List UInt8)} (h : ∀ w ∈ ws, ∀ c ∈ w, c.toNat < 128) : ∀ c ∈ jn ws, c.toNat < 128 := fun c hc => by
  unfold jn at hc
  obtain ⟨w, hw, hc⟩ := List.mem_flatMap.1 (List.mem_of_mem_tail hc)
  rcases List.mem_cons.1 hc with rfl | hc
  · decide
  · exact h w hw c hc
theorem asc_node {y : FNode} (hy : NodeK y) : ∀ w ∈ nodeWords y, ∀ c ∈ w, c.toNat < 128 := fun w hw => by
  unfold nodeWords at hw
  rcases List.mem_append.1 hw with hw | hw
  · rcases List.mem_append.1 hw with hw | hw
    · unfold nodeHead at hw
      rcases List.mem_cons.1 hw with rfl | hw
      · exact asc_word hy.op
      · split at hw
        · rw [List.mem_singleton.1 hw]; exact asc_text _
        · cases hw
    · obtain ⟨s, _, rfl⟩ := List.mem_map.1 hw
      exact asc_src s
  · obtain ⟨o, _, hw⟩ := List.mem_flatMap.1 hw
    simp only [List.mem_cons, List.not_mem_nil, or_false] at hw
    rcases hw with rfl | rfl
    · decide
    · exact asc_to o
theorem asc_val (v : FVal) : ∀ w ∈ valWords v, ∀ c ∈ w, c.toNat < 128 := fun w hw => by
  unfold valWords valHead at hw
  rcases List.mem_append.1 hw with hw | hw
  · simp only [List.mem_cons, List.not_mem_nil, or_false] at hw
    rcases hw with rfl | rfl
    · decide
    · exact asc_to _
  · obtain ⟨s, _, rfl⟩ := List.mem_map.1 hw
    exact asc_src s
theorem asc_print {x : FForm} (hx : FormK x) : ∀ c ∈ printF x, c.toNat < 128 := fun c hc => by
  obtain ⟨l, hl, hc⟩ := List.mem_flatMap.1 hc
  unfold endL at hc
  rcases List.mem_append.1 hc with hc | hc
  · unfold linesF at hl
    rcases List.mem_cons.1 hl with rfl | hl
    · refine asc_jn (fun w hw => ?_) c hc
      simp only [entWords, List.mem_cons, List.not_mem_nil, or_false] at hw
      rcases hw with rfl | rfl
      · decide
      · exact asc_to _
    · rcases List.mem_append.1 hl with hl | hl
      · obtain ⟨y, hy, rfl⟩ := List.mem_map.1 hl
        exact asc_jn (asc_node (hx.nodes y hy)) c hc
      · obtain ⟨v, _, rfl⟩ := List.mem_map.1 hl
        exact asc_jn (asc_val v) c hc
  · rw [List.mem_singleton.1 hc]; decide
theorem print_len {x : FForm} (hx : FormT x) : (printF x).length ≤ 6000000 := by
  have h1 := nodesT_len hx
  have h2 := valsT_len hx
  have h3 := line_len (ent_w hx.ent) (by simp [entWords])
  rw [print_eq, List.length_append, List.length_append]
  omega
set_option maxHeartbeats 8000000 in
theorem mlines_call (ls : List (List UInt8)) (hn : Ln0 ls) (ha : ∀ c ∈ ls.flatMap endL, c.toNat < 128) (hs : (ls.flatMap endL).length ≤ 10000000) (st : List Ob) : Cl T n_match_lines [.str (ls.flatMap endL)] st (wordsU true ls) st := by
  show Cl T n_match_lines [.str (ls.flatMap endL)] st (.sl true (ls.map strC)) st
  refine Wp.pure (fn := c_match_lines) rfl rfl rfl («as» := [.str (ls.flatMap endL)]) rfl ?_
  have hl := fun B => ln_loop (ls.flatMap endL) ha hs B
  have hpart := fun D cur => end_part (D := D) (ls := ls) (cur := cur)
  generalize ls.flatMap endL = s at *
  simp only [lnS, lnSt, lnE, lnO, lnX, List.flatMap_nil, List.length_nil] at hl
  (repeat' first | refine Wp.u ?_ | (refine Wp.c ?_ ?_ <;> intro))
  refine (hl _).imp (fun _ h => h.elim) (fun _ h => h) ?_
  rintro b s' ⟨rfl, D, cur, he, hc, hD, rfl⟩
  rw [if_pos rfl]
  obtain ⟨rfl, rfl⟩ := hpart D cur hD hn hc he.symm
  clear hl hpart
  cases D with
  | nil =>
    (all_goals have := fa (a3 @lnSt.eq_1 @lnO.eq_1 @lnX.eq_1); repeat' first | refine Wp.v ?_ | (refine Wp.c ?_ ?_ <;> intro))
    refine Wp.ret ?_; simp [Res, resU, res1, c_match_lines]
  | cons d D =>
    have e2 : ((d :: D).map strC).length = (d :: D).length := List.length_map _
    simp only [lnSt, lnO, lnX]
    generalize (d :: D).map strC = R0 at *
    generalize (d :: D).length = n at *
    (repeat' first | refine Wp.u ?_ | (refine Wp.c ?_ ?_ <;> intro))
    refine Wp.ret ?_; simp [Res, resU, res1, c_match_lines, e2]
/-! The first unlike line. -/
def cp : List (List UInt8) → List (List UInt8) → Nat
  | a :: l, b :: m => if a = b then cp l m + 1 else 0
  | _, _ => 0
theorem cp_le : ∀ (l m : List (List UInt8)), cp l m ≤ l.length ∧ cp l m ≤ m.length
  | a :: l, b :: m => by
    have := cp_le l m
    unfold cp
    split <;> simp only [List.length_cons] <;> omega
  | [], _ => by simp [cp]
  | _ :: _, [] => by simp [cp]
theorem cp_eq : ∀ {l m : List (List UInt8)} {j : Nat}, j < cp l m → l[j]? = m[j]?
  | a :: l, b :: m, j, h => by
    unfold cp at h
    split at h
    · rename_i e
      cases j with
      | zero => simp [e]
      | succ j =>
        simp only [List.getElem?_cons_succ]
        exact cp_eq (by omega)
    · omega
  | [], _, j, h => by simp [cp] at h
  | _ :: _, [], j, h => by simp [cp] at h
theorem cp_self (l : List (List UInt8)) : cp l l = l.length := by
  induction l with
  | nil => rfl
  | cons a l ih => simp [cp, ih]
theorem cp_swap : ∀ (l m : List (List UInt8)), cp l m = cp m l
  | a :: l, b :: m => by
    unfold cp
    by_cases h : a = b
    · rw [if_pos h, if_pos h.symm, cp_swap l m]
    · rw [if_neg h, if_neg (fun e => h e.symm)]
  | [], [] => rfl
  | [], _ :: _ => rfl
  | _ :: _, [] => rfl
theorem cp_ne : ∀ {l m : List (List UInt8)}, l ≠ m → l[cp l m]? ≠ m[cp l m]? ∧ (cp l m < l.length ∨ cp l m < m.length)
  | a :: l, b :: m, h => by
    unfold cp
    by_cases e : a = b
    · rw [if_pos e]
      have := cp_ne (l := l) (m := m) (fun k => h (by rw [e, k]))
      simp only [List.getElem?_cons_succ, List.length_cons]
      exact ⟨this.1, by omega⟩
    · rw [if_neg e]
      simp [e]
  | [], [], h => absurd rfl h
  | [], b :: m, _ => by simp [cp]
  | a :: l, [], _ => by simp [cp]
def atF (l : List (List UInt8)) (i : Nat) : List UInt8 := (l[i]?).getD []
theorem at_ne {l m : List (List UInt8)} (hl : ∀ w ∈ l, w ≠ []) (hm : ∀ w ∈ m, w ≠ []) {i : Nat} (h : l[i]? ≠ m[i]?) : atF l i ≠ atF m i := by
  unfold atF
  cases h1 : l[i]? with
  | none =>
    cases h2 : m[i]? with
    | none => exact absurd (h1.trans h2.symm) h
    | some b => exact fun e => hm b (List.mem_of_getElem? h2) e.symm
  | some a =>
    cases h2 : m[i]? with
    | none => exact fun e => hl a (List.mem_of_getElem? h1) e
    | some b => exact fun e => h (by rw [h1, h2]; exact congrArg some e)
set_option maxHeartbeats 8000000 in
theorem at_call (l : List (List UInt8)) (i : Nat) (st : List Ob) : Cl T n_match_at [wordsU true l, i64 i] st (.str (atF l i)) st := by
  refine Wp.pure (fn := c_match_at) rfl rfl rfl («as» := [wordsU true l, i64 i]) rfl ?_
  unfold atF
  by_cases h : i < l.length
  · have h' : (i : Int) < l.length := by omega
    have eg : l[i]? = some l[i] := List.getElem?_eq_getElem h
    rw [eg]
    generalize l[i] = w at *
    (all_goals have := fa (a3 h' eg @strC.eq_1); repeat' first | refine Wp.v ?_ | (refine Wp.c ?_ ?_ <;> intro))
    refine Wp.ret ?_; simp [Res, resU, res1, c_match_at]
  · have h' : ¬ (i : Int) < l.length := by omega
    rw [List.getElem?_eq_none (by omega)]
    (all_goals have := fa h'; repeat' first | refine Wp.v ?_ | (refine Wp.c ?_ ?_ <;> intro))
    refine Wp.ret ?_; simp [Res, resU, res1, c_match_at]
def spotC (l m : List (List UInt8)) : List U := if l = m then [i64 0, .str [], .str []] else [i64 (cp l m), .str (atF l (cp l m)), .str (atF m (cp l m))]
def mfirstU (x y : FForm) : U := if rightF x && rightF y then .tup [.agg (spotC (linesF x) (linesF y)), .bool (!decide (linesF x = linesF y)), i64 0] else .tup [.agg [i64 0, .str [], .str []], .bool false, i64 1]
def mf0S (X : List Ob) (l m : List (List UInt8)) (mx i : Nat) : S := ⟨[(4, .bp 2 0), (11, wordsU true l), (12, wordsU true m), (39, i64 mx), (40, i64 i)], X⟩
set_option maxHeartbeats 8000000 in
theorem mf0_loop (a b : List U) (l m : List (List UInt8)) (mx : Nat) (hl : l.length ≤ 300) (hm : m.length ≤ 300) (hx : l.length ≤ mx ∧ m.length ≤ mx ∧ (mx = l.length ∨ mx = m.length)) (nl : ∀ w ∈ l, w ≠ []) (nm : ∀ w ∈ m, w ≠ []) :
    Wp T (.loop c_match_First_L0) (mf0S [.box a, .box b, .box [i64 0, .str [], .str []]] l m mx 0) (fun _ => False) (Res c_match_First (.tup [.agg (spotC l m), .bool (!decide (l = m)), i64 0]))
      (fun c s' => c = 0 ∧ l = m ∧ s' = ⟨[(4, .bp 2 0), (11, wordsU true l), (12, wordsU true m), (39, i64 mx), (40, i64 (cp l m)), (41, .bool false)], [.box a, .box b, .box [i64 0, .str [], .str []]]⟩) := by
  obtain ⟨hc1, hc2⟩ := cp_le l m
  refine Wp.count (cp l m) (fun i => mf0S [.box a, .box b, .box [i64 0, .str [], .str []]] l m mx i) (fun _ => True) (fun i hi _ => ?_) (fun _ => ?_) 0 (by omega) trivial
  · have hi' : (i : Int) < mx := by omega
    have hA := fun st => at_call l i st
    have hB := fun st => at_call m i st
    have e : atF m i = atF l i := by unfold atF; rw [cp_eq hi]
    rw [e] at hB
    generalize atF l i = w at *
    simp only [mf0S]
    (all_goals have := fa hi'; repeat' first | refine Wp.v ?_ | (apply Wp.call; exact hA _) | (apply Wp.call; exact hB _) | (refine Wp.c ?_ ?_ <;> intro))
    (have := fa @wrap_id; repeat refine Wp.f ?_)
    exact ⟨trimO_len rfl, trivial⟩
  · by_cases h : l = m
    · have hn : ¬ ((cp l m : Nat) : Int) < mx := by
        have : cp l m = l.length := by rw [h, cp_self]
        have : l.length = m.length := by rw [h]
        omega
      simp only [mf0S]
      generalize cp l m = n at *
      (have := fa hn; repeat refine Wp.f ?_)
      refine Wp.i ?_ ?_ <;> intro h1
      · cases h1
      · exact Wp.exit ⟨rfl, h, rfl⟩
    · obtain ⟨k1, k2⟩ := cp_ne h
      have hn : ((cp l m : Nat) : Int) < mx := by omega
      have hne := at_ne nl nm k1
      have hA := fun st => at_call l (cp l m) st
      have hB := fun st => at_call m (cp l m) st
      have hd : decide (l = m) = false := decide_eq_false h
      have hs : spotC l m = [i64 (cp l m), .str (atF l (cp l m)), .str (atF m (cp l m))] := by simp [spotC, h]
      rw [hd, hs]
      simp only [mf0S]
      have hbe : (atF l (cp l m) == atF m (cp l m)) = false := beq_eq_false_iff_ne.2 hne
      clear hc1 hc2 hx
      generalize cp l m = n at *
      generalize atF l n = wa at *
      generalize atF m n = wb at *
      (all_goals have := fa (a2 hn hbe); repeat' first | refine Wp.v ?_ | (apply Wp.call; exact hA _) | (apply Wp.call; exact hB _) | (refine Wp.c ?_ ?_ <;> intro))
      refine Wp.ret ?_; simp [Res, resU, res1, c_match_First]
set_option maxHeartbeats 16000000 in
theorem mfirst_call (x y : FForm) (sx : Small x) (sy : Small y) (rx : FormR x) (ry : FormR y) (st : List Ob) : Cl T n_match_First [formU x, formU y] st (mfirstU x y) st := by
  refine Wp.pure (fn := c_match_First) rfl rfl rfl («as» := [formU x, formU y]) rfl ?_
  have px := fun st => print_call x sx rx st
  have py := fun st => print_call y sy ry st
  unfold printU at px py
  unfold mfirstU
  cases hRx : rightF x with
  | false =>
    rw [hRx] at px
    simp only [Bool.false_eq_true, if_false] at px
    cases hRy : rightF y with
    | false =>
      rw [hRy] at py
      simp only [Bool.false_eq_true, if_false] at py
      (all_goals have := fa @formC.eq_1; repeat' first | refine Wp.v ?_ | (apply Wp.call; exact px _) | (apply Wp.call; exact py _) | (refine Wp.c ?_ ?_ <;> intro))
      refine Wp.ret ?_; simp [Res, resU, res1, c_match_First]
    | true =>
      rw [hRy] at py
      simp only [if_true] at py
      (all_goals have := fa @formC.eq_1; repeat' first | refine Wp.v ?_ | (apply Wp.call; exact px _) | (apply Wp.call; exact py _) | (refine Wp.c ?_ ?_ <;> intro))
      refine Wp.ret ?_; simp [Res, resU, res1, c_match_First]
  | true =>
    rw [hRx] at px
    simp only [if_true] at px
    cases hRy : rightF y with
    | false =>
      rw [hRy] at py
      simp only [Bool.false_eq_true, if_false] at py
      (all_goals have := fa @formC.eq_1; repeat' first | refine Wp.v ?_ | (apply Wp.call; exact px _) | (apply Wp.call; exact py _) | (refine Wp.c ?_ ?_ <;> intro))
      refine Wp.ret ?_; simp [Res, resU, res1, c_match_First]
    | true =>
      rw [hRy] at py
      simp only [if_true] at py
      have tx := right_form sx rx hRx
      have ty := right_form sy ry hRy
      have kx := lines_ok (right_k hRx)
      have ky := lines_ok (right_k hRy)
      have hlx := fun st => mlines_call (linesF x) (fun w hw => (kx w hw).2) (asc_print (right_k hRx)) (Nat.le_trans (print_len tx) (by omega)) st
      have hly := fun st => mlines_call (linesF y) (fun w hw => (ky w hw).2) (asc_print (right_k hRy)) (Nat.le_trans (print_len ty) (by omega)) st
      have nx : (linesF x).length ≤ 261 := by
        have := tx.nlen
        have := tx.vlen
        simp only [linesF, List.length_cons, List.length_append, List.length_map]
        omega
      have ny : (linesF y).length ≤ 261 := by
        have := ty.nlen
        have := ty.vlen
        simp only [linesF, List.length_cons, List.length_append, List.length_map]
        omega
      have hex : printF x = (linesF x).flatMap endL := rfl
      have hey : printF y = (linesF y).flatMap endL := rfl
      rw [hex] at px
      rw [hey] at py
      generalize (linesF x).flatMap endL = tx1 at *
      generalize (linesF y).flatMap endL = ty1 at *
      simp only [Bool.and_self, if_true]
      have hloop := fun mx h => mf0_loop (formC x) (formC y) (linesF x) (linesF y) mx (by omega) (by omega) h (fun w hw => (kx w hw).1) (fun w hw => (ky w hw).1)
      have hsm : linesF x = linesF y → spotC (linesF x) (linesF y) = [i64 0, .str [], .str []] ∧ (!decide (linesF x = linesF y)) = false := fun h => by simp [spotC, h]
      generalize linesF x = l at *
      generalize linesF y = m at *
      generalize spotC l m = sp at *
      generalize (!decide (l = m)) = bb at *
      by_cases hlt : l.length < m.length
      · have hlp := hloop m.length ⟨by omega, by omega, .inr rfl⟩
        simp only [mf0S, formC] at hlp
        (all_goals have := fa (a2 @formC.eq_1 hlt); repeat' first | refine Wp.v ?_ | (apply Wp.call; exact px _) | (apply Wp.call; exact py _) | (apply Wp.call; exact hlx _) | (apply Wp.call; exact hly _) | (refine Wp.c ?_ ?_ <;> intro))
        rw [if_pos hlt]
        refine hlp.imp (fun _ h => h.elim) (fun _ h => h) ?_
        rintro c s ⟨rfl, e, rfl⟩
        rw [if_pos rfl, (hsm e).1, (hsm e).2]
        (repeat' first | refine Wp.u ?_ | (refine Wp.c ?_ ?_ <;> intro))
        refine Wp.ret ?_; simp [Res, resU, res1, c_match_First]
      · have hlp := hloop l.length ⟨by omega, by omega, .inl rfl⟩
        simp only [mf0S, formC] at hlp
        (all_goals have := fa (a2 @formC.eq_1 hlt); repeat' first | refine Wp.v ?_ | (apply Wp.call; exact px _) | (apply Wp.call; exact py _) | (apply Wp.call; exact hlx _) | (apply Wp.call; exact hly _) | (refine Wp.c ?_ ?_ <;> intro))
        rw [if_neg hlt]
        refine hlp.imp (fun _ h => h.elim) (fun _ h => h) ?_
        rintro c s ⟨rfl, e, rfl⟩
        rw [if_pos rfl, (hsm e).1, (hsm e).2]
        (repeat' first | refine Wp.u ?_ | (refine Wp.c ?_ ?_ <;> intro))
        refine Wp.ret ?_; simp [Res, resU, res1, c_match_First]
theorem mfirst_bad {x y : FForm} (h : (rightF x && rightF y) = false) : mfirstU x y = .tup [.agg [i64 0, .str [], .str []], .bool false, i64 1] := by simp [mfirstU, h]
theorem mfirst_same {x : FForm} (h : rightF x = true) : mfirstU x x = .tup [.agg [i64 0, .str [], .str []], .bool false, i64 0] := by simp [mfirstU, h, spotC]
theorem mfirst_ne {x y : FForm} (h : rightF x = true) (h2 : rightF y = true) (hne : x ≠ y) : mfirstU x y = .tup [.agg [i64 (cp (linesF x) (linesF y)), .str (atF (linesF x) (cp (linesF x) (linesF y))), .str (atF (linesF y) (cp (linesF x) (linesF y)))], .bool true, i64 0] := by
  have : linesF x ≠ linesF y := fun e => hne (lines_inj (right_k h) (right_k h2) e)
  simp [mfirstU, h, h2, spotC, this]
theorem lines_at {x y : FForm} (h : rightF x = true) (h2 : rightF y = true) (hne : x ≠ y) : atF (linesF x) (cp (linesF x) (linesF y)) ≠ atF (linesF y) (cp (linesF x) (linesF y)) :=
  at_ne (fun w hw => (lines_ok (right_k h) w hw).1) (fun w hw => (lines_ok (right_k h2) w hw).1) (cp_ne fun e => hne (lines_inj (right_k h) (right_k h2) e)).1
def rf2S (X : List Ob) (l m : List (List UInt8)) (i : Nat) : S := ⟨[(4, .bp 2 0), (6, wordsU true l), (7, wordsU true m), (8, i64 i)], X⟩
set_option maxHeartbeats 16000000 in
theorem rf2_loop (a b c : List U) (l m : List (List UInt8)) (hl : l.length ≤ 300) (R : S → Prop) :
    Wp T (.loop c_joineryref16_First_L2) (rf2S [.box a, .box b, .box c] l m 0) (fun _ => False) R
      (fun k s' => k = 0 ∧ s' = ⟨[(4, .bp 2 0), (6, wordsU true l), (7, wordsU true m), (8, i64 (cp l m)), (34, .bool false)], [.box a, .box b, .box c]⟩) := by
  obtain ⟨hc1, hc2⟩ := cp_le l m
  refine Wp.count (cp l m) (fun i => rf2S [.box a, .box b, .box c] l m i) (fun _ => True) (fun i hi _ => ?_) (fun _ => ?_) 0 (by omega) trivial
  · have e := cp_eq hi
    have h1 : (i : Int) < l.length := by omega
    have h2 : (i : Int) < m.length := by omega
    have h1n : i < l.length := by omega
    have e1 : l[i]? = some l[i] := List.getElem?_eq_getElem (by omega)
    have e2 : m[i]? = some l[i] := by rw [← e, e1]
    generalize l[i] = w at *
    simp only [rf2S]
    repeat refine Wp.a ?_
    refine Wp.draw (by (simp [c_joineryref16_First_D1, I.need]) <;> rfl) (by (simp [strC, h1, h2, e1, e2]) <;> rfl) (by (simp [strC, h1, h2, e1, e2]) <;> rfl) (by (unfold c_joineryref16_First_D1); (repeat (first | ((first | apply Dr.op | apply Dr.opN | (apply Dr.opG; exact rfl)); ((simp [strC, h1, h2, e1, e2]) <;> rfl); (apply Evt.all; intro; (simp [strC, h1, h2, e1, e2]) <;> (try simp (disch := omega) only [wrap_id]) <;> first | exact ⟨rfl, rfl⟩ | exact rfl); ((simp [I.need]) <;> rfl)) | ((first | (apply Dr.opS; exact rfl; decide) | (apply Dr.opS0; exact rfl)); ((simp [I.need]) <;> rfl)))); exact Dr.nil) (by first | decide +kernel | exact rfl) (by (simp [M2.keep]) <;> rfl) ?_
    repeat refine Wp.a ?_
    refine Wp.i ?_ ?_ <;> intro hh
    · (have := fa @wrap_id; repeat refine Wp.f ?_)
      exact ⟨trimO_len rfl, trivial⟩
    · cases hh
  · have hend : ¬ cp l m < l.length ∨ ¬ cp l m < m.length ∨ ∃ (h1 : cp l m < l.length) (h2 : cp l m < m.length), (l[cp l m] == m[cp l m]) = false := by
      by_cases k1 : cp l m < l.length
      · by_cases k2 : cp l m < m.length
        · refine .inr (.inr ⟨k1, k2, ?_⟩)
          have hne : l ≠ m := fun e => by
            have : cp l m = l.length := by rw [e, cp_self]
            omega
          have := (cp_ne hne).1
          rw [List.getElem?_eq_getElem k1, List.getElem?_eq_getElem k2] at this
          exact beq_eq_false_iff_ne.2 fun e => this (congrArg some e)
        · exact .inr (.inl k2)
      · exact .inl k1
    simp only [rf2S]
    generalize cp l m = n at *
    rcases hend with k | k | ⟨k1, k2, k3⟩
    · have k' : ¬ (n : Int) < l.length := by omega
      repeat refine Wp.a ?_
      refine Wp.draw (by (simp [c_joineryref16_First_D1, I.need]) <;> rfl) (by (simp [strC, k']) <;> rfl) (by (simp [strC, k']) <;> rfl) (by (unfold c_joineryref16_First_D1); (repeat (first | ((first | apply Dr.op | apply Dr.opN | (apply Dr.opG; exact rfl)); ((simp [strC, k']) <;> rfl); (apply Evt.all; intro; (simp [strC, k']) <;> (try simp (disch := omega) only [wrap_id]) <;> first | exact ⟨rfl, rfl⟩ | exact rfl); ((simp [I.need]) <;> rfl)) | ((first | (apply Dr.opS; exact rfl; decide) | (apply Dr.opS0; exact rfl)); ((simp [I.need]) <;> rfl)))); exact Dr.nil) (by first | decide +kernel | exact rfl) (by (simp [M2.keep]) <;> rfl) ?_
      repeat refine Wp.a ?_
      refine Wp.i ?_ ?_ <;> intro hh
      · cases hh
      · exact Wp.exit ⟨rfl, rfl⟩
    · have k' : ¬ (n : Int) < m.length := by omega
      by_cases k2 : (n : Int) < l.length
      · repeat refine Wp.a ?_
        refine Wp.draw (by (simp [c_joineryref16_First_D1, I.need]) <;> rfl) (by (simp [strC, k', k2]) <;> rfl) (by (simp [strC, k', k2]) <;> rfl) (by (unfold c_joineryref16_First_D1); (repeat (first | ((first | apply Dr.op | apply Dr.opN | (apply Dr.opG; exact rfl)); ((simp [strC, k', k2]) <;> rfl); (apply Evt.all; intro; (simp [strC, k', k2]) <;> (try simp (disch := omega) only [wrap_id]) <;> first | exact ⟨rfl, rfl⟩ | exact rfl); ((simp [I.need]) <;> rfl)) | ((first | (apply Dr.opS; exact rfl; decide) | (apply Dr.opS0; exact rfl)); ((simp [I.need]) <;> rfl)))); exact Dr.nil) (by first | decide +kernel | exact rfl) (by (simp [M2.keep]) <;> rfl) ?_
        repeat refine Wp.a ?_
        refine Wp.i ?_ ?_ <;> intro hh
        · cases hh
        · exact Wp.exit ⟨rfl, rfl⟩
      · repeat refine Wp.a ?_
        refine Wp.draw (by (simp [c_joineryref16_First_D1, I.need]) <;> rfl) (by (simp [strC, k', k2]) <;> rfl) (by (simp [strC, k', k2]) <;> rfl) (by (unfold c_joineryref16_First_D1); (repeat (first | ((first | apply Dr.op | apply Dr.opN | (apply Dr.opG; exact rfl)); ((simp [strC, k', k2]) <;> rfl); (apply Evt.all; intro; (simp [strC, k', k2]) <;> (try simp (disch := omega) only [wrap_id]) <;> first | exact ⟨rfl, rfl⟩ | exact rfl); ((simp [I.need]) <;> rfl)) | ((first | (apply Dr.opS; exact rfl; decide) | (apply Dr.opS0; exact rfl)); ((simp [I.need]) <;> rfl)))); exact Dr.nil) (by first | decide +kernel | exact rfl) (by (simp [M2.keep]) <;> rfl) ?_
        repeat refine Wp.a ?_
        refine Wp.i ?_ ?_ <;> intro hh
        · cases hh
        · exact Wp.exit ⟨rfl, rfl⟩
    · have h1 : (n : Int) < l.length := by omega
      have h2 : (n : Int) < m.length := by omega
      have e1 : l[n]? = some l[n] := List.getElem?_eq_getElem k1
      have e2 : m[n]? = some m[n] := List.getElem?_eq_getElem k2
      generalize l[n] = wa at *
      generalize m[n] = wb at *
      repeat refine Wp.a ?_
      refine Wp.draw (by (simp [c_joineryref16_First_D1, I.need]) <;> rfl) (by (simp [strC, h1, h2, e1, e2, k3]) <;> rfl) (by (simp [strC, h1, h2, e1, e2, k3]) <;> rfl) (by (unfold c_joineryref16_First_D1); (repeat (first | ((first | apply Dr.op | apply Dr.opN | (apply Dr.opG; exact rfl)); ((simp [strC, h1, h2, e1, e2, k3]) <;> rfl); (apply Evt.all; intro; (simp [strC, h1, h2, e1, e2, k3]) <;> (try simp (disch := omega) only [wrap_id]) <;> first | exact ⟨rfl, rfl⟩ | exact rfl); ((simp [I.need]) <;> rfl)) | ((first | (apply Dr.opS; exact rfl; decide) | (apply Dr.opS0; exact rfl)); ((simp [I.need]) <;> rfl)))); exact Dr.nil) (by first | decide +kernel | exact rfl) (by (simp [M2.keep]) <;> rfl) ?_
      repeat refine Wp.a ?_
      refine Wp.i ?_ ?_ <;> intro hh
      · cases hh
      · exact Wp.exit ⟨rfl, rfl⟩
set_option maxHeartbeats 16000000 in
theorem rfirst_call (x y : FForm) (tx : FormT x) (ty : FormT y) (st : List Ob) : Cl T n_joineryref16_First [formU x, formU y] st (.tup [.agg (spotC (linesF x) (linesF y)), .bool (!decide (linesF x = linesF y))]) st := by
  refine Wp.pure (fn := c_joineryref16_First) rfl rfl rfl («as» := [formU x, formU y]) rfl ?_
  have lx := fun st => rlines_call x tx st
  have ly := fun st => rlines_call y ty st
  have nx := lines_n tx
  obtain ⟨hc1, hc2⟩ := cp_le (linesF x) (linesF y)
  have hlp := fun c R => rf2_loop (formC x) (formC y) c (linesF x) (linesF y) (by omega) R
  simp only [rf2S, formC] at hlp
  by_cases h : linesF x = linesF y
  · have hs : spotC (linesF x) (linesF y) = [i64 0, .str [], .str []] := by simp [spotC, h]
    have hd : (!decide (linesF x = linesF y)) = false := by simp [h]
    rw [hs, hd]
    have q1 : cp (linesF x) (linesF y) = (linesF x).length := by rw [← h, cp_self]
    have q2 : cp (linesF x) (linesF y) = (linesF y).length := by rw [h, cp_self]
    clear hs hd hc1 hc2 nx
    generalize cp (linesF x) (linesF y) = n at *
    generalize linesF x = l at *
    generalize linesF y = m at *
    (all_goals have := fa @formC.eq_1; repeat' first | refine Wp.v ?_ | fail | (refine Wp.c ?_ ?_ <;> intro))
    refine Wp.draw (by (simp [c_joineryref16_First_D0, I.need]) <;> rfl) (by (simp [formC]) <;> rfl) (by (simp [formC]) <;> rfl) (by (unfold c_joineryref16_First_D0); (repeat (first | ((first | apply Dr.op | apply Dr.opN | (apply Dr.opG; exact rfl)); ((simp [formC]) <;> rfl); (apply Evt.all; intro; (simp [formC]) <;> (try simp (disch := omega) only [wrap_id]) <;> first | exact ⟨rfl, rfl⟩ | exact rfl); ((simp [I.need]) <;> rfl)) | ((first | (apply Dr.opS; exact rfl; decide) | (apply Dr.opS0; exact rfl)); ((simp [I.need]) <;> rfl)) | (apply Dr.call; ((simp [formC]) <;> rfl); exact lx _) | (apply Dr.callG; (exact rfl); ((simp [formC]) <;> rfl); exact lx _) | (apply Dr.call; ((simp [formC]) <;> rfl); exact ly _) | (apply Dr.callG; (exact rfl); ((simp [formC]) <;> rfl); exact ly _))); exact Dr.nil) (by first | decide +kernel | exact rfl) (by (simp [M2.keep]) <;> rfl) ?_
    (repeat' first | refine Wp.u ?_ | (refine Wp.c ?_ ?_ <;> intro))
    refine (hlp _ _).imp (fun _ h => h.elim) (fun _ h => h) ?_
    rintro c s ⟨rfl, rfl⟩
    rw [if_pos rfl]
    (repeat' first | refine Wp.t ?_ | ((first | apply Wp.op | apply Wp.opN); (apply Evt.all; intro; (simp [q1.symm, q2.symm]) <;> (try simp (disch := omega) only [wrap_id]) <;> first | exact ⟨rfl, rfl⟩ | exact rfl)) | (refine Wp.c ?_ ?_ <;> intro))
    refine Wp.ret ?_; simp [Res, resU, res1, c_joineryref16_First]
  · have hs : spotC (linesF x) (linesF y) = [i64 (cp (linesF x) (linesF y)), .str (atF (linesF x) (cp (linesF x) (linesF y))), .str (atF (linesF y) (cp (linesF x) (linesF y)))] := by simp [spotC, h]
    have hd : (!decide (linesF x = linesF y)) = true := by simp [h]
    have hlt := (cp_ne h).2
    rw [hs, hd]
    unfold atF
    clear hs hd nx h
    generalize cp (linesF x) (linesF y) = n at *
    generalize linesF x = l at *
    generalize linesF y = m at *
    by_cases k1 : n < l.length
    · have k1' : (n : Int) < l.length := by omega
      have n1 : ¬ (n : Int) = l.length := by omega
      have e1 : l[n]? = some l[n] := List.getElem?_eq_getElem k1
      rw [e1]
      generalize l[n] = wa at *
      by_cases k2 : n < m.length
      · have k2' : (n : Int) < m.length := by omega
        have e2 : m[n]? = some m[n] := List.getElem?_eq_getElem k2
        rw [e2]
        generalize m[n] = wb at *
        (all_goals have := fa @formC.eq_1; repeat' first | refine Wp.v ?_ | fail | (refine Wp.c ?_ ?_ <;> intro))
        refine Wp.draw (by (simp [c_joineryref16_First_D0, I.need]) <;> rfl) (by (simp [formC]) <;> rfl) (by (simp [formC]) <;> rfl) (by (unfold c_joineryref16_First_D0); (repeat (first | ((first | apply Dr.op | apply Dr.opN | (apply Dr.opG; exact rfl)); ((simp [formC]) <;> rfl); (apply Evt.all; intro; (simp [formC]) <;> (try simp (disch := omega) only [wrap_id]) <;> first | exact ⟨rfl, rfl⟩ | exact rfl); ((simp [I.need]) <;> rfl)) | ((first | (apply Dr.opS; exact rfl; decide) | (apply Dr.opS0; exact rfl)); ((simp [I.need]) <;> rfl)) | (apply Dr.call; ((simp [formC]) <;> rfl); exact lx _) | (apply Dr.callG; (exact rfl); ((simp [formC]) <;> rfl); exact lx _) | (apply Dr.call; ((simp [formC]) <;> rfl); exact ly _) | (apply Dr.callG; (exact rfl); ((simp [formC]) <;> rfl); exact ly _))); exact Dr.nil) (by first | decide +kernel | exact rfl) (by (simp [M2.keep]) <;> rfl) ?_
        (repeat' first | refine Wp.u ?_ | (refine Wp.c ?_ ?_ <;> intro))
        refine (hlp _ _).imp (fun _ h => h.elim) (fun _ h => h) ?_
        rintro c s ⟨rfl, rfl⟩
        rw [if_pos rfl]
        (all_goals have := fa (a5 @strC.eq_1 n1 k1' k2' (a2 e1 e2)); repeat' first | refine Wp.v ?_ | (refine Wp.c ?_ ?_ <;> intro))
        refine Wp.ret ?_; simp [Res, resU, res1, c_joineryref16_First]
      · have k2' : ¬ (n : Int) < m.length := by omega
        have e2 : m[n]? = none := List.getElem?_eq_none (by omega)
        rw [e2]
        (all_goals have := fa @formC.eq_1; repeat' first | refine Wp.v ?_ | fail | (refine Wp.c ?_ ?_ <;> intro))
        refine Wp.draw (by (simp [c_joineryref16_First_D0, I.need]) <;> rfl) (by (simp [formC]) <;> rfl) (by (simp [formC]) <;> rfl) (by (unfold c_joineryref16_First_D0); (repeat (first | ((first | apply Dr.op | apply Dr.opN | (apply Dr.opG; exact rfl)); ((simp [formC]) <;> rfl); (apply Evt.all; intro; (simp [formC]) <;> (try simp (disch := omega) only [wrap_id]) <;> first | exact ⟨rfl, rfl⟩ | exact rfl); ((simp [I.need]) <;> rfl)) | ((first | (apply Dr.opS; exact rfl; decide) | (apply Dr.opS0; exact rfl)); ((simp [I.need]) <;> rfl)) | (apply Dr.call; ((simp [formC]) <;> rfl); exact lx _) | (apply Dr.callG; (exact rfl); ((simp [formC]) <;> rfl); exact lx _) | (apply Dr.call; ((simp [formC]) <;> rfl); exact ly _) | (apply Dr.callG; (exact rfl); ((simp [formC]) <;> rfl); exact ly _))); exact Dr.nil) (by first | decide +kernel | exact rfl) (by (simp [M2.keep]) <;> rfl) ?_
        (repeat' first | refine Wp.u ?_ | (refine Wp.c ?_ ?_ <;> intro))
        refine (hlp _ _).imp (fun _ h => h.elim) (fun _ h => h) ?_
        rintro c s ⟨rfl, rfl⟩
        rw [if_pos rfl]
        (all_goals have := fa (a5 @strC.eq_1 n1 k1' k2' e1); repeat' first | refine Wp.v ?_ | (refine Wp.c ?_ ?_ <;> intro))
        refine Wp.ret ?_; simp [Res, resU, res1, c_joineryref16_First]
    · have k1' : ¬ (n : Int) < l.length := by omega
      have n2 : ¬ (n : Int) = m.length := by omega
      have n1 : l.length = n := by omega
      have k2' : (n : Int) < m.length := by omega
      have e1 : l[n]? = none := List.getElem?_eq_none (by omega)
      have e2 : m[n]? = some m[n] := List.getElem?_eq_getElem (by omega)
      rw [e1, e2]
      generalize m[n] = wb at *
      (all_goals have := fa @formC.eq_1; repeat' first | refine Wp.v ?_ | fail | (refine Wp.c ?_ ?_ <;> intro))
      refine Wp.draw (by (simp [c_joineryref16_First_D0, I.need]) <;> rfl) (by (simp [formC]) <;> rfl) (by (simp [formC]) <;> rfl) (by (unfold c_joineryref16_First_D0); (repeat (first | ((first | apply Dr.op | apply Dr.opN | (apply Dr.opG; exact rfl)); ((simp [formC]) <;> rfl); (apply Evt.all; intro; (simp [formC]) <;> (try simp (disch := omega) only [wrap_id]) <;> first | exact ⟨rfl, rfl⟩ | exact rfl); ((simp [I.need]) <;> rfl)) | ((first | (apply Dr.opS; exact rfl; decide) | (apply Dr.opS0; exact rfl)); ((simp [I.need]) <;> rfl)) | (apply Dr.call; ((simp [formC]) <;> rfl); exact lx _) | (apply Dr.callG; (exact rfl); ((simp [formC]) <;> rfl); exact lx _) | (apply Dr.call; ((simp [formC]) <;> rfl); exact ly _) | (apply Dr.callG; (exact rfl); ((simp [formC]) <;> rfl); exact ly _))); exact Dr.nil) (by first | decide +kernel | exact rfl) (by (simp [M2.keep]) <;> rfl) ?_
      (repeat' first | refine Wp.u ?_ | (refine Wp.c ?_ ?_ <;> intro))
      refine (hlp _ _).imp (fun _ h => h.elim) (fun _ h => h) ?_
      rintro c s ⟨rfl, rfl⟩
      rw [if_pos rfl]
      (all_goals have := fa (a5 @strC.eq_1 n1 n2 k1' (a2 k2' e2)); repeat' first | refine Wp.v ?_ | (refine Wp.c ?_ ?_ <;> intro))
      refine Wp.ret ?_; simp [Res, resU, res1, c_joineryref16_First]
end Go.Proofs.YtbcojbmalcghbaaDoor.M2
