/- Typed arguments: forms. -/
import Derived.Test.YtbcojbmalcghbaaDoorCe
import Derived.Test.YtbcojbmalcghbaaDoorCc
import Derived.KernelRfl
import Derived.Test.YtbcojbmalcghbaaDoorCf
set_option linter.unusedSimpArgs false
set_option linter.unusedVariables false
set_option linter.unusedSectionVars false
namespace Go.Proofs.YtbcojbmalcghbaaDoor.M2
open Go
theorem beq_dec (x y : Int) : (x == y) = decide (x = y) := by by_cases h : x = y <;> simp [h]
theorem bne_dec (x y : Int) : (x != y) = !decide (x = y) := by by_cases h : x = y <;> simp [h]
theorem wrap_id {n : Int} (h1 : -9223372036854775808 ≤ n) (h2 : n < 9223372036854775808) : IntKind.wrap .i64 n = n := by
  simp only [IntKind.wrap, IntKind.bits, IntKind.signed, Bool.true_and]
  have : (2 : Int) ^ 64 = 18446744073709551616 := by decide
  have : (2 : Int) ^ (64 - 1) = 9223372036854775808 := by decide
  simp only [*]
  split <;> rename_i h <;> simp only [decide_eq_true_eq, ge_iff_le] at h <;> omega
attribute [local simp] ev1 M2.get put A.ev ld sub part elems bin arith un opt idx fillC cellsO splice over newOb sto fillR laidOwn appTo appRow touch touchN touchM touchE touchA plainU flatU plainAs allM rowAt stoRow accM_nil accM_cons accMM_nil accMM_cons frz_int frz_bool frz_str frz_slt frz_nils frz_nilI frz_nilF frz_own frzRow_row frzRow_frow Ob.blw blw_bool blw_int blw_str blw_nils blw_nilI blw_nilF blw_nilp blw_nilm blw_sl blw_own blw_bp blw_rp blw_mp blw_it params
attribute [local simp] frz_agg frz_tup frz_iface frzS_agg frzS_iface accMS_cons frzS_int frzS_bool frzS_str frzS_slt frzS_nils frzS_nilI beq_dec bne_dec
abbrev i64 (n : Int) : U := .int .i64 n
structure FNode where
  op : Int
  n : Int
  args : List (Int × Int)
  outs : List Int
  deriving DecidableEq, Inhabited
structure FVal where
  pos : Int
  src : List (Int × Int)
  deriving DecidableEq, Inhabited
structure FForm where
  entry : Int
  nodes : List FNode
  vals : List FVal
  deriving DecidableEq, Inhabited
def srcC (s : Int × Int) : List U := [i64 s.1, i64 s.2]
def outC (o : Int) : List U := [i64 o]
def srcsU (l : List (Int × Int)) : U := .sl true (l.map srcC)
def outsU (l : List Int) : U := .sl true (l.map outC)
def nodeC (y : FNode) : List U := [i64 y.op, i64 y.n, srcsU y.args, outsU y.outs]
def valC (v : FVal) : List U := [i64 v.pos, srcsU v.src]
def formC (x : FForm) : List U := [i64 x.entry, .sl true (x.nodes.map nodeC), .sl true (x.vals.map valC)]
abbrev formU (x : FForm) : U := .agg (formC x)
theorem take_all {α : Type} {p : α → Prop} {l : List α} {i : Nat} (hi : i < l.length) (h : ∀ y ∈ l.take i, p y) (hp : p l[i]) : ∀ y ∈ l.take (i + 1), p y := fun y hy => by
  rw [List.take_succ_eq_append_getElem hi] at hy
  rcases List.mem_append.1 hy with hy | hy
  · exact h y hy
  · simp only [List.mem_singleton] at hy
    subst hy
    exact hp
theorem take_eq {α : Type} {l m : List α} {i : Nat} (hi : i < l.length) (hj : i < m.length) (h : l.take i = m.take i) (hp : l[i] = m[i]) : l.take (i + 1) = m.take (i + 1) := by
  rw [List.take_succ_eq_append_getElem hi, List.take_succ_eq_append_getElem hj, h, hp]
def rng (n : Int) : Prop := -9223372036854775808 ≤ n ∧ n < 9223372036854775808
def SrcR (s : Int × Int) : Prop := rng s.1 ∧ rng s.2
structure NodeR (y : FNode) : Prop where
  op : rng y.op
  n : rng y.n
  args : ∀ s ∈ y.args, SrcR s
  outs : ∀ o ∈ y.outs, rng o
structure ValR (v : FVal) : Prop where
  pos : rng v.pos
  src : ∀ s ∈ v.src, SrcR s
structure FormR (x : FForm) : Prop where
  entry : rng x.entry
  nodes : ∀ y ∈ x.nodes, NodeR y
  vals : ∀ v ∈ x.vals, ValR v
structure Big (x : FForm) : Prop where
  nodes : x.nodes.length < 9223372036854775808
  vals : x.vals.length < 9223372036854775808
def wideN (y : FNode) : Bool := decide (20 < y.args.length) || decide (20 < y.outs.length)
def greatF (x : FForm) : Bool := x.nodes.any wideN || x.vals.any (fun v => decide (100 < v.src.length)) || decide (60 < x.nodes.length) || decide (200 < x.vals.length)
def gr0S (x : FForm) (i : Nat) : S := ⟨[(1, .bp 0 0), (3, i64 i)], [.box (formC x)]⟩
set_option maxHeartbeats 4000000 in
theorem gr0_loop (x : FForm) (hb : Big x) : Wp T (.loop c_joinerylaw14_Great_L0) (gr0S x 0) (fun _ => False) (Res c_joinerylaw14_Great (.bool (greatF x)))
    (fun b s' => b = 0 ∧ (∀ y ∈ x.nodes, wideN y = false) ∧ s' = ⟨[(1, .bp 0 0), (3, i64 (x.nodes.length : Nat)), (9, .bool false)], [.box (formC x)]⟩) := by
  have hbn := hb.nodes
  refine Wp.count x.nodes.length (fun i => gr0S x i) (fun i => ∀ y ∈ x.nodes.take i, wideN y = false) (fun i hi hI => ?_) (fun hI => ?_) 0 (by omega) (by simp)
  · have hi' : (i : Int) < x.nodes.length := by omega
    have eg : x.nodes[i]? = some x.nodes[i] := List.getElem?_eq_getElem hi
    have hnx := fun h => take_all (p := fun y => wideN y = false) hi hI h
    have hgr : wideN x.nodes[i] = true → greatF x = true := fun h => by
      have : x.nodes.any wideN = true := List.any_eq_true.2 ⟨_, List.getElem_mem hi, h⟩
      simp [greatF, this]
    generalize x.nodes[i] = y at *
    simp only [gr0S]
    (have := fa (a2 @formC.eq_1 hi'); repeat refine Wp.f ?_)
    refine Wp.i ?_ ?_ <;> intro h1
    · by_cases ha : (20 : Int) < y.args.length
      · (have := fa (a5 @formC.eq_1 @nodeC.eq_1 @srcsU.eq_1 @outsU.eq_1 (a3 hi' eg ha)); repeat refine Wp.f ?_)
        refine Wp.i ?_ ?_ <;> intro h2
        · rw [hgr (by simp [wideN]; omega)]
          repeat refine Wp.a ?_
          refine Wp.ret ?_; simp [Res, resU, res1, c_joinerylaw14_Great]
        · cases h2
      · by_cases ho : (20 : Int) < y.outs.length
        · (have := fa (a5 @formC.eq_1 @nodeC.eq_1 @srcsU.eq_1 @outsU.eq_1 (a4 hi' eg ha ho)); repeat refine Wp.f ?_)
          refine Wp.i ?_ ?_ <;> intro h2
          · rw [hgr (by simp [wideN]; omega)]
            repeat refine Wp.a ?_
            refine Wp.ret ?_; simp [Res, resU, res1, c_joinerylaw14_Great]
          · cases h2
        · (have := fa (a5 @formC.eq_1 @nodeC.eq_1 @srcsU.eq_1 @outsU.eq_1 (a4 hi' eg ha ho)); repeat refine Wp.f ?_)
          refine Wp.i ?_ ?_ <;> intro h2
          · cases h2
          · (have := fa @wrap_id; repeat refine Wp.f ?_)
            exact ⟨trimO_len rfl, hnx (by simp [wideN]; omega)⟩
    · cases h1
  · rw [List.take_of_length_le (Nat.le_refl _)] at hI
    simp only [gr0S]
    (have := fa @formC.eq_1; repeat refine Wp.f ?_)
    refine Wp.i ?_ ?_ <;> intro h1
    · simp at h1
    · exact Wp.exit ⟨rfl, hI, rfl⟩
def gr1S (x : FForm) (i : Nat) : S := ⟨[(1, .bp 0 0), (4, i64 i)], [.box (formC x)]⟩
set_option maxHeartbeats 4000000 in
theorem gr1_loop (x : FForm) (hb : Big x) : Wp T (.loop c_joinerylaw14_Great_L1) (gr1S x 0) (fun _ => False) (Res c_joinerylaw14_Great (.bool (greatF x)))
    (fun b s' => b = 2 ∧ (∀ y ∈ x.vals, decide (100 < y.src.length) = false) ∧ s' = ⟨[(1, .bp 0 0), (4, i64 (x.vals.length : Nat)), (34, .bool false)], [.box (formC x)]⟩) := by
  have hbn := hb.vals
  refine Wp.count x.vals.length (fun i => gr1S x i) (fun i => ∀ y ∈ x.vals.take i, decide (100 < y.src.length) = false) (fun i hi hI => ?_) (fun hI => ?_) 0 (by omega) (by simp)
  · have hi' : (i : Int) < x.vals.length := by omega
    have eg : x.vals[i]? = some x.vals[i] := List.getElem?_eq_getElem hi
    have hnx := fun h => take_all (p := fun y => decide (100 < y.src.length) = false) hi hI h
    have hgr : decide (100 < x.vals[i].src.length) = true → greatF x = true := fun h => by
      have : x.vals.any (fun v => decide (100 < v.src.length)) = true := List.any_eq_true.2 ⟨_, List.getElem_mem hi, h⟩
      simp [greatF, this]
    generalize x.vals[i] = y at *
    simp only [gr1S]
    (have := fa (a2 @formC.eq_1 hi'); repeat refine Wp.f ?_)
    refine Wp.i ?_ ?_ <;> intro h1
    · by_cases ha : (100 : Int) < y.src.length
      · (have := fa (a5 @formC.eq_1 @valC.eq_1 @srcsU.eq_1 hi' (a2 eg ha)); repeat refine Wp.f ?_)
        refine Wp.i ?_ ?_ <;> intro h2
        · rw [hgr (by simp; omega)]
          repeat refine Wp.a ?_
          refine Wp.ret ?_; simp [Res, resU, res1, c_joinerylaw14_Great]
        · cases h2
      · (have := fa (a5 @formC.eq_1 @valC.eq_1 @srcsU.eq_1 hi' (a2 eg ha)); repeat refine Wp.f ?_)
        refine Wp.i ?_ ?_ <;> intro h2
        · cases h2
        · (have := fa @wrap_id; repeat refine Wp.f ?_)
          exact ⟨trimO_len rfl, hnx (by simp; omega)⟩
    · cases h1
  · rw [List.take_of_length_le (Nat.le_refl _)] at hI
    simp only [gr1S]
    (have := fa @formC.eq_1; repeat refine Wp.f ?_)
    refine Wp.i ?_ ?_ <;> intro h1
    · simp at h1
    · exact Wp.exit ⟨rfl, hI, rfl⟩
set_option maxHeartbeats 4000000 in
theorem great_call (x : FForm) (hb : Big x) (st : List Ob) : Cl T n_joinerylaw14_Great [formU x] st (.bool (greatF x)) st := by
  refine Wp.pure (fn := c_joinerylaw14_Great) rfl rfl rfl («as» := [formU x]) rfl ?_
  repeat refine Wp.a ?_
  refine (show Wp T (.loop c_joinerylaw14_Great_L0) (gr0S x 0) _ _ _ from (gr0_loop x hb).imp (fun _ h => h.elim) (fun _ h => h) ?_)
  rintro b s ⟨rfl, hn, rfl⟩
  rw [if_pos rfl]
  repeat refine Wp.a ?_
  refine (show Wp T (.loop c_joinerylaw14_Great_L1) (gr1S x 0) _ _ _ from (gr1_loop x hb).imp (fun _ h => h.elim) (fun _ h => h) ?_)
  rintro b s ⟨rfl, hv, rfl⟩
  rw [if_pos rfl]
  have e1 : x.nodes.any wideN = false := by rw [List.any_eq_false]; simpa using hn
  have e2 : x.vals.any (fun v => decide (100 < v.src.length)) = false := by rw [List.any_eq_false]; simpa using hv
  have hg : greatF x = (decide (60 < x.nodes.length) || decide (200 < x.vals.length)) := by simp [greatF, e1, e2]
  rw [hg]
  by_cases h1 : (60 : Int) < x.nodes.length
  · have : decide (60 < x.nodes.length) = true := decide_eq_true (by omega)
    rw [this]
    (have := fa (a2 @formC.eq_1 h1); repeat refine Wp.f ?_)
    refine Wp.ret ?_; simp [Res, resU, res1, c_joinerylaw14_Great]
  · have : decide (60 < x.nodes.length) = false := decide_eq_false (by omega)
    rw [this]
    by_cases h2 : (200 : Int) < x.vals.length
    · have : decide (200 < x.vals.length) = true := decide_eq_true (by omega)
      rw [this]
      (have := fa (a3 @formC.eq_1 h1 h2); repeat refine Wp.f ?_)
      refine Wp.ret ?_; simp [Res, resU, res1, c_joinerylaw14_Great]
    · have : decide (200 < x.vals.length) = false := decide_eq_false (by omega)
      rw [this]
      (have := fa (a3 @formC.eq_1 h1 h2); repeat refine Wp.f ?_)
      refine Wp.ret ?_; simp [Res, resU, res1, c_joinerylaw14_Great]
structure Small (x : FForm) : Prop where
  nodes : x.nodes.length ≤ 60
  vals : x.vals.length ≤ 200
  args : ∀ y ∈ x.nodes, y.args.length ≤ 20
  outs : ∀ y ∈ x.nodes, y.outs.length ≤ 20
  src : ∀ v ∈ x.vals, v.src.length ≤ 100
theorem small_of {x : FForm} (h : greatF x = false) : Small x := by
  simp only [greatF, Bool.or_eq_false_iff, List.any_eq_false, wideN, Bool.or_eq_true, decide_eq_true_eq, not_or, decide_eq_false_iff_not, Nat.not_lt] at h
  obtain ⟨⟨⟨h1, h2⟩, h3⟩, h4⟩ := h
  exact ⟨h3, h4, fun y hy => (h1 y hy).1, fun y hy => (h1 y hy).2, h2⟩
end Go.Proofs.YtbcojbmalcghbaaDoor.M2
namespace Go.Proofs.YtbcojbmalcghbaaDoor.M2
open Go
def all2 {α β : Type} (f : α → β → Bool) : List α → List β → Bool
  | [], [] => true
  | a :: av, b :: bs => f a b && all2 f av bs
  | _, _ => false
theorem all2_ok {α : Type} {f : α → α → Bool} (h : ∀ a b, f a b = true → a = b) : ∀ {av bs : List α}, all2 f av bs = true → av = bs
  | [], [], _ => rfl
  | [], _ :: _, k => by simp [all2] at k
  | _ :: _, [], k => by simp [all2] at k
  | a :: av, b :: bs, k => by
    simp only [all2, Bool.and_eq_true] at k
    rw [h a b k.1, all2_ok h k.2]
def ueqD : Nat → U → U → Bool
  | 0, _, _ => false
  | d + 1, a, b => match a, b with
    | .sl p xs, .sl q ys => (p == q) && all2 (all2 (ueqD d)) xs ys
    | .agg xs, .agg ys => all2 (ueqD d) xs ys
    | .tup xs, .tup ys => all2 (ueqD d) xs ys
    | .str s, .str t => all2 (fun a b => Nat.beq a.toNat b.toNat) s t
    | .iface t x, .iface t' y => Nat.beq t t' && ueqD d x y
    | a, b => ueq1 a b
theorem ueqD_ok : ∀ {d : Nat} {a b : U}, ueqD d a b = true → a = b
  | 0, _, _, h => by simp [ueqD] at h
  | d + 1, a, b, h => by
    unfold ueqD at h
    split at h
    · simp only [Bool.and_eq_true, beq_iff_eq] at h
      rw [h.1, all2_ok (fun _ _ k => all2_ok (fun _ _ k => ueqD_ok k) k) h.2]
    · rw [all2_ok (fun _ _ k => ueqD_ok k) h]
    · rw [all2_ok (fun _ _ k => ueqD_ok k) h]
    · rw [all2_ok (fun a b k => UInt8.toNat_inj.1 (Nat.eq_of_beq_eq_true k)) h]
    · simp only [Bool.and_eq_true] at h
      rw [Nat.eq_of_beq_eq_true h.1, ueqD_ok h.2]
    · exact ueq1_ok h
abbrev Orc := Nat → List U → Option U
section
variable (T : Nat → Option F)
def OrcOK (q : Orc) (M : Nat) : Prop := ∀ f bs u, q f bs = some u → ∀ av st, allM (brwA frzD st) av = some bs → M2.call T M f av st = some (u, st)
def evQ (q : Orc) : Nat → C → S → Option (X × S)
  | 0 => fun _ _ => none
  | n + 1 => evC (fun f => (T f).any (·.pure)) (fun f av st => match (allM (brwA frzD st) av).bind (q f) with | some u => some (u, st) | none => callF T (evQ q n) f av st) (evQ q n)
def callQ (q : Orc) (n : Nat) : Nat → List U → List Ob → Option (U × List Ob) := callF T (evQ T q n)
variable {T}
theorem evQ_ok {q : Orc} {M : Nat} (h : OrcOK T q M) : ∀ (n : Nat) (c : C) (s : S) (r : X × S), evQ T q n c s = some r → ev T (n + M) c s = some r
  | 0, c, s, r, k => by simp [evQ] at k
  | n + 1, c, s, r, k => by
    rw [show n + 1 + M = (n + M) + 1 by omega]
    refine evC_mono (fun f av st r k => ?_) (fun c s r k => evQ_ok h n c s r k) k
    cases hq : (allM (brwA frzD st) av).bind (q f) with
    | some u =>
      rw [hq] at k
      cases k
      obtain ⟨bs, hb, hu⟩ := Option.bind_eq_some_iff.1 hq
      exact call_mono (Nat.le_add_left M n) (h f bs u hu av st hb)
    | none =>
      rw [hq] at k
      exact callF_mono (fun c s r k => evQ_ok h n c s r k) k
theorem callQ_ok {q : Orc} {M n : Nat} (h : OrcOK T q M) {f : Nat} {av : List U} {st : List Ob} {r : U × List Ob} (k : callQ T q n f av st = some r) : M2.call T (n + M) f av st = some r :=
  callF_mono (fun c s r k => evQ_ok h n c s r k) k
def tl (f : Nat) (av : List U) (u : U) : Orc := fun g bs => if Nat.beq g f then (if all2 (ueqD 12) av bs then some u else none) else none
def qor (q r : Orc) : Orc := fun g bs => match q g bs with
  | some u => some u
  | none => r g bs
theorem orc_nil {M : Nat} : OrcOK T (fun _ _ => none) M := fun _ _ _ h => by cases h
theorem allM_length {α β : Type} {f : α → Option β} : ∀ {l : List α} {m : List β}, allM f l = some m → m.length = l.length
  | [], m, h => by cases h; rfl
  | x :: l, m, h => by
    unfold allM at h
    obtain ⟨y, _, h⟩ := Option.bind_eq_some_iff.1 h
    obtain ⟨ys, h1, h⟩ := Option.bind_eq_some_iff.1 h
    cases h
    simp [allM_length h1]
theorem call_brw {n f : Nat} {av bs : List U} {u : U} {st : List Ob} (h : M2.call T n f bs st = some (u, st)) (hp : (T f).any (·.pure) = true) (hb : allM (brwA frzD st) bs = some bs) (ha : allM (brwA frzD st) av = some bs) : M2.call T n f av st = some (u, st) := by
  unfold M2.call callF at h ⊢
  cases hf : T f with
  | none => rw [hf] at hp; simp at hp
  | some fn =>
    rw [hf] at h hp
    simp only [Option.any_some] at hp
    simp only [Option.bind_some, hp, if_true, hb, ha] at h ⊢
    rw [allM_length ha] at h
    exact h
theorem orc_tl {f : Nat} {av : List U} {u : U} {M : Nat} (h : ∀ st, M2.call T M f av st = some (u, st)) (hp : (T f).any (·.pure) = true) (hb : ∀ st, allM (brwA frzD st) av = some av) : OrcOK T (tl f av u) M := by
  intro g bs v k cs st hc
  unfold tl at k
  split at k
  · rename_i h1
    split at k
    · rename_i h2
      cases k
      rw [← all2_ok (fun _ _ k => ueqD_ok k) h2] at hc
      rw [Nat.eq_of_beq_eq_true h1]
      exact call_brw (h st) hp (hb st) hc
    · cases k
  · cases k
theorem orc_or {q r : Orc} {M N : Nat} (h1 : OrcOK T q M) (h2 : OrcOK T r N) : OrcOK T (qor q r) (M + N) := by
  intro f bs u k av st ha
  unfold qor at k
  split at k
  · rename_i hq
    cases k
    exact call_mono (Nat.le_add_right M N) (h1 f bs _ hq av st ha)
  · exact call_mono (Nat.le_add_left N M) (h2 f bs _ k av st ha)
def isU (r : Option (U × List Ob)) (u : U) : Bool := match r with
  | some (v, []) => ueqD 12 v u
  | _ => false
theorem isU_ok {r : Option (U × List Ob)} {u : U} (h : isU r u = true) : r = some (u, []) := by
  unfold isU at h
  split at h
  · rw [ueqD_ok h]
  · cases h
theorem told0 {n f : Nat} {us : List U} {u : U} (h : M2.call T n f us [] = some (u, [])) (hp : (T f).any (·.pure) = true) (hb : ∀ st, allM (brwA frzD st) us = some us) (st : List Ob) : M2.call T n f us st = some (u, st) := by
  unfold M2.call callF at h ⊢
  cases hf : T f with
  | none => rw [hf] at hp; simp at hp
  | some fn =>
    rw [hf] at h hp
    simp only [Option.any_some] at hp
    simp only [Option.bind_some] at h ⊢
    split at h
    · rename_i hl
      rw [if_pos hl, if_pos hp]
      simp only [hp, if_true, hb, Option.bind_some, Option.bind_eq_some_iff] at h ⊢
      obtain ⟨x, k1, k2⟩ := h
      refine ⟨x, k1, ?_⟩
      split at k2
      · rename_i he
        rw [if_pos he]
        simp only [Option.bind_eq_some_iff] at k2 ⊢
        obtain ⟨v, m1, y, m2, m3⟩ := k2
        refine ⟨v, m1, y, m2, ?_⟩
        cases m3
        rfl
      · cases k2
    · cases h
def Told (T : Nat → Option F) (f : Nat) (us : List U) (u : U) : Prop := ∃ n, ∀ st, M2.call T n f us st = some (u, st)
def Orcs (T : Nat → Option F) (q : Orc) : Prop := ∃ M, OrcOK T q M
theorem told {n f : Nat} {us : List U} {u : U} (h : isU (M2.call T n f us []) u = true) (hp : (T f).any (·.pure) = true) (hb : ∀ st, allM (brwA frzD st) us = some us) : Told T f us u := ⟨n, told0 (isU_ok h) hp hb⟩
theorem toldQ {q : Orc} {n f : Nat} {us : List U} {u : U} (hq : Orcs T q) (h : isU (callQ T q n f us []) u = true) (hp : (T f).any (·.pure) = true) (hb : ∀ st, allM (brwA frzD st) us = some us) : Told T f us u := by
  obtain ⟨M, hq⟩ := hq
  exact ⟨n + M, told0 (callQ_ok hq (isU_ok h)) hp hb⟩
theorem Told.call {f : Nat} {us : List U} {u : U} (h : Told T f us u) (st : List Ob) : Cl T f us st u st := by
  obtain ⟨n, h⟩ := h
  exact ⟨n, fun m hm => call_mono hm (h st)⟩
theorem orcs_tl {f : Nat} {av : List U} {u : U} (h : Told T f av u) (hp : (T f).any (·.pure) = true) (hb : ∀ st, allM (brwA frzD st) av = some av) : Orcs T (tl f av u) := by
  obtain ⟨n, h⟩ := h
  exact ⟨n, orc_tl h hp hb⟩
theorem orcs_or {q r : Orc} (h1 : Orcs T q) (h2 : Orcs T r) : Orcs T (qor q r) := by
  obtain ⟨n, h1⟩ := h1
  obtain ⟨m, h2⟩ := h2
  exact ⟨n + m, orc_or h1 h2⟩
end
end Go.Proofs.YtbcojbmalcghbaaDoor.M2
namespace Go.Proofs.YtbcojbmalcghbaaDoor.M2
open Go
attribute [local simp] ev1 M2.get put A.ev ld sub part elems bin arith un opt idx fillC cellsO splice over newOb sto fillR laidOwn appTo appRow touch touchN touchM touchE touchA plainU flatU plainAs allM rowAt stoRow accM_nil accM_cons accMM_nil accMM_cons frz_int frz_bool frz_str frz_slt frz_nils frz_nilI frz_nilF frz_own frzRow_row frzRow_frow Ob.blw blw_bool blw_int blw_str blw_nils blw_nilI blw_nilF blw_nilp blw_nilm blw_sl blw_own blw_bp blw_rp blw_mp blw_it params
attribute [local simp] frz_agg frz_tup frz_iface frzS_agg frzS_iface accMS_cons frzS_int frzS_bool frzS_str frzS_slt frzS_nils frzS_nilI beq_dec bne_dec
theorem src_same (a b : Int × Int) : sameV (.tst [(1, .ti), (1, .ti)]) (.agg (srcC a)) (.agg (srcC b)) = some (decide (a = b)) := by
  obtain ⟨a1, a2⟩ := a
  obtain ⟨b1, b2⟩ := b
  simp only [sameV, cellsS, Option.bind_some, srcC, sameD, same, same.fields, List.length_cons, List.length_nil, List.take, List.drop, i64, Prod.mk.injEq]
  by_cases h1 : a1 = b1
  · by_cases h2 : a2 = b2 <;> simp [h1, h2]
  · simp [h1]
def so0S (a b : List (Int × Int)) (i : Nat) : S := ⟨[(1, srcsU b), (12, srcsU a), (13, i64 a.length), (14, i64 i)], []⟩
theorem srcC_len (s : Int × Int) : (srcC s).length = 2 := rfl
theorem srcC_take (s : Int × Int) : (srcC s).take 2 = srcC s := rfl
theorem srcC_over (s : Int × Int) (a b : U) : over (srcC s) [a, b] = srcC s := rfl
set_option maxHeartbeats 4000000 in
theorem so0_loop (a b : List (Int × Int)) (hl : a.length = b.length) (hb : a.length ≤ 1000) : Wp T (.loop c_match_sources_L1) (so0S a b 0) (fun _ => False) (Res c_match_sources (.bool (decide (a = b))))
    (fun k s' => k = 0 ∧ a = b ∧ s' = ⟨[(1, srcsU b), (12, srcsU a), (13, i64 a.length), (14, i64 (a.length : Nat)), (15, .bool false)], []⟩) := by
  refine Wp.count a.length (fun i => so0S a b i) (fun i => a.take i = b.take i) (fun i hi hI => ?_) (fun hI => ?_) 0 (by omega) (by simp)
  · have hi' : (i : Int) < a.length := by omega
    have hj : i < b.length := by omega
    have hj' : (i : Int) < b.length := by omega
    have ea : a[i]? = some a[i] := List.getElem?_eq_getElem hi
    have eb : b[i]? = some b[i] := List.getElem?_eq_getElem hj
    have hnx := take_eq hi hj hI
    have hne : a[i] ≠ b[i] → decide (a = b) = false := fun h => decide_eq_false fun e => h (by subst e; rfl)
    generalize a[i] = x at *
    generalize b[i] = y at *
    simp only [so0S]
    (have := fa hi'; repeat refine Wp.f ?_)
    refine Wp.i ?_ ?_ <;> intro h1
    · (have := fa (a5 @srcsU.eq_1 hi' ea @srcC_len (a2 @srcC_take @srcC_over)); repeat refine Wp.f ?_)
      by_cases he : x = y
      · refine Wp.draw (by (simp [c_match_sources_D0, I.need]) <;> rfl) (by (simp [srcsU, hj', eb, srcC_len, srcC_take, src_same, he]) <;> rfl) (by (simp [srcsU, hj', eb, srcC_len, srcC_take, src_same, he]) <;> rfl) (by (unfold c_match_sources_D0); (repeat (first | ((first | apply Dr.op | apply Dr.opN | (apply Dr.opG; exact rfl)); ((simp [srcsU, hj', eb, srcC_len, srcC_take, src_same, he]) <;> rfl); (apply Evt.all; intro; (simp [srcsU, hj', eb, srcC_len, srcC_take, src_same, he]) <;> (try simp (disch := omega) only [wrap_id]) <;> first | exact ⟨rfl, rfl⟩ | exact rfl); ((simp [I.need]) <;> rfl)) | ((first | (apply Dr.opS; exact rfl; decide) | (apply Dr.opS0; exact rfl)); ((simp [I.need]) <;> rfl)))); exact Dr.nil) (by first | decide +kernel | exact rfl) (by (simp [M2.keep]) <;> rfl) ?_
        repeat refine Wp.a ?_
        refine Wp.i ?_ ?_ <;> intro h2
        · cases h2
        · (have := fa @wrap_id; repeat refine Wp.f ?_)
          exact ⟨by simp [trimO, trim, srcsU], hnx he⟩
      · refine Wp.draw (by (simp [c_match_sources_D0, I.need]) <;> rfl) (by (simp [srcsU, hj', eb, srcC_len, srcC_take, src_same, he]) <;> rfl) (by (simp [srcsU, hj', eb, srcC_len, srcC_take, src_same, he]) <;> rfl) (by (unfold c_match_sources_D0); (repeat (first | ((first | apply Dr.op | apply Dr.opN | (apply Dr.opG; exact rfl)); ((simp [srcsU, hj', eb, srcC_len, srcC_take, src_same, he]) <;> rfl); (apply Evt.all; intro; (simp [srcsU, hj', eb, srcC_len, srcC_take, src_same, he]) <;> (try simp (disch := omega) only [wrap_id]) <;> first | exact ⟨rfl, rfl⟩ | exact rfl); ((simp [I.need]) <;> rfl)) | ((first | (apply Dr.opS; exact rfl; decide) | (apply Dr.opS0; exact rfl)); ((simp [I.need]) <;> rfl)))); exact Dr.nil) (by first | decide +kernel | exact rfl) (by (simp [M2.keep]) <;> rfl) ?_
        repeat refine Wp.a ?_
        refine Wp.i ?_ ?_ <;> intro h2
        · rw [hne he]
          repeat refine Wp.a ?_
          refine Wp.ret ?_; simp [Res, resU, res1, c_match_sources]
        · cases h2
    · cases h1
  · rw [List.take_of_length_le (Nat.le_refl _), List.take_of_length_le (by omega)] at hI
    simp only [so0S]
    repeat refine Wp.a ?_
    refine Wp.i ?_ ?_ <;> intro h1
    · simp at h1
    · exact Wp.exit ⟨rfl, hI, rfl⟩
set_option maxHeartbeats 4000000 in
theorem sources_call (a b : List (Int × Int)) (hb : a.length ≤ 1000) (hb2 : b.length ≤ 1000) (st : List Ob) : Cl T n_match_sources [srcsU a, srcsU b] st (.bool (decide (a = b))) st := by
  refine Wp.pure (fn := c_match_sources) rfl rfl rfl («as» := [srcsU a, srcsU b]) rfl ?_
  by_cases hl : a.length = b.length
  · have hl' : (a.length : Int) = b.length := by omega
    (have := fa (a2 @srcsU.eq_1 hl'); repeat refine Wp.f ?_)
    refine Wp.i ?_ ?_ <;> intro h1
    · cases h1
    (have := fa (a2 @srcsU.eq_1 hl'); repeat refine Wp.f ?_)
    have := so0_loop a b hl hb
    simp only [so0S, srcsU, hl'] at this
    refine this.imp (fun _ h => h.elim) (fun _ h => h) ?_
    rintro k s ⟨rfl, he, rfl⟩
    rw [if_pos rfl, he]
    repeat refine Wp.a ?_
    refine Wp.ret ?_; simp [Res, resU, res1, c_match_sources]
  · have hl' : ¬ (a.length : Int) = b.length := by omega
    have : decide (a = b) = false := decide_eq_false fun e => hl (by rw [e])
    rw [this]
    (have := fa (a2 @srcsU.eq_1 hl'); repeat refine Wp.f ?_)
    refine Wp.i ?_ ?_ <;> intro h1
    · repeat refine Wp.a ?_
      refine Wp.ret ?_; simp [Res, resU, res1, c_match_sources]
    · cases h1
end Go.Proofs.YtbcojbmalcghbaaDoor.M2
namespace Go.Proofs.YtbcojbmalcghbaaDoor.M2
open Go
section
variable {P : Program}
theorem typed_i64 {t : TypeId} (hu : P.underlying t = some (.int .i64)) {d : Nat} {us : List U} (h : Typed P (d + 1) t us) : ∃ n, us = [i64 n] ∧ rng n := by
  simp only [Typed, hu] at h
  obtain ⟨n, e, hw⟩ := h
  refine ⟨n, e, ?_⟩
  simp [Lit.wf, IntKind.min, IntKind.max, IntKind.bits, IntKind.signed] at hw
  unfold rng
  omega
theorem typed_slice {t e : TypeId} (hu : P.underlying t = some (.slice e)) {d : Nat} {us : List U} (h : Typed P (d + 1) t us) : ∃ xs, us = [.sl true xs] ∧ xs.length ≤ maxLen ∧ ∀ x ∈ xs, Typed P d e x ∧ x.length = P.cellsOf e := by
  simp only [Typed, hu] at h
  exact h
theorem typed_struct {t : TypeId} {fs : Array Field} (hu : P.underlying t = some (.struct fs)) {d : Nat} {us : List U} (h : Typed P (d + 1) t us) : us.length = P.cellsOf t ∧ ∀ f ∈ fs.toList, Typed P d f.type ((us.drop f.offset).take (P.cellsOf f.type)) := by
  simp only [Typed, hu] at h
  exact h
theorem map_of {α : Type} {P : List U → Prop} {Q : α → Prop} (f : α → List U) : ∀ {xs : List (List U)}, (∀ x ∈ xs, ∃ r, x = f r ∧ Q r) → ∃ l : List α, xs = l.map f ∧ ∀ r ∈ l, Q r
  | [], _ => ⟨[], rfl, by simp⟩
  | x :: xs, h => by
    obtain ⟨r, e, q⟩ := h x (by simp)
    obtain ⟨l, hl, hq⟩ := map_of (P := P) f (xs := xs) (fun y hy => h y (by simp [hy]))
    exact ⟨r :: l, by rw [List.map_cons, e, hl], fun y hy => by
      rcases List.mem_cons.1 hy with rfl | hy
      · exact q
      · exact hq y hy⟩
theorem typed_sl {α : Type} {Q : α → Prop} {f : α → List U} {t e : TypeId} (hu : P.underlying t = some (.slice e)) {d : Nat} {u : U} (hf : ∀ x, Typed P d e x → ∃ r, x = f r ∧ Q r) (h : Typed P (d + 1) t [u]) : ∃ l : List α, u = .sl true (l.map f) ∧ l.length < 9223372036854775808 ∧ ∀ x ∈ l, Q x := by
  obtain ⟨xs, e, hm, h⟩ := typed_slice hu h
  obtain ⟨l, hl, hq⟩ := map_of (P := fun _ => True) f (xs := xs) (fun x hx => hf x (h x hx).1)
  injection e with e
  refine ⟨l, by rw [e, hl], ?_, hq⟩
  rw [hl, List.length_map] at hm
  simp only [maxLen] at hm
  omega
end
theorem len2 : ∀ {us : List U}, us.length = 2 → ∃ a b, us = [a, b]
  | [a, b], _ => ⟨a, b, rfl⟩
theorem len3 : ∀ {us : List U}, us.length = 3 → ∃ a b c, us = [a, b, c]
  | [a, b, c], _ => ⟨a, b, c, rfl⟩
theorem len4 : ∀ {us : List U}, us.length = 4 → ∃ a b c d, us = [a, b, c, d]
  | [a, b, c, d], _ => ⟨a, b, c, d, rfl⟩
attribute [local irreducible] Typed
theorem c1 : Tryd.prog.cellsOf 3 = 1 := by kernel_rfl
theorem c2 : Tryd.prog.cellsOf 2 = 1 := by kernel_rfl
theorem c51 : Tryd.prog.cellsOf 51 = 1 := by kernel_rfl
theorem c52 : Tryd.prog.cellsOf 52 = 1 := by kernel_rfl
theorem c22 : Tryd.prog.cellsOf 22 = 1 := by kernel_rfl
theorem c23 : Tryd.prog.cellsOf 23 = 1 := by kernel_rfl
theorem c67 : Tryd.prog.cellsOf 67 = 2 := by kernel_rfl
theorem c54 : Tryd.prog.cellsOf 54 = 4 := by kernel_rfl
theorem c56 : Tryd.prog.cellsOf 56 = 2 := by kernel_rfl
theorem c25 : Tryd.prog.cellsOf 25 = 3 := by kernel_rfl
theorem typed_src {d : Nat} {us : List U} (h : Typed Tryd.prog (d + 2) 67 us) : ∃ s : Int × Int, us = srcC s ∧ SrcR s := by
  obtain ⟨hl, h⟩ := typed_struct Tryd.underlying67 h
  replace hl := hl.trans c67
  obtain ⟨a, b, rfl⟩ := len2 hl
  have k1 := h _ (List.mem_cons_self ..)
  have k2 := h _ (List.mem_cons_of_mem _ (List.mem_cons_self ..))
  simp only [c1, c2, List.drop, List.take] at k1 k2
  obtain ⟨n1, e1, r1⟩ := typed_i64 Tryd.underlying3 k1
  obtain ⟨n2, e2, r2⟩ := typed_i64 Tryd.underlying2 k2
  injection e1 with e1
  injection e2 with e2
  exact ⟨(n1, n2), by rw [e1, e2]; rfl, r1, r2⟩
theorem typed_srcs {d : Nat} {u : U} (h : Typed Tryd.prog (d + 3) 51 [u]) : ∃ l, u = srcsU l ∧ ∀ s ∈ l, SrcR s := by
  obtain ⟨l, e, _, hl⟩ := typed_sl (Q := SrcR) (f := srcC) Tryd.underlying51 (fun x hx => typed_src hx) h
  exact ⟨l, e, hl⟩
theorem typed_outs {d : Nat} {u : U} (h : Typed Tryd.prog (d + 2) 52 [u]) : ∃ l, u = outsU l ∧ ∀ s ∈ l, rng s := by
  obtain ⟨l, e, _, hl⟩ := typed_sl (Q := rng) (f := outC) Tryd.underlying52 (fun x hx => typed_i64 Tryd.underlying3 hx) h
  exact ⟨l, e, hl⟩
theorem typed_node {d : Nat} {us : List U} (h : Typed Tryd.prog (d + 4) 54 us) : ∃ y : FNode, us = nodeC y ∧ NodeR y := by
  obtain ⟨hl, h⟩ := typed_struct Tryd.underlying54 h
  replace hl := hl.trans c54
  obtain ⟨a, b, c, d', rfl⟩ := len4 hl
  have k1 := h _ (List.mem_cons_self ..)
  have k2 := h _ (List.mem_cons_of_mem _ (List.mem_cons_self ..))
  have k3 := h _ (List.mem_cons_of_mem _ (List.mem_cons_of_mem _ (List.mem_cons_self ..)))
  have k4 := h _ (List.mem_cons_of_mem _ (List.mem_cons_of_mem _ (List.mem_cons_of_mem _ (List.mem_cons_self ..))))
  simp only [c1, c2, c51, c52, List.drop, List.take] at k1 k2 k3 k4
  obtain ⟨n1, e1, r1⟩ := typed_i64 Tryd.underlying3 k1
  obtain ⟨n2, e2, r2⟩ := typed_i64 Tryd.underlying2 k2
  obtain ⟨l3, e3, r3⟩ := typed_srcs k3
  obtain ⟨l4, e4, r4⟩ := typed_outs k4
  injection e1 with e1
  injection e2 with e2
  exact ⟨⟨n1, n2, l3, l4⟩, by rw [e1, e2, e3, e4]; rfl, r1, r2, r3, r4⟩
theorem typed_val {d : Nat} {us : List U} (h : Typed Tryd.prog (d + 4) 56 us) : ∃ v : FVal, us = valC v ∧ ValR v := by
  obtain ⟨hl, h⟩ := typed_struct Tryd.underlying56 h
  replace hl := hl.trans c56
  obtain ⟨a, b, rfl⟩ := len2 hl
  have k1 := h _ (List.mem_cons_self ..)
  have k2 := h _ (List.mem_cons_of_mem _ (List.mem_cons_self ..))
  simp only [c1, c51, List.drop, List.take] at k1 k2
  obtain ⟨n1, e1, r1⟩ := typed_i64 Tryd.underlying3 k1
  obtain ⟨l2, e2, r2⟩ := typed_srcs k2
  injection e1 with e1
  exact ⟨⟨n1, l2⟩, by rw [e1, e2]; rfl, r1, r2⟩
theorem typed_form {d : Nat} {us : List U} (h : Typed Tryd.prog (d + 6) 25 us) : ∃ x : FForm, us = formC x ∧ Big x ∧ FormR x := by
  obtain ⟨hl, h⟩ := typed_struct Tryd.underlying25 h
  replace hl := hl.trans c25
  obtain ⟨a, b, c, rfl⟩ := len3 hl
  have k1 := h _ (List.mem_cons_self ..)
  have k2 := h _ (List.mem_cons_of_mem _ (List.mem_cons_self ..))
  have k3 := h _ (List.mem_cons_of_mem _ (List.mem_cons_of_mem _ (List.mem_cons_self ..)))
  simp only [c1, c22, c23, List.drop, List.take] at k1 k2 k3
  obtain ⟨n1, e1, r1⟩ := typed_i64 Tryd.underlying3 k1
  obtain ⟨l2, e2, m2, r2⟩ := typed_sl (Q := NodeR) (f := nodeC) Tryd.underlying22 (fun x hx => typed_node hx) k2
  obtain ⟨l3, e3, m3, r3⟩ := typed_sl (Q := ValR) (f := valC) Tryd.underlying23 (fun x hx => typed_val hx) k3
  injection e1 with e1
  exact ⟨⟨n1, l2, l3⟩, by rw [e1, e2, e3]; rfl, ⟨m2, m3⟩, r1, r2, r3⟩
attribute [local irreducible] TypedA
theorem typed_formA {u : U} (h : TypedA Tryd.prog 8 25 u) : ∃ x : FForm, u = formU x ∧ Big x ∧ FormR x := by
  obtain ⟨cs, rfl, hc⟩ := h.cells (by kernel_rfl)
  obtain ⟨x, rfl, hx⟩ := typed_form (d := 2) hc
  exact ⟨x, rfl, hx⟩
theorem args2' {us : List U} (hl : us.length = 2) (hty : ∀ (j : Nat) t u, [25, 25][j]? = some t → us[j]? = some u → TypedA Tryd.prog 8 t u) : ∃ x y : FForm, us = [formU x, formU y] ∧ Big x ∧ Big y ∧ FormR x ∧ FormR y := by
  obtain ⟨u, v, rfl⟩ := len2 hl
  obtain ⟨x, rfl, hx, rx⟩ := typed_formA (hty 0 25 u rfl rfl)
  obtain ⟨y, rfl, hy, ry⟩ := typed_formA (hty 1 25 v rfl rfl)
  exact ⟨x, y, rfl, hx, hy, rx, ry⟩
theorem law_of {f : Nat} {us : List U} (h : Cl T f us [] (.bool true) []) : ∃ n, M2.call T n f us [] = some (.bool true, []) := by
  obtain ⟨N, h⟩ := h
  exact ⟨N, h N (Nat.le_refl _)⟩
end Go.Proofs.YtbcojbmalcghbaaDoor.M2
