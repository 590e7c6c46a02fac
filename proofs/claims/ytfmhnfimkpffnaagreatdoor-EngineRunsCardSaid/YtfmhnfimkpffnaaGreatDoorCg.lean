/- What the law of chapter 15 knows: its examples, run in the kernel, one function at a time. -/
import Derived.Test.YtfmhnfimkpffnaaGreatDoorCe
import Derived.Test.YtfmhnfimkpffnaaGreatDoorCc
import Derived.KernelRfl
set_option linter.unusedSimpArgs false
set_option linter.unusedVariables false
set_option linter.unusedSectionVars false
namespace Go.Proofs.YtfmhnfimkpffnaaGreatDoor.M2
open Go
theorem beq_dec (x y : Int) : (x == y) = decide (x = y) := by by_cases h : x = y <;> simp [h]
theorem bne_dec (x y : Int) : (x != y) = !decide (x = y) := by by_cases h : x = y <;> simp [h]
theorem wrap_id {n : Int} (h1 : -9223372036854775808 ≤ n) (h2 : n < 9223372036854775808) : IntKind.wrap .i64 n = n := by
  simp only [IntKind.wrap, IntKind.bits, IntKind.signed, Bool.true_and]
  have : (2 : Int) ^ 64 = 18446744073709551616 := by decide
  have : (2 : Int) ^ (64 - 1) = 9223372036854775808 := by decide
  simp only [*]
  split <;> rename_i h <;> simp only [decide_eq_true_eq, ge_iff_le] at h <;> omega
attribute [local simp] ev1 M2.get put A.ev ld sub part elems bin arith un opt idx fillC cellsO splice over newOb sto fillR laidOwn appTo appRow touch touchN touchM touchE touchA plainU flatU plainAs allM rowAt stoRow accM_nil accM_cons accMM_nil accMM_cons frz_int frz_bool frz_str frz_slt frz_nils frz_nilI frz_nilF frz_own frzRow_row frzRow_frow Ob.blw blw_bool blw_int blw_str blw_nils blw_nilI blw_nilF blw_nilp blw_nilm blw_sl blw_own blw_bp blw_rp blw_mp blw_it params
attribute [local simp] frz_agg frz_tup frz_iface frzS_agg frzS_iface accMS_cons frzS_int frzS_bool frzS_str frzS_slt frzS_nils frzS_nilI beq_dec bne_dec
abbrev i64 (n : Int) : U := .int .i64 n
structure FNode where
  op : Int
  n : Int
  args : List (Int × Int)
  outs : List Int
  deriving DecidableEq, Inhabited
structure FVal where
  pos : Int
  src : List (Int × Int)
  deriving DecidableEq, Inhabited
structure FForm where
  entry : Int
  nodes : List FNode
  vals : List FVal
  deriving DecidableEq, Inhabited
def srcC (s : Int × Int) : List U := [i64 s.1, i64 s.2]
def outC (o : Int) : List U := [i64 o]
def srcsU (l : List (Int × Int)) : U := .sl true (l.map srcC)
def outsU (l : List Int) : U := .sl true (l.map outC)
def nodeC (y : FNode) : List U := [i64 y.op, i64 y.n, srcsU y.args, outsU y.outs]
def valC (v : FVal) : List U := [i64 v.pos, srcsU v.src]
def formC (x : FForm) : List U := [i64 x.entry, .sl true (x.nodes.map nodeC), .sl true (x.vals.map valC)]
abbrev formU (x : FForm) : U := .agg (formC x)
theorem take_all {α : Type} {p : α → Prop} {l : List α} {i : Nat} (hi : i < l.length) (h : ∀ y ∈ l.take i, p y) (hp : p l[i]) : ∀ y ∈ l.take (i + 1), p y := fun y hy => by
  rw [List.take_succ_eq_append_getElem hi] at hy
  rcases List.mem_append.1 hy with hy | hy
  · exact h y hy
  · simp only [List.mem_singleton] at hy
    subst hy
    exact hp
theorem take_eq {α : Type} {l m : List α} {i : Nat} (hi : i < l.length) (hj : i < m.length) (h : l.take i = m.take i) (hp : l[i] = m[i]) : l.take (i + 1) = m.take (i + 1) := by
  rw [List.take_succ_eq_append_getElem hi, List.take_succ_eq_append_getElem hj, h, hp]
def rng (n : Int) : Prop := -9223372036854775808 ≤ n ∧ n < 9223372036854775808
def SrcR (s : Int × Int) : Prop := rng s.1 ∧ rng s.2
structure NodeR (y : FNode) : Prop where
  op : rng y.op
  n : rng y.n
  args : ∀ s ∈ y.args, SrcR s
  outs : ∀ o ∈ y.outs, rng o
structure ValR (v : FVal) : Prop where
  pos : rng v.pos
  src : ∀ s ∈ v.src, SrcR s
structure FormR (x : FForm) : Prop where
  entry : rng x.entry
  nodes : ∀ y ∈ x.nodes, NodeR y
  vals : ∀ v ∈ x.vals, ValR v
structure Big (x : FForm) : Prop where
  nodes : x.nodes.length < 9223372036854775808
  vals : x.vals.length < 9223372036854775808
def wideN (y : FNode) : Bool := decide (20 < y.args.length) || decide (20 < y.outs.length)
def greatF (x : FForm) : Bool := x.nodes.any wideN || x.vals.any (fun v => decide (100 < v.src.length)) || decide (60 < x.nodes.length) || decide (200 < x.vals.length)
def gr0S (x : FForm) (i : Nat) : S := ⟨[(1, .bp 0 0), (3, i64 i)], [.box (formC x)]⟩
set_option maxHeartbeats 4000000 in
theorem gr0_loop (x : FForm) (hb : Big x) : Wp T (.loop c_joinerylaw14_Great_L0) (gr0S x 0) (fun _ => False) (Res c_joinerylaw14_Great (.bool (greatF x)))
    (fun b s' => b = 0 ∧ (∀ y ∈ x.nodes, wideN y = false) ∧ s' = ⟨[(1, .bp 0 0), (3, i64 (x.nodes.length : Nat)), (9, .bool false)], [.box (formC x)]⟩) := by
  have hbn := hb.nodes
  refine Wp.count x.nodes.length (fun i => gr0S x i) (fun i => ∀ y ∈ x.nodes.take i, wideN y = false) (fun i hi hI => ?_) (fun hI => ?_) 0 (by omega) (by simp)
  · have hi' : (i : Int) < x.nodes.length := by omega
    have eg : x.nodes[i]? = some x.nodes[i] := List.getElem?_eq_getElem hi
    have hnx := fun h => take_all (p := fun y => wideN y = false) hi hI h
    have hgr : wideN x.nodes[i] = true → greatF x = true := fun h => by
      have : x.nodes.any wideN = true := List.any_eq_true.2 ⟨_, List.getElem_mem hi, h⟩
      simp [greatF, this]
    generalize x.nodes[i] = y at *
    simp only [gr0S]
    (have := fa (a2 @formC.eq_1 hi'); repeat refine Wp.f ?_)
    refine Wp.i ?_ ?_ <;> intro h1
    · by_cases ha : (20 : Int) < y.args.length
      · (have := fa (a5 @formC.eq_1 @nodeC.eq_1 @srcsU.eq_1 @outsU.eq_1 (a3 hi' eg ha)); repeat refine Wp.f ?_)
        refine Wp.i ?_ ?_ <;> intro h2
        · rw [hgr (by simp [wideN]; omega)]
          repeat refine Wp.a ?_
          refine Wp.ret ?_; simp [Res, resU, res1, c_joinerylaw14_Great]
        · cases h2
      · by_cases ho : (20 : Int) < y.outs.length
        · (have := fa (a5 @formC.eq_1 @nodeC.eq_1 @srcsU.eq_1 @outsU.eq_1 (a4 hi' eg ha ho)); repeat refine Wp.f ?_)
          refine Wp.i ?_ ?_ <;> intro h2
          · rw [hgr (by simp [wideN]; omega)]
            repeat refine Wp.a ?_
            refine Wp.ret ?_; simp [Res, resU, res1, c_joinerylaw14_Great]
          · cases h2
        · (have := fa (a5 @formC.eq_1 @nodeC.eq_1 @srcsU.eq_1 @outsU.eq_1 (a4 hi' eg ha ho)); repeat refine Wp.f ?_)
          refine Wp.i ?_ ?_ <;> intro h2
          · cases h2
          · (have := fa @wrap_id; repeat refine Wp.f ?_)
            exact ⟨trimO_len rfl, hnx (by simp [wideN]; omega)⟩
    · cases h1
  · rw [List.take_of_length_le (Nat.le_refl _)] at hI
    simp only [gr0S]
    (have := fa @formC.eq_1; repeat refine Wp.f ?_)
    refine Wp.i ?_ ?_ <;> intro h1
    · simp at h1
    · exact Wp.exit ⟨rfl, hI, rfl⟩
def gr1S (x : FForm) (i : Nat) : S := ⟨[(1, .bp 0 0), (4, i64 i)], [.box (formC x)]⟩
set_option maxHeartbeats 4000000 in
theorem gr1_loop (x : FForm) (hb : Big x) : Wp T (.loop c_joinerylaw14_Great_L1) (gr1S x 0) (fun _ => False) (Res c_joinerylaw14_Great (.bool (greatF x)))
    (fun b s' => b = 2 ∧ (∀ y ∈ x.vals, decide (100 < y.src.length) = false) ∧ s' = ⟨[(1, .bp 0 0), (4, i64 (x.vals.length : Nat)), (34, .bool false)], [.box (formC x)]⟩) := by
  have hbn := hb.vals
  refine Wp.count x.vals.length (fun i => gr1S x i) (fun i => ∀ y ∈ x.vals.take i, decide (100 < y.src.length) = false) (fun i hi hI => ?_) (fun hI => ?_) 0 (by omega) (by simp)
  · have hi' : (i : Int) < x.vals.length := by omega
    have eg : x.vals[i]? = some x.vals[i] := List.getElem?_eq_getElem hi
    have hnx := fun h => take_all (p := fun y => decide (100 < y.src.length) = false) hi hI h
    have hgr : decide (100 < x.vals[i].src.length) = true → greatF x = true := fun h => by
      have : x.vals.any (fun v => decide (100 < v.src.length)) = true := List.any_eq_true.2 ⟨_, List.getElem_mem hi, h⟩
      simp [greatF, this]
    generalize x.vals[i] = y at *
    simp only [gr1S]
    (have := fa (a2 @formC.eq_1 hi'); repeat refine Wp.f ?_)
    refine Wp.i ?_ ?_ <;> intro h1
    · by_cases ha : (100 : Int) < y.src.length
      · (have := fa (a5 @formC.eq_1 @valC.eq_1 @srcsU.eq_1 hi' (a2 eg ha)); repeat refine Wp.f ?_)
        refine Wp.i ?_ ?_ <;> intro h2
        · rw [hgr (by simp; omega)]
          repeat refine Wp.a ?_
          refine Wp.ret ?_; simp [Res, resU, res1, c_joinerylaw14_Great]
        · cases h2
      · (have := fa (a5 @formC.eq_1 @valC.eq_1 @srcsU.eq_1 hi' (a2 eg ha)); repeat refine Wp.f ?_)
        refine Wp.i ?_ ?_ <;> intro h2
        · cases h2
        · (have := fa @wrap_id; repeat refine Wp.f ?_)
          exact ⟨trimO_len rfl, hnx (by simp; omega)⟩
    · cases h1
  · rw [List.take_of_length_le (Nat.le_refl _)] at hI
    simp only [gr1S]
    (have := fa @formC.eq_1; repeat refine Wp.f ?_)
    refine Wp.i ?_ ?_ <;> intro h1
    · simp at h1
    · exact Wp.exit ⟨rfl, hI, rfl⟩
set_option maxHeartbeats 4000000 in
theorem great_call (x : FForm) (hb : Big x) (st : List Ob) : Cl T n_joinerylaw14_Great [formU x] st (.bool (greatF x)) st := by
  refine Wp.pure (fn := c_joinerylaw14_Great) rfl rfl rfl («as» := [formU x]) rfl ?_
  repeat refine Wp.a ?_
  refine (show Wp T (.loop c_joinerylaw14_Great_L0) (gr0S x 0) _ _ _ from (gr0_loop x hb).imp (fun _ h => h.elim) (fun _ h => h) ?_)
  rintro b s ⟨rfl, hn, rfl⟩
  rw [if_pos rfl]
  repeat refine Wp.a ?_
  refine (show Wp T (.loop c_joinerylaw14_Great_L1) (gr1S x 0) _ _ _ from (gr1_loop x hb).imp (fun _ h => h.elim) (fun _ h => h) ?_)
  rintro b s ⟨rfl, hv, rfl⟩
  rw [if_pos rfl]
  have e1 : x.nodes.any wideN = false := by rw [List.any_eq_false]; simpa using hn
  have e2 : x.vals.any (fun v => decide (100 < v.src.length)) = false := by rw [List.any_eq_false]; simpa using hv
  have hg : greatF x = (decide (60 < x.nodes.length) || decide (200 < x.vals.length)) := by simp [greatF, e1, e2]
  rw [hg]
  by_cases h1 : (60 : Int) < x.nodes.length
  · have : decide (60 < x.nodes.length) = true := decide_eq_true (by omega)
    rw [this]
    (have := fa (a2 @formC.eq_1 h1); repeat refine Wp.f ?_)
    refine Wp.ret ?_; simp [Res, resU, res1, c_joinerylaw14_Great]
  · have : decide (60 < x.nodes.length) = false := decide_eq_false (by omega)
    rw [this]
    by_cases h2 : (200 : Int) < x.vals.length
    · have : decide (200 < x.vals.length) = true := decide_eq_true (by omega)
      rw [this]
      (have := fa (a3 @formC.eq_1 h1 h2); repeat refine Wp.f ?_)
      refine Wp.ret ?_; simp [Res, resU, res1, c_joinerylaw14_Great]
    · have : decide (200 < x.vals.length) = false := decide_eq_false (by omega)
      rw [this]
      (have := fa (a3 @formC.eq_1 h1 h2); repeat refine Wp.f ?_)
      refine Wp.ret ?_; simp [Res, resU, res1, c_joinerylaw14_Great]
structure Small (x : FForm) : Prop where
  nodes : x.nodes.length ≤ 60
  vals : x.vals.length ≤ 200
  args : ∀ y ∈ x.nodes, y.args.length ≤ 20
  outs : ∀ y ∈ x.nodes, y.outs.length ≤ 20
  src : ∀ v ∈ x.vals, v.src.length ≤ 100
theorem small_of {x : FForm} (h : greatF x = false) : Small x := by
  simp only [greatF, Bool.or_eq_false_iff, List.any_eq_false, wideN, Bool.or_eq_true, decide_eq_true_eq, not_or, decide_eq_false_iff_not, Nat.not_lt] at h
  obtain ⟨⟨⟨h1, h2⟩, h3⟩, h4⟩ := h
  exact ⟨h3, h4, fun y hy => (h1 y hy).1, fun y hy => (h1 y hy).2, h2⟩
end Go.Proofs.YtfmhnfimkpffnaaGreatDoor.M2
namespace Go.Proofs.YtfmhnfimkpffnaaGreatDoor.M2
open Go
def all2 {α β : Type} (f : α → β → Bool) : List α → List β → Bool
  | [], [] => true
  | a :: av, b :: bs => f a b && all2 f av bs
  | _, _ => false
theorem all2_ok {α : Type} {f : α → α → Bool} (h : ∀ a b, f a b = true → a = b) : ∀ {av bs : List α}, all2 f av bs = true → av = bs
  | [], [], _ => rfl
  | [], _ :: _, k => by simp [all2] at k
  | _ :: _, [], k => by simp [all2] at k
  | a :: av, b :: bs, k => by
    simp only [all2, Bool.and_eq_true] at k
    rw [h a b k.1, all2_ok h k.2]
def ueqD : Nat → U → U → Bool
  | 0, _, _ => false
  | d + 1, a, b => match a, b with
    | .sl p xs, .sl q ys => (p == q) && all2 (all2 (ueqD d)) xs ys
    | .agg xs, .agg ys => all2 (ueqD d) xs ys
    | .tup xs, .tup ys => all2 (ueqD d) xs ys
    | .str s, .str t => all2 (fun a b => Nat.beq a.toNat b.toNat) s t
    | .iface t x, .iface t' y => Nat.beq t t' && ueqD d x y
    | a, b => ueq1 a b
theorem ueqD_ok : ∀ {d : Nat} {a b : U}, ueqD d a b = true → a = b
  | 0, _, _, h => by simp [ueqD] at h
  | d + 1, a, b, h => by
    unfold ueqD at h
    split at h
    · simp only [Bool.and_eq_true, beq_iff_eq] at h
      rw [h.1, all2_ok (fun _ _ k => all2_ok (fun _ _ k => ueqD_ok k) k) h.2]
    · rw [all2_ok (fun _ _ k => ueqD_ok k) h]
    · rw [all2_ok (fun _ _ k => ueqD_ok k) h]
    · rw [all2_ok (fun a b k => UInt8.toNat_inj.1 (Nat.eq_of_beq_eq_true k)) h]
    · simp only [Bool.and_eq_true] at h
      rw [Nat.eq_of_beq_eq_true h.1, ueqD_ok h.2]
    · exact ueq1_ok h
abbrev Orc := Nat → List U → Option U
section
variable (T : Nat → Option F)
def OrcOK (q : Orc) (M : Nat) : Prop := ∀ f bs u, q f bs = some u → ∀ av st, allM (brwA frzD st) av = some bs → M2.call T M f av st = some (u, st)
def evQ (q : Orc) : Nat → C → S → Option (X × S)
  | 0 => fun _ _ => none
  | n + 1 => evC (fun f => (T f).any (·.pure)) (fun f av st => match (allM (brwA frzD st) av).bind (q f) with | some u => some (u, st) | none => callF T (evQ q n) f av st) (evQ q n)
def callQ (q : Orc) (n : Nat) : Nat → List U → List Ob → Option (U × List Ob) := callF T (evQ T q n)
variable {T}
theorem evQ_ok {q : Orc} {M : Nat} (h : OrcOK T q M) : ∀ (n : Nat) (c : C) (s : S) (r : X × S), evQ T q n c s = some r → ev T (n + M) c s = some r
  | 0, c, s, r, k => by simp [evQ] at k
  | n + 1, c, s, r, k => by
    rw [show n + 1 + M = (n + M) + 1 by omega]
    refine evC_mono (fun f av st r k => ?_) (fun c s r k => evQ_ok h n c s r k) k
    cases hq : (allM (brwA frzD st) av).bind (q f) with
    | some u =>
      rw [hq] at k
      cases k
      obtain ⟨bs, hb, hu⟩ := Option.bind_eq_some_iff.1 hq
      exact call_mono (Nat.le_add_left M n) (h f bs u hu av st hb)
    | none =>
      rw [hq] at k
      exact callF_mono (fun c s r k => evQ_ok h n c s r k) k
theorem callQ_ok {q : Orc} {M n : Nat} (h : OrcOK T q M) {f : Nat} {av : List U} {st : List Ob} {r : U × List Ob} (k : callQ T q n f av st = some r) : M2.call T (n + M) f av st = some r :=
  callF_mono (fun c s r k => evQ_ok h n c s r k) k
def tl (f : Nat) (av : List U) (u : U) : Orc := fun g bs => if Nat.beq g f then (if all2 (ueqD 12) av bs then some u else none) else none
def qor (q r : Orc) : Orc := fun g bs => match q g bs with
  | some u => some u
  | none => r g bs
theorem orc_nil {M : Nat} : OrcOK T (fun _ _ => none) M := fun _ _ _ h => by cases h
theorem allM_length {α β : Type} {f : α → Option β} : ∀ {l : List α} {m : List β}, allM f l = some m → m.length = l.length
  | [], m, h => by cases h; rfl
  | x :: l, m, h => by
    unfold allM at h
    obtain ⟨y, _, h⟩ := Option.bind_eq_some_iff.1 h
    obtain ⟨ys, h1, h⟩ := Option.bind_eq_some_iff.1 h
    cases h
    simp [allM_length h1]
theorem call_brw {n f : Nat} {av bs : List U} {u : U} {st : List Ob} (h : M2.call T n f bs st = some (u, st)) (hp : (T f).any (·.pure) = true) (hb : allM (brwA frzD st) bs = some bs) (ha : allM (brwA frzD st) av = some bs) : M2.call T n f av st = some (u, st) := by
  unfold M2.call callF at h ⊢
  cases hf : T f with
  | none => rw [hf] at hp; simp at hp
  | some fn =>
    rw [hf] at h hp
    simp only [Option.any_some] at hp
    simp only [Option.bind_some, hp, if_true, hb, ha] at h ⊢
    rw [allM_length ha] at h
    exact h
theorem orc_tl {f : Nat} {av : List U} {u : U} {M : Nat} (h : ∀ st, M2.call T M f av st = some (u, st)) (hp : (T f).any (·.pure) = true) (hb : ∀ st, allM (brwA frzD st) av = some av) : OrcOK T (tl f av u) M := by
  intro g bs v k cs st hc
  unfold tl at k
  split at k
  · rename_i h1
    split at k
    · rename_i h2
      cases k
      rw [← all2_ok (fun _ _ k => ueqD_ok k) h2] at hc
      rw [Nat.eq_of_beq_eq_true h1]
      exact call_brw (h st) hp (hb st) hc
    · cases k
  · cases k
theorem orc_or {q r : Orc} {M N : Nat} (h1 : OrcOK T q M) (h2 : OrcOK T r N) : OrcOK T (qor q r) (M + N) := by
  intro f bs u k av st ha
  unfold qor at k
  split at k
  · rename_i hq
    cases k
    exact call_mono (Nat.le_add_right M N) (h1 f bs _ hq av st ha)
  · exact call_mono (Nat.le_add_left N M) (h2 f bs _ k av st ha)
def isU (r : Option (U × List Ob)) (u : U) : Bool := match r with
  | some (v, []) => ueqD 12 v u
  | _ => false
theorem isU_ok {r : Option (U × List Ob)} {u : U} (h : isU r u = true) : r = some (u, []) := by
  unfold isU at h
  split at h
  · rw [ueqD_ok h]
  · cases h
theorem told0 {n f : Nat} {us : List U} {u : U} (h : M2.call T n f us [] = some (u, [])) (hp : (T f).any (·.pure) = true) (hb : ∀ st, allM (brwA frzD st) us = some us) (st : List Ob) : M2.call T n f us st = some (u, st) := by
  unfold M2.call callF at h ⊢
  cases hf : T f with
  | none => rw [hf] at hp; simp at hp
  | some fn =>
    rw [hf] at h hp
    simp only [Option.any_some] at hp
    simp only [Option.bind_some] at h ⊢
    split at h
    · rename_i hl
      rw [if_pos hl, if_pos hp]
      simp only [hp, if_true, hb, Option.bind_some, Option.bind_eq_some_iff] at h ⊢
      obtain ⟨x, k1, k2⟩ := h
      refine ⟨x, k1, ?_⟩
      split at k2
      · rename_i he
        rw [if_pos he]
        simp only [Option.bind_eq_some_iff] at k2 ⊢
        obtain ⟨v, m1, y, m2, m3⟩ := k2
        refine ⟨v, m1, y, m2, ?_⟩
        cases m3
        rfl
      · cases k2
    · cases h
def Told (T : Nat → Option F) (f : Nat) (us : List U) (u : U) : Prop := ∃ n, ∀ st, M2.call T n f us st = some (u, st)
def Orcs (T : Nat → Option F) (q : Orc) : Prop := ∃ M, OrcOK T q M
theorem told {n f : Nat} {us : List U} {u : U} (h : isU (M2.call T n f us []) u = true) (hp : (T f).any (·.pure) = true) (hb : ∀ st, allM (brwA frzD st) us = some us) : Told T f us u := ⟨n, told0 (isU_ok h) hp hb⟩
theorem toldQ {q : Orc} {n f : Nat} {us : List U} {u : U} (hq : Orcs T q) (h : isU (callQ T q n f us []) u = true) (hp : (T f).any (·.pure) = true) (hb : ∀ st, allM (brwA frzD st) us = some us) : Told T f us u := by
  obtain ⟨M, hq⟩ := hq
  exact ⟨n + M, told0 (callQ_ok hq (isU_ok h)) hp hb⟩
theorem Told.call {f : Nat} {us : List U} {u : U} (h : Told T f us u) (st : List Ob) : Cl T f us st u st := by
  obtain ⟨n, h⟩ := h
  exact ⟨n, fun m hm => call_mono hm (h st)⟩
theorem orcs_tl {f : Nat} {av : List U} {u : U} (h : Told T f av u) (hp : (T f).any (·.pure) = true) (hb : ∀ st, allM (brwA frzD st) av = some av) : Orcs T (tl f av u) := by
  obtain ⟨n, h⟩ := h
  exact ⟨n, orc_tl h hp hb⟩
theorem orcs_or {q r : Orc} (h1 : Orcs T q) (h2 : Orcs T r) : Orcs T (qor q r) := by
  obtain ⟨n, h1⟩ := h1
  obtain ⟨m, h2⟩ := h2
  exact ⟨n + m, orc_or h1 h2⟩
end
end Go.Proofs.YtfmhnfimkpffnaaGreatDoor.M2
namespace Go.Proofs.YtfmhnfimkpffnaaGreatDoor.M2
open Go
attribute [local simp] ev1 M2.get put A.ev ld sub part elems bin arith un opt idx fillC cellsO splice over newOb sto fillR laidOwn appTo appRow touch touchN touchM touchE touchA plainU flatU plainAs allM rowAt stoRow accM_nil accM_cons accMM_nil accMM_cons frz_int frz_bool frz_str frz_slt frz_nils frz_nilI frz_nilF frz_own frzRow_row frzRow_frow Ob.blw blw_bool blw_int blw_str blw_nils blw_nilI blw_nilF blw_nilp blw_nilm blw_sl blw_own blw_bp blw_rp blw_mp blw_it params
attribute [local simp] frz_agg frz_tup frz_iface frzS_agg frzS_iface accMS_cons frzS_int frzS_bool frzS_str frzS_slt frzS_nils frzS_nilI beq_dec bne_dec
theorem src_same (a b : Int × Int) : sameV (.tst [(1, .ti), (1, .ti)]) (.agg (srcC a)) (.agg (srcC b)) = some (decide (a = b)) := by
  obtain ⟨a1, a2⟩ := a
  obtain ⟨b1, b2⟩ := b
  simp only [sameV, cellsS, Option.bind_some, srcC, sameD, same, same.fields, List.length_cons, List.length_nil, List.take, List.drop, i64, Prod.mk.injEq]
  by_cases h1 : a1 = b1
  · by_cases h2 : a2 = b2 <;> simp [h1, h2]
  · simp [h1]
theorem srcC_len (s : Int × Int) : (srcC s).length = 2 := rfl
theorem srcC_take (s : Int × Int) : (srcC s).take 2 = srcC s := rfl
theorem srcC_over (s : Int × Int) (a b : U) : over (srcC s) [a, b] = srcC s := rfl
end Go.Proofs.YtfmhnfimkpffnaaGreatDoor.M2
namespace Go.Proofs.YtfmhnfimkpffnaaGreatDoor.M2
open Go
def kv0 : U := .str [109, 111, 118, 32, 115, 48, 32, 114, 48, 10, 99, 97, 108, 108, 32, 114, 49, 32, 114, 48, 32, 55, 10, 109, 111, 118, 32, 114, 50, 32, 115, 48, 10, 114, 101, 116, 32, 114, 50, 10]
def kv1 : U := .tup [.sl true [[i64 (2), i64 (8), i64 (0), i64 (0), i64 (0), i64 (0)], [i64 (15), i64 (1), i64 (0), i64 (0), i64 (7), i64 (0)], [i64 (2), i64 (2), i64 (8), i64 (0), i64 (0), i64 (0)], [i64 (18), i64 (0), i64 (2), i64 (0), i64 (0), i64 (0)]], i64 (0), i64 (0)]
set_option maxRecDepth 100000 in
theorem k0_run : isU (callQ T (fun _ _ => none) 80 n_asm_Parse [kv0] []) kv1 = true := by kernel_rfl
theorem k0_brw (st : List Ob) : allM (brwA frzD st) [kv0] = some [kv0] := rfl
theorem k0_told : Told T n_asm_Parse [kv0] kv1 := toldQ ⟨0, orc_nil⟩ k0_run rfl k0_brw
def kq0 : Orc := tl n_asm_Parse [kv0] kv1
theorem kq0_ok : Orcs T kq0 := orcs_tl k0_told rfl k0_brw
def kv2 : U := .sl true [[i64 (2), i64 (8), i64 (0), i64 (0), i64 (0), i64 (0)], [i64 (15), i64 (1), i64 (0), i64 (0), i64 (7), i64 (0)], [i64 (2), i64 (2), i64 (8), i64 (0), i64 (0), i64 (0)], [i64 (18), i64 (0), i64 (2), i64 (0), i64 (0), i64 (0)]]
set_option maxRecDepth 100000 in
theorem k1_run : isU (callQ T kq0 80 n_asm_Right [kv2] []) (.bool true) = true := by kernel_rfl
theorem k1_brw (st : List Ob) : allM (brwA frzD st) [kv2] = some [kv2] := rfl
theorem k1_told : Told T n_asm_Right [kv2] (.bool true) := toldQ kq0_ok k1_run rfl k1_brw
def kq1 : Orc := qor (tl n_asm_Right [kv2] (.bool true)) kq0
theorem kq1_ok : Orcs T kq1 := orcs_or (orcs_tl k1_told rfl k1_brw) kq0_ok
def kv3 : U := .sl false [[.bool false], [.bool false], [.bool false], [.bool false]]
def kv4 : U := .tup [.agg [i64 (0), .iface 204 (.agg [i64 (0)]), .iface 204 (.agg [i64 (1)]), .iface 204 (.agg [i64 (2)]), .iface 204 (.agg [i64 (3)]), .iface 204 (.agg [i64 (4)]), .iface 204 (.agg [i64 (5)]), .iface 204 (.agg [i64 (6)]), .iface 204 (.agg [i64 (7)]), .iface 204 (.agg [i64 (0)]), .iface 204 (.agg [i64 (9)]), .iface 204 (.agg [i64 (10)]), .iface 204 (.agg [i64 (11)]), .iface 204 (.agg [i64 (12)]), .iface 204 (.agg [i64 (13)]), .iface 204 (.agg [i64 (14)]), .iface 204 (.agg [i64 (15)]), .iface 204 (.agg [i64 (16)]), .iface 204 (.agg [i64 (17)]), .iface 204 (.agg [i64 (18)]), .iface 204 (.agg [i64 (19)]), .iface 204 (.agg [i64 (20)]), .iface 204 (.agg [i64 (21)]), .iface 204 (.agg [i64 (22)]), .iface 204 (.agg [i64 (23)]), .sl true [[i64 (1), .sl true [[i64 (1), .iface 204 (.agg [i64 (0)]), .iface 204 (.agg [i64 (1)]), .iface 204 (.agg [i64 (8)]), .iface 204 (.agg [i64 (3)]), .iface 204 (.agg [i64 (4)]), .iface 204 (.agg [i64 (5)]), .iface 204 (.agg [i64 (6)]), .iface 204 (.agg [i64 (7)]), .iface 204 (.agg [i64 (8)]), .iface 204 (.agg [i64 (9)]), .iface 204 (.agg [i64 (10)]), .iface 204 (.agg [i64 (11)]), .iface 204 (.agg [i64 (12)]), .iface 204 (.agg [i64 (13)]), .iface 204 (.agg [i64 (14)]), .iface 204 (.agg [i64 (15)]), .iface 204 (.agg [i64 (16)]), .iface 204 (.agg [i64 (17)]), .iface 204 (.agg [i64 (18)]), .iface 204 (.agg [i64 (19)]), .iface 204 (.agg [i64 (20)]), .iface 204 (.agg [i64 (21)]), .iface 204 (.agg [i64 (22)]), .iface 204 (.agg [i64 (23)])]]], [i64 (3), .sl true []]]], i64 (0)]
set_option maxRecDepth 100000 in
theorem k2_run : isU (callQ T kq1 80 n_skel_Build [kv2, kv3] []) kv4 = true := by kernel_rfl
theorem k2_brw (st : List Ob) : allM (brwA frzD st) [kv2, kv3] = some [kv2, kv3] := rfl
theorem k2_told : Told T n_skel_Build [kv2, kv3] kv4 := toldQ kq1_ok k2_run rfl k2_brw
def kq2 : Orc := qor (tl n_skel_Build [kv2, kv3] kv4) kq1
theorem kq2_ok : Orcs T kq2 := orcs_or (orcs_tl k2_told rfl k2_brw) kq1_ok
def kv5 : U := .sl false [[.bool false], [.bool false], [.bool false], [.bool true]]
set_option maxRecDepth 100000 in
theorem k3_run : isU (callQ T kq2 80 n_skel_Build [kv2, kv5] []) kv4 = true := by kernel_rfl
theorem k3_brw (st : List Ob) : allM (brwA frzD st) [kv2, kv5] = some [kv2, kv5] := rfl
theorem k3_told : Told T n_skel_Build [kv2, kv5] kv4 := toldQ kq2_ok k3_run rfl k3_brw
def kq3 : Orc := qor (tl n_skel_Build [kv2, kv5] kv4) kq2
theorem kq3_ok : Orcs T kq3 := orcs_or (orcs_tl k3_told rfl k3_brw) kq2_ok
def kv6 : U := .agg [i64 (0), .iface 204 (.agg [i64 (0)]), .iface 204 (.agg [i64 (1)]), .iface 204 (.agg [i64 (2)]), .iface 204 (.agg [i64 (3)]), .iface 204 (.agg [i64 (4)]), .iface 204 (.agg [i64 (5)]), .iface 204 (.agg [i64 (6)]), .iface 204 (.agg [i64 (7)]), .iface 204 (.agg [i64 (0)]), .iface 204 (.agg [i64 (9)]), .iface 204 (.agg [i64 (10)]), .iface 204 (.agg [i64 (11)]), .iface 204 (.agg [i64 (12)]), .iface 204 (.agg [i64 (13)]), .iface 204 (.agg [i64 (14)]), .iface 204 (.agg [i64 (15)]), .iface 204 (.agg [i64 (16)]), .iface 204 (.agg [i64 (17)]), .iface 204 (.agg [i64 (18)]), .iface 204 (.agg [i64 (19)]), .iface 204 (.agg [i64 (20)]), .iface 204 (.agg [i64 (21)]), .iface 204 (.agg [i64 (22)]), .iface 204 (.agg [i64 (23)]), .sl true [[i64 (1), .sl true [[i64 (1), .iface 204 (.agg [i64 (0)]), .iface 204 (.agg [i64 (1)]), .iface 204 (.agg [i64 (8)]), .iface 204 (.agg [i64 (3)]), .iface 204 (.agg [i64 (4)]), .iface 204 (.agg [i64 (5)]), .iface 204 (.agg [i64 (6)]), .iface 204 (.agg [i64 (7)]), .iface 204 (.agg [i64 (8)]), .iface 204 (.agg [i64 (9)]), .iface 204 (.agg [i64 (10)]), .iface 204 (.agg [i64 (11)]), .iface 204 (.agg [i64 (12)]), .iface 204 (.agg [i64 (13)]), .iface 204 (.agg [i64 (14)]), .iface 204 (.agg [i64 (15)]), .iface 204 (.agg [i64 (16)]), .iface 204 (.agg [i64 (17)]), .iface 204 (.agg [i64 (18)]), .iface 204 (.agg [i64 (19)]), .iface 204 (.agg [i64 (20)]), .iface 204 (.agg [i64 (21)]), .iface 204 (.agg [i64 (22)]), .iface 204 (.agg [i64 (23)])]]], [i64 (3), .sl true []]]]
set_option maxRecDepth 100000 in
theorem k4_run : isU (callQ T kq3 80 n_value_built [kv2, kv6] []) (.bool true) = true := by kernel_rfl
theorem k4_brw (st : List Ob) : allM (brwA frzD st) [kv2, kv6] = some [kv2, kv6] := rfl
theorem k4_told : Told T n_value_built [kv2, kv6] (.bool true) := toldQ kq3_ok k4_run rfl k4_brw
def kq4 : Orc := qor (tl n_value_built [kv2, kv6] (.bool true)) kq3
theorem kq4_ok : Orcs T kq4 := orcs_or (orcs_tl k4_told rfl k4_brw) kq3_ok
def kv7 : U := .sl true [[.sl true [[i64 (-1), i64 (0)]]], [.sl true [[i64 (0), i64 (0)]]]]
set_option maxRecDepth 100000 in
theorem k5_run : isU (callQ T kq4 80 n_skel_Ways [kv6] []) kv7 = true := by kernel_rfl
theorem k5_brw (st : List Ob) : allM (brwA frzD st) [kv6] = some [kv6] := rfl
theorem k5_told : Told T n_skel_Ways [kv6] kv7 := toldQ kq4_ok k5_run rfl k5_brw
def kq5 : Orc := qor (tl n_skel_Ways [kv6] kv7) kq4
theorem kq5_ok : Orcs T kq5 := orcs_or (orcs_tl k5_told rfl k5_brw) kq4_ok
def kv8 : U := .sl true [[.sl true [[.sl true [[i64 (1), i64 (0)], [i64 (1), i64 (1)], [i64 (1), i64 (2)], [i64 (1), i64 (3)], [i64 (1), i64 (4)], [i64 (1), i64 (5)], [i64 (1), i64 (6)], [i64 (1), i64 (7)], [i64 (1), i64 (0)], [i64 (0), i64 (0)], [i64 (0), i64 (0)], [i64 (0), i64 (0)], [i64 (0), i64 (0)], [i64 (0), i64 (0)], [i64 (0), i64 (0)], [i64 (0), i64 (0)], [i64 (0), i64 (0)], [i64 (0), i64 (0)], [i64 (0), i64 (0)], [i64 (0), i64 (0)], [i64 (0), i64 (0)], [i64 (0), i64 (0)], [i64 (0), i64 (0)], [i64 (0), i64 (0)]]]]], [.sl true [[.sl true [[i64 (4), i64 (0)], [i64 (3), i64 (0)], [i64 (4), i64 (8)], [i64 (4), i64 (3)], [i64 (4), i64 (4)], [i64 (4), i64 (5)], [i64 (4), i64 (6)], [i64 (4), i64 (7)], [i64 (4), i64 (8)], [i64 (4), i64 (9)], [i64 (4), i64 (10)], [i64 (4), i64 (11)], [i64 (4), i64 (12)], [i64 (4), i64 (13)], [i64 (4), i64 (14)], [i64 (4), i64 (15)], [i64 (4), i64 (16)], [i64 (4), i64 (17)], [i64 (4), i64 (18)], [i64 (4), i64 (19)], [i64 (4), i64 (20)], [i64 (4), i64 (21)], [i64 (4), i64 (22)], [i64 (4), i64 (23)]]]]]]
set_option maxRecDepth 100000 in
theorem k6_run : isU (callQ T kq5 80 n_value_All [kv2, kv6] []) kv8 = true := by kernel_rfl
theorem k6_brw (st : List Ob) : allM (brwA frzD st) [kv2, kv6] = some [kv2, kv6] := rfl
theorem k6_told : Told T n_value_All [kv2, kv6] kv8 := toldQ kq5_ok k6_run rfl k6_brw
def kq6 : Orc := qor (tl n_value_All [kv2, kv6] kv8) kq5
theorem kq6_ok : Orcs T kq6 := orcs_or (orcs_tl k6_told rfl k6_brw) kq5_ok
def kv9 : U := .sl true [[.sl true [[i64 (4), i64 (0)], [i64 (4), i64 (1)], [i64 (4), i64 (2)], [i64 (4), i64 (3)], [i64 (4), i64 (4)], [i64 (4), i64 (5)], [i64 (4), i64 (6)], [i64 (4), i64 (7)], [i64 (4), i64 (8)], [i64 (0), i64 (0)], [i64 (0), i64 (0)], [i64 (0), i64 (0)], [i64 (0), i64 (0)], [i64 (0), i64 (0)], [i64 (0), i64 (0)], [i64 (0), i64 (0)], [i64 (0), i64 (0)], [i64 (0), i64 (0)], [i64 (0), i64 (0)], [i64 (0), i64 (0)], [i64 (0), i64 (0)], [i64 (0), i64 (0)], [i64 (0), i64 (0)], [i64 (0), i64 (0)]]], [.sl true [[i64 (4), i64 (0)], [i64 (4), i64 (1)], [i64 (4), i64 (2)], [i64 (4), i64 (3)], [i64 (4), i64 (4)], [i64 (4), i64 (5)], [i64 (4), i64 (6)], [i64 (4), i64 (7)], [i64 (4), i64 (8)], [i64 (0), i64 (0)], [i64 (0), i64 (0)], [i64 (0), i64 (0)], [i64 (0), i64 (0)], [i64 (0), i64 (0)], [i64 (0), i64 (0)], [i64 (0), i64 (0)], [i64 (0), i64 (0)], [i64 (0), i64 (0)], [i64 (0), i64 (0)], [i64 (0), i64 (0)], [i64 (0), i64 (0)], [i64 (0), i64 (0)], [i64 (0), i64 (0)], [i64 (0), i64 (0)]]]]
set_option maxRecDepth 100000 in
theorem k7_run : isU (callQ T kq6 80 n_value_Facts [kv2, kv6] []) kv9 = true := by kernel_rfl
theorem k7_brw (st : List Ob) : allM (brwA frzD st) [kv2, kv6] = some [kv2, kv6] := rfl
theorem k7_told : Told T n_value_Facts [kv2, kv6] kv9 := toldQ kq6_ok k7_run rfl k7_brw
def kq7 : Orc := qor (tl n_value_Facts [kv2, kv6] kv9) kq6
theorem kq7_ok : Orcs T kq7 := orcs_or (orcs_tl k7_told rfl k7_brw) kq6_ok
def kv10 : U := .tup [.sl true [[.bool false], [.bool false], [.bool false], [.bool false]], i64 (0)]
set_option maxRecDepth 100000 in
theorem k8_run : isU (callQ T kq7 80 n_value_Cut [kv2] []) kv10 = true := by kernel_rfl
theorem k8_brw (st : List Ob) : allM (brwA frzD st) [kv2] = some [kv2] := rfl
theorem k8_told : Told T n_value_Cut [kv2] kv10 := toldQ kq7_ok k8_run rfl k8_brw
def kq8 : Orc := qor (tl n_value_Cut [kv2] kv10) kq7
theorem kq8_ok : Orcs T kq8 := orcs_or (orcs_tl k8_told rfl k8_brw) kq7_ok
def kv11 : U := .sl true [[.bool false], [.bool false], [.bool false], [.bool false]]
set_option maxRecDepth 100000 in
theorem k9_run : isU (callQ T kq8 80 n_skel_Build [kv2, kv11] []) kv4 = true := by kernel_rfl
theorem k9_brw (st : List Ob) : allM (brwA frzD st) [kv2, kv11] = some [kv2, kv11] := rfl
theorem k9_told : Told T n_skel_Build [kv2, kv11] kv4 := toldQ kq8_ok k9_run rfl k9_brw
def kq9 : Orc := qor (tl n_skel_Build [kv2, kv11] kv4) kq8
theorem kq9_ok : Orcs T kq9 := orcs_or (orcs_tl k9_told rfl k9_brw) kq8_ok
def kv12 : U := .sl false [[i64 (0), .sl true [[i64 (2), i64 (0)]]], [i64 (0), .sl true [[i64 (2), i64 (1)]]], [i64 (0), .sl true [[i64 (2), i64 (2)]]], [i64 (0), .sl true [[i64 (2), i64 (3)]]], [i64 (0), .sl true [[i64 (2), i64 (4)]]], [i64 (0), .sl true [[i64 (2), i64 (5)]]], [i64 (0), .sl true [[i64 (2), i64 (6)]]], [i64 (0), .sl true [[i64 (2), i64 (7)]]], [i64 (0), .sl true [[i64 (2), i64 (0)]]], [i64 (-1), .sl true []], [i64 (-1), .sl true []], [i64 (-1), .sl true []], [i64 (-1), .sl true []], [i64 (-1), .sl true []], [i64 (-1), .sl true []], [i64 (-1), .sl true []], [i64 (-1), .sl true []], [i64 (-1), .sl true []], [i64 (-1), .sl true []], [i64 (-1), .sl true []], [i64 (-1), .sl true []], [i64 (-1), .sl true []], [i64 (-1), .sl true []], [i64 (-1), .sl true []], [i64 (1), .sl true [[i64 (0), i64 (0)]]], [i64 (1), .sl true [[i64 (4), i64 (0)]]], [i64 (1), .sl true [[i64 (0), i64 (8)]]], [i64 (1), .sl true [[i64 (0), i64 (3)]]], [i64 (1), .sl true [[i64 (0), i64 (4)]]], [i64 (1), .sl true [[i64 (0), i64 (5)]]], [i64 (1), .sl true [[i64 (0), i64 (6)]]], [i64 (1), .sl true [[i64 (0), i64 (7)]]], [i64 (1), .sl true [[i64 (0), i64 (8)]]], [i64 (-1), .sl true []], [i64 (-1), .sl true []], [i64 (-1), .sl true []], [i64 (-1), .sl true []], [i64 (-1), .sl true []], [i64 (-1), .sl true []], [i64 (-1), .sl true []], [i64 (-1), .sl true []], [i64 (-1), .sl true []], [i64 (-1), .sl true []], [i64 (-1), .sl true []], [i64 (-1), .sl true []], [i64 (-1), .sl true []], [i64 (-1), .sl true []], [i64 (-1), .sl true []]]
def kv13 : U := .sl true [[i64 (0)], [i64 (1)], [i64 (2)], [i64 (3)], [i64 (4)], [i64 (5)], [i64 (6)], [i64 (7)], [i64 (0)], [i64 (8)], [i64 (8)], [i64 (8)], [i64 (8)], [i64 (8)], [i64 (8)], [i64 (8)], [i64 (8)], [i64 (8)], [i64 (8)], [i64 (8)], [i64 (8)], [i64 (8)], [i64 (8)], [i64 (8)], [i64 (9)], [i64 (10)], [i64 (9)], [i64 (11)], [i64 (12)], [i64 (13)], [i64 (14)], [i64 (15)], [i64 (9)], [i64 (8)], [i64 (8)], [i64 (8)], [i64 (8)], [i64 (8)], [i64 (8)], [i64 (8)], [i64 (8)], [i64 (8)], [i64 (8)], [i64 (8)], [i64 (8)], [i64 (8)], [i64 (8)], [i64 (8)]]
set_option maxRecDepth 100000 in
theorem k10_run : isU (callQ T kq9 80 n_refine_Classes [kv12] []) kv13 = true := by kernel_rfl
theorem k10_brw (st : List Ob) : allM (brwA frzD st) [kv12] = some [kv12] := rfl
theorem k10_told : Told T n_refine_Classes [kv12] kv13 := toldQ kq9_ok k10_run rfl k10_brw
def kq10 : Orc := qor (tl n_refine_Classes [kv12] kv13) kq9
theorem kq10_ok : Orcs T kq10 := orcs_or (orcs_tl k10_told rfl k10_brw) kq9_ok
def kv14 : U := .tup [.agg [i64 (0), .sl true [[i64 (15), i64 (7), .sl true [[i64 (4), i64 (0)]], .sl true [[i64 (1)]]], [i64 (18), i64 (0), .sl true [[i64 (4), i64 (1)]], .sl true []]], .sl true [[i64 (0), .sl true [[i64 (1), i64 (0)]]], [i64 (1), .sl true [[i64 (4), i64 (0)]]]]], i64 (0)]
set_option maxRecDepth 100000 in
theorem k11_run : isU (callQ T kq10 80 n_norm_Of [kv2] []) kv14 = true := by kernel_rfl
theorem k11_brw (st : List Ob) : allM (brwA frzD st) [kv2] = some [kv2] := rfl
theorem k11_told : Told T n_norm_Of [kv2] kv14 := toldQ kq10_ok k11_run rfl k11_brw
def kq11 : Orc := qor (tl n_norm_Of [kv2] kv14) kq10
theorem kq11_ok : Orcs T kq11 := orcs_or (orcs_tl k11_told rfl k11_brw) kq10_ok
def kv15 : U := .agg [i64 (0), .sl true [[i64 (15), i64 (7), .sl true [[i64 (4), i64 (0)]], .sl true [[i64 (1)]]], [i64 (18), i64 (0), .sl true [[i64 (4), i64 (1)]], .sl true []]], .sl true [[i64 (0), .sl true [[i64 (1), i64 (0)]]], [i64 (1), .sl true [[i64 (4), i64 (0)]]]]]
def kv16 : U := .sl true [[i64 (-1), i64 (0)]]
set_option maxRecDepth 100000 in
theorem k12_run : isU (callQ T kq11 80 n_shape_Ways [kv15, (i64 (0))] []) kv16 = true := by kernel_rfl
theorem k12_brw (st : List Ob) : allM (brwA frzD st) [kv15, (i64 (0))] = some [kv15, (i64 (0))] := rfl
theorem k12_told : Told T n_shape_Ways [kv15, (i64 (0))] kv16 := toldQ kq11_ok k12_run rfl k12_brw
def kq12 : Orc := qor (tl n_shape_Ways [kv15, (i64 (0))] kv16) kq11
theorem kq12_ok : Orcs T kq12 := orcs_or (orcs_tl k12_told rfl k12_brw) kq11_ok
set_option maxRecDepth 100000 in
theorem k13_run : isU (callQ T kq12 80 n_shape_Ways [kv15, (i64 (1))] []) (.sl true [[i64 (0), i64 (0)]]) = true := by kernel_rfl
theorem k13_brw (st : List Ob) : allM (brwA frzD st) [kv15, (i64 (1))] = some [kv15, (i64 (1))] := rfl
theorem k13_told : Told T n_shape_Ways [kv15, (i64 (1))] (.sl true [[i64 (0), i64 (0)]]) := toldQ kq12_ok k13_run rfl k13_brw
def kq13 : Orc := qor (tl n_shape_Ways [kv15, (i64 (1))] (.sl true [[i64 (0), i64 (0)]])) kq12
theorem kq13_ok : Orcs T kq13 := orcs_or (orcs_tl k13_told rfl k13_brw) kq12_ok
set_option maxRecDepth 100000 in
theorem k14_run : isU (callQ T kq13 80 n_shape_Right [kv15] []) (.bool true) = true := by kernel_rfl
theorem k14_brw (st : List Ob) : allM (brwA frzD st) [kv15] = some [kv15] := rfl
theorem k14_told : Told T n_shape_Right [kv15] (.bool true) := toldQ kq13_ok k14_run rfl k14_brw
def kq14 : Orc := qor (tl n_shape_Right [kv15] (.bool true)) kq13
theorem kq14_ok : Orcs T kq14 := orcs_or (orcs_tl k14_told rfl k14_brw) kq13_ok
def kv17 : U := .tup [.str [101, 110, 116, 114, 121, 32, 48, 10, 99, 97, 108, 108, 32, 55, 32, 118, 48, 32, 62, 32, 49, 10, 114, 101, 116, 32, 118, 49, 10, 118, 97, 108, 117, 101, 32, 48, 32, 114, 48, 10, 118, 97, 108, 117, 101, 32, 49, 32, 118, 48, 10], i64 (0)]
set_option maxRecDepth 100000 in
theorem knows15_run : isU (callQ T kq14 80 n_joinerylaw15_knows [] []) (.bool true) = true := by kernel_rfl
theorem knows15_told : Told T n_joinerylaw15_knows [] (.bool true) := toldQ kq14_ok knows15_run rfl (fun _ => rfl)
theorem knows15_call (st : List Ob) : Cl T n_joinerylaw15_knows [] st (.bool true) st := knows15_told.call st
end Go.Proofs.YtfmhnfimkpffnaaGreatDoor.M2
