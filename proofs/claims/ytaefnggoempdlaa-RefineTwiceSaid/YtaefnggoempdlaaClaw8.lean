/- RefineTwice: of things that are there twice, the second ones leading to second ones, each cannot be told from its first one. No condition. -/
import Derived.Test.YtaefnggoempdlaaCg
import Derived.Test.YtaefnggoempdlaaClaw7
import Derived.Test.YtaefnggoempdlaaCd
set_option linter.unusedSimpArgs false
set_option linter.unusedVariables false
set_option linter.unusedSectionVars false
/- Refinement, in plain Lean. Part 4: things that are there twice. -/
namespace Go.Proofs.Ytaefnggoempdlaa.M2
open Go

/-- A reference of the t-th copy. -/
def shf (n : Nat) (t : Nat) (x : Int × Int) : Int × Int := if x.1 = 0 then (0, x.2 + t * n) else x
def copy (n : Nat) (t : Nat) (r : Row) : Row := ⟨true, r.c, r.to.map (shf n t)⟩
def twice (l : List Row) : List Row := l.map (copy l.length 0) ++ l.map (copy l.length 1)
/-- Each reference to a thing leads to one. -/
def inR (l : List Row) : Prop := ∀ r ∈ l, ∀ x ∈ r.to, x.1 = 0 → 0 ≤ x.2 ∧ x.2 < l.length
theorem twice_len (l : List Row) : (twice l).length = l.length + l.length := by simp [twice]
theorem twice_get {l : List Row} {i : Nat} (h : i < l.length + l.length) : ∃ t, (twice l).getD i default = copy l.length t (l.getD (i % l.length) default) ∧ t * l.length + i % l.length = i ∧ t < 2 ∧ i % l.length < l.length := by
  have h0 : 0 < l.length := by omega
  rcases Nat.lt_or_ge i l.length with h1 | h1
  · refine ⟨0, ?_, by rw [Nat.mod_eq_of_lt h1]; omega, by omega, Nat.mod_lt _ h0⟩
    rw [Nat.mod_eq_of_lt h1, getRow h1, List.getD_eq_getElem?_getD, twice, List.getElem?_append_left (by simpa using h1)]
    simp [h1]
  · have h2 : i - l.length < l.length := by omega
    have hm : i % l.length = i - l.length := by rw [Nat.mod_eq_sub_mod h1, Nat.mod_eq_of_lt h2]
    refine ⟨1, ?_, by rw [hm]; omega, by omega, by rw [hm]; exact h2⟩
    rw [hm, getRow h2, List.getD_eq_getElem?_getD, twice, List.getElem?_append_right (by simpa using h1)]
    simp [h2]
theorem shf_thing {l : List Row} (hR : inR l) {i : Nat} (hi : i < l.length) {m : Nat} (hm : m < (l.getD i default).to.length) (t : Nat) (ht : t < 2) :
    let x := (l.getD i default).to.getD m (0, 0)
    isThing (l.length + l.length) (shf l.length t x) = isThing l.length x ∧ (isThing l.length x = false → shf l.length t x = x ∧ x.1 ≠ 0) ∧ (isThing l.length x = true → (shf l.length t x).2.toNat % l.length = x.2.toNat) := by
  intro x
  have hx : x ∈ l[i].to := by
    have : x = l[i].to[m]'(by rw [getRow hi] at hm; exact hm) := by
      show (l.getD i default).to.getD m (0, 0) = _
      rw [getRef hm]
      simp only [getRow hi]
    rw [this]
    exact List.getElem_mem _
  have hr := hR l[i] (List.getElem_mem hi) x hx
  clear_value x
  obtain ⟨x1, x2⟩ := x
  simp only at hr
  by_cases h1 : x1 = 0
  · subst h1
    obtain ⟨h2, h3⟩ := hr rfl
    obtain ⟨n, rfl⟩ := Int.eq_ofNat_of_zero_le h2
    have e1 : isThing l.length (0, (n : Int)) = true := by simp [isThing]; omega
    have e3 : (n : Int) + (t : Int) * (l.length : Int) = ((n + t * l.length : Nat) : Int) := by simp
    have e2 : isThing (l.length + l.length) (shf l.length t (0, (n : Int))) = true := by
      simp only [shf, if_true, isThing, e3, decide_true, Bool.true_and, Bool.and_eq_true, decide_eq_true_eq]
      have : t * l.length ≤ 1 * l.length := Nat.mul_le_mul_right _ (by omega)
      omega
    refine ⟨by rw [e1, e2], fun h => (by rw [e1] at h; cases h), fun _ => ?_⟩
    simp only [shf, if_true, e3, Int.toNat_natCast]
    rw [Nat.add_mul_mod_self_right, Nat.mod_eq_of_lt (by omega)]
  · have e1 : isThing l.length (x1, x2) = false := by simp [isThing, h1]
    have e2 : shf l.length t (x1, x2) = (x1, x2) := by simp [shf, h1]
    refine ⟨by rw [e2, e1]; simp [isThing, h1], fun _ => ⟨e2, h1⟩, fun h => (by rw [e1] at h; cases h)⟩
theorem copy_ref {l : List Row} {i m t : Nat} (hm : m < (l.getD i default).to.length) : (copy l.length t (l.getD i default)).to.getD m (0, 0) = shf l.length t ((l.getD i default).to.getD m (0, 0)) := by
  rw [getRef hm, getRef (by simpa [copy] using hm)]
  simp [copy]
theorem twice_same {l : List Row} {C C2 : List Nat} (hR : inR l) (hC : Final l C) (hC2 : Final (twice l) C2) (i k : Nat) (hi : i < l.length + l.length) (hk : k < l.length + l.length) :
    C2.getD i 0 = C2.getD k 0 ↔ C.getD (i % l.length) 0 = C.getD (k % l.length) 0 := by
  have hl2 := twice_len l
  have h0 : 0 < l.length := by omega
  constructor
  · intro e
    refine hC.fewest (fun a b => ∃ a' b', a' < l.length + l.length ∧ b' < l.length + l.length ∧ a' % l.length = a ∧ b' % l.length = b ∧ C2.getD a' 0 = C2.getD b' 0) ?_ _ _ (Nat.mod_lt _ h0) (Nat.mod_lt _ h0) ⟨i, k, hi, hk, rfl, rfl, e⟩
    rintro a b ha hb ⟨a', b', ha', hb', rfl, rfl, e⟩
    obtain ⟨h1, h2, h3⟩ := hC2.leads a' b' (by omega) (by omega) e
    obtain ⟨t, ea, _, ht, _⟩ := twice_get ha'
    obtain ⟨s, eb, _, hs, _⟩ := twice_get hb'
    rw [ea, eb] at h1 h2
    have h2' : (l.getD (a' % l.length) default).to.length = (l.getD (b' % l.length) default).to.length := by simpa [copy] using h2
    refine ⟨h1, h2', fun m hm => ?_⟩
    have hm2 : m < (l.getD (b' % l.length) default).to.length := by omega
    have h4 := h3 m (by rw [ea]; simpa [copy] using hm)
    rw [ea, eb, copy_ref hm, copy_ref hm2, hl2] at h4
    obtain ⟨x1, x2, x3⟩ := shf_thing hR ha hm t ht
    obtain ⟨y1, y2, y3⟩ := shf_thing hR hb hm2 s hs
    unfold refN at h4
    rw [x1, y1] at h4
    split at h4
    · rename_i hth
      rw [if_pos hth]
      rw [Bool.and_eq_true] at hth
      refine ⟨_, _, ?_, ?_, x3 hth.1, y3 hth.2, h4⟩
      · exact isThing_lt (by rw [x1]; exact hth.1)
      · exact isThing_lt (by rw [y1]; exact hth.2)
    · rename_i hth
      rw [if_neg hth]
      have hth : (isThing l.length ((l.getD (a' % l.length) default).to.getD m (0, 0)) && isThing l.length ((l.getD (b' % l.length) default).to.getD m (0, 0))) = false := by simpa using hth
      have hxy : isThing l.length ((l.getD (a' % l.length) default).to.getD m (0, 0)) = isThing l.length ((l.getD (b' % l.length) default).to.getD m (0, 0)) := by rw [← x1, ← y1, h4]
      rw [hxy, Bool.and_self] at hth
      rw [← (x2 (by rw [hxy]; exact hth)).1, ← (y2 hth).1]
      exact h4
  · intro e
    refine hC2.fewest (fun a b => C.getD (a % l.length) 0 = C.getD (b % l.length) 0) ?_ i k (by omega) (by omega) e
    intro a b ha hb e
    obtain ⟨t, ea, _, ht, ha'⟩ := twice_get (show a < l.length + l.length by omega)
    obtain ⟨s, eb, _, hs, hb'⟩ := twice_get (show b < l.length + l.length by omega)
    obtain ⟨h1, h2, h3⟩ := hC.leads _ _ ha' hb' e
    rw [ea, eb]
    refine ⟨h1, by simpa [copy] using h2, fun m hm => ?_⟩
    have hm : m < (l.getD (a % l.length) default).to.length := by simpa [copy] using hm
    have hm2 : m < (l.getD (b % l.length) default).to.length := by omega
    rw [copy_ref hm, copy_ref hm2, hl2]
    have h4 := h3 m hm
    obtain ⟨x1, x2, x3⟩ := shf_thing hR ha' hm t ht
    obtain ⟨y1, y2, y3⟩ := shf_thing hR hb' hm2 s hs
    unfold refN at h4
    rw [x1, y1]
    split at h4
    · rename_i hth
      rw [if_pos hth]
      rw [Bool.and_eq_true] at hth
      rw [x3 hth.1, y3 hth.2]
      exact h4
    · rename_i hth
      rw [if_neg hth]
      have hth : (isThing l.length ((l.getD (a % l.length) default).to.getD m (0, 0)) && isThing l.length ((l.getD (b % l.length) default).to.getD m (0, 0))) = false := by simpa using hth
      have hxy : isThing l.length ((l.getD (a % l.length) default).to.getD m (0, 0)) = isThing l.length ((l.getD (b % l.length) default).to.getD m (0, 0)) := by rw [h4]
      rw [hxy, Bool.and_self] at hth
      rw [(x2 (by rw [hxy]; exact hth)).1, (y2 hth).1]
      exact h4
def patM (C : List Nat) : List (List Bool) := (List.range C.length).map fun i => (List.range C.length).map fun k => C.getD i 0 != C.getD k 0
theorem patM_look (C : List Nat) (i k : Nat) (hi : i < C.length) (hk : k < C.length) : look2 (patM C) i k = false ↔ C.getD i 0 = C.getD k 0 := by
  simp only [look2, patM, List.getElem?_map, List.getElem?_range hi, Option.map_some, Option.getD_some, List.getElem?_range hk]
  simp
/-- The classes of what is there twice: those of the things, twice. -/
theorem twice_final {l : List Row} {C C2 : List Nat} (hR : inR l) (hC : Final l C) (hC2 : Final (twice l) C2) (i : Nat) (hi : i < l.length) : C2.getD i 0 = C.getD i 0 ∧ C2.getD (i + l.length) 0 = C.getD i 0 := by
  have hl2 : C2.length = l.length + l.length := by rw [hC2.len, twice_len]
  have hCl := hC.len
  have h1 := (refTo_canon C2 hC2.canon (patM C2) (fun i k hk hi => patM_look C2 i k hi (by omega)) l.length (by omega)).1
  have h2 := (refTo_canon C hC.canon (patM C2) (fun i k hk hi => by
    rw [patM_look C2 i k (by omega) (by omega), twice_same hR hC hC2 i k (by omega) (by omega), Nat.mod_eq_of_lt (by omega), Nat.mod_eq_of_lt (by omega)]) l.length (by omega)).1
  have h3 : C2.take l.length = C := by rw [← h1, h2, ← hCl, List.take_length]
  have h4 : C2.getD i 0 = C.getD i 0 := by
    rw [← h3, List.getD_eq_getElem?_getD, List.getD_eq_getElem?_getD, List.getElem?_take, if_pos hi]
  refine ⟨h4, ?_⟩
  rw [← h4]
  exact (twice_same hR hC hC2 (i + l.length) i (by omega) (by omega)).2 (by rw [Nat.add_mod_right])
end Go.Proofs.Ytaefnggoempdlaa.M2

/- The law RefineTwice in M2. Part 1: the things twice. -/
namespace Go.Proofs.Ytaefnggoempdlaa.M2
open Go
attribute [local simp] ev1 M2.get put A.ev ld sub part elems bin arith un opt idx fillC cellsO splice over newOb sto fillR laidOwn appTo appRow touch touchN touchM touchE touchA plainU flatU plainAs allM rowAt stoRow accM_nil accM_cons accMM_nil accMM_cons frz_int frz_bool frz_str frz_slt frz_nils frz_nilI frz_nilF frz_own frzRow_row frzRow_frow Ob.blw blw_bool blw_int blw_str blw_nils blw_nilI blw_nilF blw_nilp blw_nilm blw_sl blw_own blw_bp blw_rp blw_mp blw_it params
attribute [local simp] beq_dec bne_dec

def twE (l : List Row) (cnt t i k : Nat) : Env := [(0, rowsU false l), (3, i64 l.length), (4, .own 0 cnt), (5, i64 t), (6, i64 i), (7, .bp 1 0), (8, i64 k)]
def twS (out : List (List U)) (c : Int) (to : List (Int × Int)) (j : Nat) : List Ob :=
  [.row 38 2 false out, .box [i64 c, .own 4 j], .box [i64 (to.getD 0 (0, 0)).1, i64 (to.getD 0 (0, 0)).2], .row 40 2 false [[i64 (to.getD 0 (0, 0)).1, i64 (to.getD 0 (0, 0)).2]], .row 40 2 false ((refsU to).take j)]
def twSt (out : List (List U)) (c : Int) (to : List (Int × Int)) : Nat → List Ob
  | 0 => [.row 38 2 false out, .box [i64 c, .nils]]
  | j + 1 => twS out c to (j + 1)
def okR (n : Nat) (x : Int × Int) : Prop := x.1 = 0 → 0 ≤ x.2 ∧ x.2 < n
theorem tw_0 (l : List Row) (out : List (List U)) (cnt t i : Nat) (hi : i < l.length) (h : 0 < l[i].to.length) (ht : t < 2) (h30 : l.length ≤ 30) :
    Wp T c_joinerylaw12_RefineTwice_L0 ⟨twE l cnt t i (0 : Nat), twSt out l[i].c (l[i].to.map (shf l.length t)) 0⟩ (fun s' => trimO 2 s' = ⟨twE l cnt t i (1 : Nat), twSt out l[i].c (l[i].to.map (shf l.length t)) 1⟩ ∧ okR l.length l[i].to[0]) (Res c_joinerylaw12_RefineTwice (.bool true)) (fun _ _ => False) := by
  obtain ⟨tn, htn, htn1, htn2⟩ : ∃ tn : Int, (t : Int) * (l.length : Int) = tn ∧ 0 ≤ tn ∧ tn ≤ 60 := by
    refine ⟨_, rfl, ?_⟩
    have : t = 0 ∨ t = 1 := by omega
    rcases this with rfl | rfl <;> simp <;> omega
  have hw1 : IntKind.wrap .i64 ((t : Int) * (l.length : Int)) = tn := by rw [htn]; exact wrap_id (by omega) (by omega)
  have hto : (l[i].to.map (shf l.length t)).getD 0 (0, 0) = shf l.length t l[i].to[0] := by simp [h]
  have htk : (refsU (l[i].to.map (shf l.length t))).take 1 = [refU (shf l.length t l[i].to[0])] := by
    rw [List.take_succ_eq_append_getElem (by simpa [refsU] using h)]
    simp [refsU]
  simp only [twE, twSt, twS]
  rw [hto, htk]
  repeat (first | apply Wp.seq | apply Wp.skip | apply Wp.block | (apply Wp.op0; ((simp [M2.keep]) <;> rfl)) | (apply Wp.op; (apply Evt.all; intro; (simp [rowsU, hi, rowU_eq, refsU_len, h]) <;> (try simp (disch := omega) only [wrap_id]) <;> first | exact ⟨rfl, rfl⟩ | exact rfl)) | (apply Wp.opN; (apply Evt.all; intro; (simp [rowsU, hi, rowU_eq, refsU_len, h]) <;> (try simp (disch := omega) only [wrap_id]) <;> first | exact ⟨rfl, rfl⟩ | exact rfl)) | (apply Wp.opG; (exact rfl); (apply Evt.all; intro; (simp [rowsU, hi, rowU_eq, refsU_len, h]) <;> (try simp (disch := omega) only [wrap_id]) <;> first | exact ⟨rfl, rfl⟩ | exact rfl)) | (apply Wp.opS; (exact rfl); decide) | (apply Wp.opS0; (exact rfl)))
  refine Wp.cond (by first | rfl | (simp; rfl)) (fun ht1 => ?_) (fun ht1 => ?_)
  · refine Wp.skip ?_
    apply Wp.seq
    apply Wp.block
    apply Wp.seq
    generalize hx : l[i].to[0] = x
    obtain ⟨x1, x2⟩ := x
    (repeat (first | (apply Wp.op; (apply Evt.all; intro; (simp [rowsU, hi, rowU_eq, refsU, h, hx, refU]) <;> (try simp (disch := omega) only [wrap_id]) <;> first | exact ⟨rfl, rfl⟩ | exact rfl)) | (apply Wp.opN; (apply Evt.all; intro; (simp [rowsU, hi, rowU_eq, refsU, h, hx, refU]) <;> (try simp (disch := omega) only [wrap_id]) <;> first | exact ⟨rfl, rfl⟩ | exact rfl)) | (apply Wp.opG; (exact rfl); (apply Evt.all; intro; (simp [rowsU, hi, rowU_eq, refsU, h, hx, refU]) <;> (try simp (disch := omega) only [wrap_id]) <;> first | exact ⟨rfl, rfl⟩ | exact rfl)) | (apply Wp.opS; (exact rfl); decide) | (apply Wp.opS0; (exact rfl)))); refine Wp.op0 (by (simp [M2.keep]) <;> rfl) ?_
    by_cases h0 : x1 = 0
    · subst h0
      by_cases hlo : x2 < 0
      · repeat (first | apply Wp.seq | apply Wp.skip | apply Wp.block | (apply Wp.op0; ((simp [M2.keep]) <;> rfl)) | (apply Wp.op; (apply Evt.all; intro; (simp [hlo]) <;> (try simp (disch := omega) only [wrap_id]) <;> first | exact ⟨rfl, rfl⟩ | exact rfl)) | (apply Wp.opN; (apply Evt.all; intro; (simp [hlo]) <;> (try simp (disch := omega) only [wrap_id]) <;> first | exact ⟨rfl, rfl⟩ | exact rfl)) | (apply Wp.opG; (exact rfl); (apply Evt.all; intro; (simp [hlo]) <;> (try simp (disch := omega) only [wrap_id]) <;> first | exact ⟨rfl, rfl⟩ | exact rfl)) | (apply Wp.opS; (exact rfl); decide) | (apply Wp.opS0; (exact rfl)))
        refine Wp.cond (by first | rfl | (simp; rfl)) (fun ht2 => ?_) (fun ht2 => ?_)
        · repeat (first | apply Wp.seq | apply Wp.skip | apply Wp.block | (apply Wp.op0; ((simp [M2.keep]) <;> rfl)) | (apply Wp.op; (apply Evt.all; intro; (simp []) <;> (try simp (disch := omega) only [wrap_id]) <;> first | exact ⟨rfl, rfl⟩ | exact rfl)) | (apply Wp.opN; (apply Evt.all; intro; (simp []) <;> (try simp (disch := omega) only [wrap_id]) <;> first | exact ⟨rfl, rfl⟩ | exact rfl)) | (apply Wp.opG; (exact rfl); (apply Evt.all; intro; (simp []) <;> (try simp (disch := omega) only [wrap_id]) <;> first | exact ⟨rfl, rfl⟩ | exact rfl)) | (apply Wp.opS; (exact rfl); decide) | (apply Wp.opS0; (exact rfl)))
          apply Wp.call
          · exact knows_call _
          repeat (first | apply Wp.seq | apply Wp.skip | apply Wp.block | (apply Wp.op0; ((simp [M2.keep]) <;> rfl)) | (apply Wp.op; (apply Evt.all; intro; (simp []) <;> (try simp (disch := omega) only [wrap_id]) <;> first | exact ⟨rfl, rfl⟩ | exact rfl)) | (apply Wp.opN; (apply Evt.all; intro; (simp []) <;> (try simp (disch := omega) only [wrap_id]) <;> first | exact ⟨rfl, rfl⟩ | exact rfl)) | (apply Wp.opG; (exact rfl); (apply Evt.all; intro; (simp []) <;> (try simp (disch := omega) only [wrap_id]) <;> first | exact ⟨rfl, rfl⟩ | exact rfl)) | (apply Wp.opS; (exact rfl); decide) | (apply Wp.opS0; (exact rfl)))
          refine Wp.ret ?_; simp [Res, resU, res1, c_joinerylaw12_RefineTwice]
        · cases ht2
      by_cases hhi : (l.length : Int) ≤ x2
      · repeat (first | apply Wp.seq | apply Wp.skip | apply Wp.block | (apply Wp.op0; ((simp [M2.keep]) <;> rfl)) | (apply Wp.op; (apply Evt.all; intro; (simp [hlo, hhi]) <;> (try simp (disch := omega) only [wrap_id]) <;> first | exact ⟨rfl, rfl⟩ | exact rfl)) | (apply Wp.opN; (apply Evt.all; intro; (simp [hlo, hhi]) <;> (try simp (disch := omega) only [wrap_id]) <;> first | exact ⟨rfl, rfl⟩ | exact rfl)) | (apply Wp.opG; (exact rfl); (apply Evt.all; intro; (simp [hlo, hhi]) <;> (try simp (disch := omega) only [wrap_id]) <;> first | exact ⟨rfl, rfl⟩ | exact rfl)) | (apply Wp.opS; (exact rfl); decide) | (apply Wp.opS0; (exact rfl)))
        refine Wp.cond (by first | rfl | (simp; rfl)) (fun ht2 => ?_) (fun ht2 => ?_)
        · repeat (first | apply Wp.seq | apply Wp.skip | apply Wp.block | (apply Wp.op0; ((simp [M2.keep]) <;> rfl)) | (apply Wp.op; (apply Evt.all; intro; (simp []) <;> (try simp (disch := omega) only [wrap_id]) <;> first | exact ⟨rfl, rfl⟩ | exact rfl)) | (apply Wp.opN; (apply Evt.all; intro; (simp []) <;> (try simp (disch := omega) only [wrap_id]) <;> first | exact ⟨rfl, rfl⟩ | exact rfl)) | (apply Wp.opG; (exact rfl); (apply Evt.all; intro; (simp []) <;> (try simp (disch := omega) only [wrap_id]) <;> first | exact ⟨rfl, rfl⟩ | exact rfl)) | (apply Wp.opS; (exact rfl); decide) | (apply Wp.opS0; (exact rfl)))
          apply Wp.call
          · exact knows_call _
          repeat (first | apply Wp.seq | apply Wp.skip | apply Wp.block | (apply Wp.op0; ((simp [M2.keep]) <;> rfl)) | (apply Wp.op; (apply Evt.all; intro; (simp []) <;> (try simp (disch := omega) only [wrap_id]) <;> first | exact ⟨rfl, rfl⟩ | exact rfl)) | (apply Wp.opN; (apply Evt.all; intro; (simp []) <;> (try simp (disch := omega) only [wrap_id]) <;> first | exact ⟨rfl, rfl⟩ | exact rfl)) | (apply Wp.opG; (exact rfl); (apply Evt.all; intro; (simp []) <;> (try simp (disch := omega) only [wrap_id]) <;> first | exact ⟨rfl, rfl⟩ | exact rfl)) | (apply Wp.opS; (exact rfl); decide) | (apply Wp.opS0; (exact rfl)))
          refine Wp.ret ?_; simp [Res, resU, res1, c_joinerylaw12_RefineTwice]
        · cases ht2
      have hw2 : IntKind.wrap .i64 (x2 + tn) = x2 + tn := wrap_id (by omega) (by omega)
      repeat (first | apply Wp.seq | apply Wp.skip | apply Wp.block | (apply Wp.op0; ((simp [M2.keep]) <;> rfl)) | (apply Wp.op; (apply Evt.all; intro; (simp [hlo, hhi]) <;> (try simp (disch := omega) only [wrap_id]) <;> first | exact ⟨rfl, rfl⟩ | exact rfl)) | (apply Wp.opN; (apply Evt.all; intro; (simp [hlo, hhi]) <;> (try simp (disch := omega) only [wrap_id]) <;> first | exact ⟨rfl, rfl⟩ | exact rfl)) | (apply Wp.opG; (exact rfl); (apply Evt.all; intro; (simp [hlo, hhi]) <;> (try simp (disch := omega) only [wrap_id]) <;> first | exact ⟨rfl, rfl⟩ | exact rfl)) | (apply Wp.opS; (exact rfl); decide) | (apply Wp.opS0; (exact rfl)))
      refine Wp.cond (by first | rfl | (simp; rfl)) (fun ht2 => ?_) (fun ht2 => ?_)
      · cases ht2
      repeat (first | apply Wp.seq | apply Wp.skip | apply Wp.block | (apply Wp.op0; ((simp [M2.keep]) <;> rfl)) | (apply Wp.op; (apply Evt.all; intro; (simp []) <;> (try simp (disch := omega) only [wrap_id]) <;> first | exact ⟨rfl, rfl⟩ | exact rfl)) | (apply Wp.opN; (apply Evt.all; intro; (simp []) <;> (try simp (disch := omega) only [wrap_id]) <;> first | exact ⟨rfl, rfl⟩ | exact rfl)) | (apply Wp.opG; (exact rfl); (apply Evt.all; intro; (simp []) <;> (try simp (disch := omega) only [wrap_id]) <;> first | exact ⟨rfl, rfl⟩ | exact rfl)) | (apply Wp.opS; (exact rfl); decide) | (apply Wp.opS0; (exact rfl)))
      refine Wp.cond (by first | rfl | (simp; rfl)) (fun ht3 => ?_) (fun ht3 => ?_)
      · repeat (first | apply Wp.seq | apply Wp.skip | apply Wp.block | (apply Wp.op0; ((simp [M2.keep]) <;> rfl)) | (apply Wp.op; (apply Evt.all; intro; (simp [hw1, hw2]) <;> (try simp (disch := omega) only [wrap_id]) <;> first | exact ⟨rfl, rfl⟩ | exact rfl)) | (apply Wp.opN; (apply Evt.all; intro; (simp [hw1, hw2]) <;> (try simp (disch := omega) only [wrap_id]) <;> first | exact ⟨rfl, rfl⟩ | exact rfl)) | (apply Wp.opG; (exact rfl); (apply Evt.all; intro; (simp [hw1, hw2]) <;> (try simp (disch := omega) only [wrap_id]) <;> first | exact ⟨rfl, rfl⟩ | exact rfl)) | (apply Wp.opS; (exact rfl); decide) | (apply Wp.opS0; (exact rfl)))
        refine ⟨?_, fun _ => ⟨by omega, by omega⟩⟩
        simp [trimO, trim, rowsU, shf, htn, refU]
      · cases ht3
    · repeat (first | apply Wp.seq | apply Wp.skip | apply Wp.block | (apply Wp.op0; ((simp [M2.keep]) <;> rfl)) | (apply Wp.op; (apply Evt.all; intro; (simp [h0]) <;> (try simp (disch := omega) only [wrap_id]) <;> first | exact ⟨rfl, rfl⟩ | exact rfl)) | (apply Wp.opN; (apply Evt.all; intro; (simp [h0]) <;> (try simp (disch := omega) only [wrap_id]) <;> first | exact ⟨rfl, rfl⟩ | exact rfl)) | (apply Wp.opG; (exact rfl); (apply Evt.all; intro; (simp [h0]) <;> (try simp (disch := omega) only [wrap_id]) <;> first | exact ⟨rfl, rfl⟩ | exact rfl)) | (apply Wp.opS; (exact rfl); decide) | (apply Wp.opS0; (exact rfl)))
      refine Wp.cond (by first | rfl | (simp; rfl)) (fun ht2 => ?_) (fun ht2 => ?_)
      · cases ht2
      repeat (first | apply Wp.seq | apply Wp.skip | apply Wp.block | (apply Wp.op0; ((simp [M2.keep]) <;> rfl)) | (apply Wp.op; (apply Evt.all; intro; (simp [h0]) <;> (try simp (disch := omega) only [wrap_id]) <;> first | exact ⟨rfl, rfl⟩ | exact rfl)) | (apply Wp.opN; (apply Evt.all; intro; (simp [h0]) <;> (try simp (disch := omega) only [wrap_id]) <;> first | exact ⟨rfl, rfl⟩ | exact rfl)) | (apply Wp.opG; (exact rfl); (apply Evt.all; intro; (simp [h0]) <;> (try simp (disch := omega) only [wrap_id]) <;> first | exact ⟨rfl, rfl⟩ | exact rfl)) | (apply Wp.opS; (exact rfl); decide) | (apply Wp.opS0; (exact rfl)))
      refine Wp.cond (by first | rfl | (simp; rfl)) (fun ht3 => ?_) (fun ht3 => ?_)
      · cases ht3
      repeat (first | apply Wp.seq | apply Wp.skip | apply Wp.block | (apply Wp.op0; ((simp [M2.keep]) <;> rfl)) | (apply Wp.op; (apply Evt.all; intro; (simp []) <;> (try simp (disch := omega) only [wrap_id]) <;> first | exact ⟨rfl, rfl⟩ | exact rfl)) | (apply Wp.opN; (apply Evt.all; intro; (simp []) <;> (try simp (disch := omega) only [wrap_id]) <;> first | exact ⟨rfl, rfl⟩ | exact rfl)) | (apply Wp.opG; (exact rfl); (apply Evt.all; intro; (simp []) <;> (try simp (disch := omega) only [wrap_id]) <;> first | exact ⟨rfl, rfl⟩ | exact rfl)) | (apply Wp.opS; (exact rfl); decide) | (apply Wp.opS0; (exact rfl)))
      refine ⟨?_, fun e => absurd e h0⟩
      simp [trimO, trim, rowsU, shf, h0, refU]
  · cases ht1
theorem tw_s (l : List Row) (out : List (List U)) (cnt t i j : Nat) (hi : i < l.length) (h : j < l[i].to.length) (hj : 0 < j) (ht : t < 2) (h30 : l.length ≤ 30) (hl : l[i].to.length < 1000000000000) :
    Wp T c_joinerylaw12_RefineTwice_L0 ⟨twE l cnt t i j, twS out l[i].c (l[i].to.map (shf l.length t)) j⟩ (fun s' => trimO 5 s' = ⟨twE l cnt t i (j + 1 : Nat), twS out l[i].c (l[i].to.map (shf l.length t)) (j + 1)⟩ ∧ okR l.length l[i].to[j]) (Res c_joinerylaw12_RefineTwice (.bool true)) (fun _ _ => False) := by
  obtain ⟨tn, htn, htn1, htn2⟩ : ∃ tn : Int, (t : Int) * (l.length : Int) = tn ∧ 0 ≤ tn ∧ tn ≤ 60 := by
    refine ⟨_, rfl, ?_⟩
    have : t = 0 ∨ t = 1 := by omega
    rcases this with rfl | rfl <;> simp <;> omega
  have hw1 : IntKind.wrap .i64 ((t : Int) * (l.length : Int)) = tn := by rw [htn]; exact wrap_id (by omega) (by omega)
  have hb : (j + 1) * 16 ≤ 140737488355328 := by omega
  have htk : (refsU (l[i].to.map (shf l.length t))).take (j + 1) = (refsU (l[i].to.map (shf l.length t))).take j ++ [refU (shf l.length t l[i].to[j])] := by
    rw [List.take_succ_eq_append_getElem (by simpa [refsU] using h)]
    simp [refsU]
  have hjl : ((refsU (l[i].to.map (shf l.length t))).take j).length = j := by rw [List.length_take, refsU_len, List.length_map]; omega
  simp only [twE, twS]
  rw [htk]
  generalize (refsU (l[i].to.map (shf l.length t))).take j = X at *
  generalize ((l[i].to.map (shf l.length t)).getD 0 (0, 0)).1 = g1
  generalize ((l[i].to.map (shf l.length t)).getD 0 (0, 0)).2 = g2
  repeat (first | apply Wp.seq | apply Wp.skip | apply Wp.block | (apply Wp.op0; ((simp [M2.keep]) <;> rfl)) | (apply Wp.op; (apply Evt.all; intro; (simp [rowsU, hi, rowU_eq, refsU_len, h]) <;> (try simp (disch := omega) only [wrap_id]) <;> first | exact ⟨rfl, rfl⟩ | exact rfl)) | (apply Wp.opN; (apply Evt.all; intro; (simp [rowsU, hi, rowU_eq, refsU_len, h]) <;> (try simp (disch := omega) only [wrap_id]) <;> first | exact ⟨rfl, rfl⟩ | exact rfl)) | (apply Wp.opG; (exact rfl); (apply Evt.all; intro; (simp [rowsU, hi, rowU_eq, refsU_len, h]) <;> (try simp (disch := omega) only [wrap_id]) <;> first | exact ⟨rfl, rfl⟩ | exact rfl)) | (apply Wp.opS; (exact rfl); decide) | (apply Wp.opS0; (exact rfl)))
  refine Wp.cond (by first | rfl | (simp; rfl)) (fun ht1 => ?_) (fun ht1 => ?_)
  · refine Wp.skip ?_
    apply Wp.seq
    apply Wp.block
    apply Wp.seq
    generalize hx : l[i].to[j] = x
    obtain ⟨x1, x2⟩ := x
    (repeat (first | (apply Wp.op; (apply Evt.all; intro; (simp [rowsU, hi, rowU_eq, refsU, h, hx, refU]) <;> (try simp (disch := omega) only [wrap_id]) <;> first | exact ⟨rfl, rfl⟩ | exact rfl)) | (apply Wp.opN; (apply Evt.all; intro; (simp [rowsU, hi, rowU_eq, refsU, h, hx, refU]) <;> (try simp (disch := omega) only [wrap_id]) <;> first | exact ⟨rfl, rfl⟩ | exact rfl)) | (apply Wp.opG; (exact rfl); (apply Evt.all; intro; (simp [rowsU, hi, rowU_eq, refsU, h, hx, refU]) <;> (try simp (disch := omega) only [wrap_id]) <;> first | exact ⟨rfl, rfl⟩ | exact rfl)) | (apply Wp.opS; (exact rfl); decide) | (apply Wp.opS0; (exact rfl)))); refine Wp.op0 (by (simp [M2.keep]) <;> rfl) ?_
    by_cases h0 : x1 = 0
    · subst h0
      by_cases hlo : x2 < 0
      · repeat (first | apply Wp.seq | apply Wp.skip | apply Wp.block | (apply Wp.op0; ((simp [M2.keep]) <;> rfl)) | (apply Wp.op; (apply Evt.all; intro; (simp [hlo]) <;> (try simp (disch := omega) only [wrap_id]) <;> first | exact ⟨rfl, rfl⟩ | exact rfl)) | (apply Wp.opN; (apply Evt.all; intro; (simp [hlo]) <;> (try simp (disch := omega) only [wrap_id]) <;> first | exact ⟨rfl, rfl⟩ | exact rfl)) | (apply Wp.opG; (exact rfl); (apply Evt.all; intro; (simp [hlo]) <;> (try simp (disch := omega) only [wrap_id]) <;> first | exact ⟨rfl, rfl⟩ | exact rfl)) | (apply Wp.opS; (exact rfl); decide) | (apply Wp.opS0; (exact rfl)))
        refine Wp.cond (by first | rfl | (simp; rfl)) (fun ht2 => ?_) (fun ht2 => ?_)
        · repeat (first | apply Wp.seq | apply Wp.skip | apply Wp.block | (apply Wp.op0; ((simp [M2.keep]) <;> rfl)) | (apply Wp.op; (apply Evt.all; intro; (simp []) <;> (try simp (disch := omega) only [wrap_id]) <;> first | exact ⟨rfl, rfl⟩ | exact rfl)) | (apply Wp.opN; (apply Evt.all; intro; (simp []) <;> (try simp (disch := omega) only [wrap_id]) <;> first | exact ⟨rfl, rfl⟩ | exact rfl)) | (apply Wp.opG; (exact rfl); (apply Evt.all; intro; (simp []) <;> (try simp (disch := omega) only [wrap_id]) <;> first | exact ⟨rfl, rfl⟩ | exact rfl)) | (apply Wp.opS; (exact rfl); decide) | (apply Wp.opS0; (exact rfl)))
          apply Wp.call
          · exact knows_call _
          repeat (first | apply Wp.seq | apply Wp.skip | apply Wp.block | (apply Wp.op0; ((simp [M2.keep]) <;> rfl)) | (apply Wp.op; (apply Evt.all; intro; (simp []) <;> (try simp (disch := omega) only [wrap_id]) <;> first | exact ⟨rfl, rfl⟩ | exact rfl)) | (apply Wp.opN; (apply Evt.all; intro; (simp []) <;> (try simp (disch := omega) only [wrap_id]) <;> first | exact ⟨rfl, rfl⟩ | exact rfl)) | (apply Wp.opG; (exact rfl); (apply Evt.all; intro; (simp []) <;> (try simp (disch := omega) only [wrap_id]) <;> first | exact ⟨rfl, rfl⟩ | exact rfl)) | (apply Wp.opS; (exact rfl); decide) | (apply Wp.opS0; (exact rfl)))
          refine Wp.ret ?_; simp [Res, resU, res1, c_joinerylaw12_RefineTwice]
        · cases ht2
      by_cases hhi : (l.length : Int) ≤ x2
      · repeat (first | apply Wp.seq | apply Wp.skip | apply Wp.block | (apply Wp.op0; ((simp [M2.keep]) <;> rfl)) | (apply Wp.op; (apply Evt.all; intro; (simp [hlo, hhi]) <;> (try simp (disch := omega) only [wrap_id]) <;> first | exact ⟨rfl, rfl⟩ | exact rfl)) | (apply Wp.opN; (apply Evt.all; intro; (simp [hlo, hhi]) <;> (try simp (disch := omega) only [wrap_id]) <;> first | exact ⟨rfl, rfl⟩ | exact rfl)) | (apply Wp.opG; (exact rfl); (apply Evt.all; intro; (simp [hlo, hhi]) <;> (try simp (disch := omega) only [wrap_id]) <;> first | exact ⟨rfl, rfl⟩ | exact rfl)) | (apply Wp.opS; (exact rfl); decide) | (apply Wp.opS0; (exact rfl)))
        refine Wp.cond (by first | rfl | (simp; rfl)) (fun ht2 => ?_) (fun ht2 => ?_)
        · repeat (first | apply Wp.seq | apply Wp.skip | apply Wp.block | (apply Wp.op0; ((simp [M2.keep]) <;> rfl)) | (apply Wp.op; (apply Evt.all; intro; (simp []) <;> (try simp (disch := omega) only [wrap_id]) <;> first | exact ⟨rfl, rfl⟩ | exact rfl)) | (apply Wp.opN; (apply Evt.all; intro; (simp []) <;> (try simp (disch := omega) only [wrap_id]) <;> first | exact ⟨rfl, rfl⟩ | exact rfl)) | (apply Wp.opG; (exact rfl); (apply Evt.all; intro; (simp []) <;> (try simp (disch := omega) only [wrap_id]) <;> first | exact ⟨rfl, rfl⟩ | exact rfl)) | (apply Wp.opS; (exact rfl); decide) | (apply Wp.opS0; (exact rfl)))
          apply Wp.call
          · exact knows_call _
          repeat (first | apply Wp.seq | apply Wp.skip | apply Wp.block | (apply Wp.op0; ((simp [M2.keep]) <;> rfl)) | (apply Wp.op; (apply Evt.all; intro; (simp []) <;> (try simp (disch := omega) only [wrap_id]) <;> first | exact ⟨rfl, rfl⟩ | exact rfl)) | (apply Wp.opN; (apply Evt.all; intro; (simp []) <;> (try simp (disch := omega) only [wrap_id]) <;> first | exact ⟨rfl, rfl⟩ | exact rfl)) | (apply Wp.opG; (exact rfl); (apply Evt.all; intro; (simp []) <;> (try simp (disch := omega) only [wrap_id]) <;> first | exact ⟨rfl, rfl⟩ | exact rfl)) | (apply Wp.opS; (exact rfl); decide) | (apply Wp.opS0; (exact rfl)))
          refine Wp.ret ?_; simp [Res, resU, res1, c_joinerylaw12_RefineTwice]
        · cases ht2
      have hw2 : IntKind.wrap .i64 (x2 + tn) = x2 + tn := wrap_id (by omega) (by omega)
      repeat (first | apply Wp.seq | apply Wp.skip | apply Wp.block | (apply Wp.op0; ((simp [M2.keep]) <;> rfl)) | (apply Wp.op; (apply Evt.all; intro; (simp [hlo, hhi]) <;> (try simp (disch := omega) only [wrap_id]) <;> first | exact ⟨rfl, rfl⟩ | exact rfl)) | (apply Wp.opN; (apply Evt.all; intro; (simp [hlo, hhi]) <;> (try simp (disch := omega) only [wrap_id]) <;> first | exact ⟨rfl, rfl⟩ | exact rfl)) | (apply Wp.opG; (exact rfl); (apply Evt.all; intro; (simp [hlo, hhi]) <;> (try simp (disch := omega) only [wrap_id]) <;> first | exact ⟨rfl, rfl⟩ | exact rfl)) | (apply Wp.opS; (exact rfl); decide) | (apply Wp.opS0; (exact rfl)))
      refine Wp.cond (by first | rfl | (simp; rfl)) (fun ht2 => ?_) (fun ht2 => ?_)
      · cases ht2
      repeat (first | apply Wp.seq | apply Wp.skip | apply Wp.block | (apply Wp.op0; ((simp [M2.keep]) <;> rfl)) | (apply Wp.op; (apply Evt.all; intro; (simp []) <;> (try simp (disch := omega) only [wrap_id]) <;> first | exact ⟨rfl, rfl⟩ | exact rfl)) | (apply Wp.opN; (apply Evt.all; intro; (simp []) <;> (try simp (disch := omega) only [wrap_id]) <;> first | exact ⟨rfl, rfl⟩ | exact rfl)) | (apply Wp.opG; (exact rfl); (apply Evt.all; intro; (simp []) <;> (try simp (disch := omega) only [wrap_id]) <;> first | exact ⟨rfl, rfl⟩ | exact rfl)) | (apply Wp.opS; (exact rfl); decide) | (apply Wp.opS0; (exact rfl)))
      refine Wp.cond (by first | rfl | (simp; rfl)) (fun ht3 => ?_) (fun ht3 => ?_)
      · repeat (first | apply Wp.seq | apply Wp.skip | apply Wp.block | (apply Wp.op0; ((simp [M2.keep]) <;> rfl)) | (apply Wp.op; (apply Evt.all; intro; (simp [hw1, hw2, hb, hjl]) <;> (try simp (disch := omega) only [wrap_id]) <;> first | exact ⟨rfl, rfl⟩ | exact rfl)) | (apply Wp.opN; (apply Evt.all; intro; (simp [hw1, hw2, hb, hjl]) <;> (try simp (disch := omega) only [wrap_id]) <;> first | exact ⟨rfl, rfl⟩ | exact rfl)) | (apply Wp.opG; (exact rfl); (apply Evt.all; intro; (simp [hw1, hw2, hb, hjl]) <;> (try simp (disch := omega) only [wrap_id]) <;> first | exact ⟨rfl, rfl⟩ | exact rfl)) | (apply Wp.opS; (exact rfl); decide) | (apply Wp.opS0; (exact rfl)))
        refine ⟨?_, fun _ => ⟨by omega, by omega⟩⟩
        simp [trimO, trim, rowsU, shf, htn, refU]
      · cases ht3
    · repeat (first | apply Wp.seq | apply Wp.skip | apply Wp.block | (apply Wp.op0; ((simp [M2.keep]) <;> rfl)) | (apply Wp.op; (apply Evt.all; intro; (simp [h0]) <;> (try simp (disch := omega) only [wrap_id]) <;> first | exact ⟨rfl, rfl⟩ | exact rfl)) | (apply Wp.opN; (apply Evt.all; intro; (simp [h0]) <;> (try simp (disch := omega) only [wrap_id]) <;> first | exact ⟨rfl, rfl⟩ | exact rfl)) | (apply Wp.opG; (exact rfl); (apply Evt.all; intro; (simp [h0]) <;> (try simp (disch := omega) only [wrap_id]) <;> first | exact ⟨rfl, rfl⟩ | exact rfl)) | (apply Wp.opS; (exact rfl); decide) | (apply Wp.opS0; (exact rfl)))
      refine Wp.cond (by first | rfl | (simp; rfl)) (fun ht2 => ?_) (fun ht2 => ?_)
      · cases ht2
      repeat (first | apply Wp.seq | apply Wp.skip | apply Wp.block | (apply Wp.op0; ((simp [M2.keep]) <;> rfl)) | (apply Wp.op; (apply Evt.all; intro; (simp [h0]) <;> (try simp (disch := omega) only [wrap_id]) <;> first | exact ⟨rfl, rfl⟩ | exact rfl)) | (apply Wp.opN; (apply Evt.all; intro; (simp [h0]) <;> (try simp (disch := omega) only [wrap_id]) <;> first | exact ⟨rfl, rfl⟩ | exact rfl)) | (apply Wp.opG; (exact rfl); (apply Evt.all; intro; (simp [h0]) <;> (try simp (disch := omega) only [wrap_id]) <;> first | exact ⟨rfl, rfl⟩ | exact rfl)) | (apply Wp.opS; (exact rfl); decide) | (apply Wp.opS0; (exact rfl)))
      refine Wp.cond (by first | rfl | (simp; rfl)) (fun ht3 => ?_) (fun ht3 => ?_)
      · cases ht3
      repeat (first | apply Wp.seq | apply Wp.skip | apply Wp.block | (apply Wp.op0; ((simp [M2.keep]) <;> rfl)) | (apply Wp.op; (apply Evt.all; intro; (simp [hb, hjl]) <;> (try simp (disch := omega) only [wrap_id]) <;> first | exact ⟨rfl, rfl⟩ | exact rfl)) | (apply Wp.opN; (apply Evt.all; intro; (simp [hb, hjl]) <;> (try simp (disch := omega) only [wrap_id]) <;> first | exact ⟨rfl, rfl⟩ | exact rfl)) | (apply Wp.opG; (exact rfl); (apply Evt.all; intro; (simp [hb, hjl]) <;> (try simp (disch := omega) only [wrap_id]) <;> first | exact ⟨rfl, rfl⟩ | exact rfl)) | (apply Wp.opS; (exact rfl); decide) | (apply Wp.opS0; (exact rfl)))
      refine ⟨?_, fun e => absurd e h0⟩
      simp [trimO, trim, rowsU, shf, h0, refU]
  · cases ht1
end Go.Proofs.Ytaefnggoempdlaa.M2

/- The law RefineTwice in M2. Part 2: the building loops. -/
namespace Go.Proofs.Ytaefnggoempdlaa.M2
open Go
attribute [local simp] ev1 M2.get put A.ev ld sub part elems bin arith un opt idx fillC cellsO splice over newOb sto fillR laidOwn appTo appRow touch touchN touchM touchE touchA plainU flatU plainAs allM rowAt stoRow accM_nil accM_cons accMM_nil accMM_cons frz_int frz_bool frz_str frz_slt frz_nils frz_nilI frz_nilF frz_own frzRow_row frzRow_frow Ob.blw blw_bool blw_int blw_str blw_nils blw_nilI blw_nilF blw_nilp blw_nilm blw_sl blw_own blw_bp blw_rp blw_mp blw_it params
attribute [local simp] beq_dec bne_dec

theorem tw0_loop (l : List Row) (out : List (List U)) (cnt t i : Nat) (hi : i < l.length) (ht : t < 2) (h30 : l.length ≤ 30) (hl : l[i].to.length < 1000000000000) :
    Wp T (.loop c_joinerylaw12_RefineTwice_L0) ⟨twE l cnt t i (0 : Nat), twSt out l[i].c (l[i].to.map (shf l.length t)) 0⟩ (fun _ => False) (Res c_joinerylaw12_RefineTwice (.bool true))
      (fun b s' => b = 4 ∧ s' = ⟨twE l cnt t i l[i].to.length ++ [(46, .bool false)], twSt out l[i].c (l[i].to.map (shf l.length t)) l[i].to.length⟩ ∧ ∀ m (h : m < l[i].to.length), okR l.length l[i].to[m]) := by
  refine Wp.count l[i].to.length (fun j => ⟨twE l cnt t i j, twSt out l[i].c (l[i].to.map (shf l.length t)) j⟩) (fun j => ∀ m (h : m < l[i].to.length), m < j → okR l.length l[i].to[m]) (fun j hj hP => ?_) (fun hP => ?_) 0 (by omega) (fun m _ h => absurd h (by omega))
  · have ext : okR l.length l[i].to[j] → ∀ m (h : m < l[i].to.length), m < j + 1 → okR l.length l[i].to[m] := fun hk m h hm => by
      by_cases e : m = j
      · subst e; exact hk
      · exact hP m h (by omega)
    cases j with
    | zero => exact (tw_0 l out cnt t i hi hj ht h30).imp (fun s h => ⟨h.1, ext h.2⟩) (fun _ h => h) (fun _ _ h => h.elim)
    | succ j => exact (tw_s l out cnt t i (j + 1) hi hj (by omega) ht h30 hl).imp (fun s h => ⟨h.1, ext h.2⟩) (fun _ h => h) (fun _ _ h => h.elim)
  · simp only [twE]
    repeat (first | apply Wp.seq | apply Wp.skip | apply Wp.block | (apply Wp.op0; ((simp [M2.keep]) <;> rfl)) | (apply Wp.op; (apply Evt.all; intro; (simp [rowsU, hi, rowU_eq, refsU_len]) <;> (try simp (disch := omega) only [wrap_id]) <;> first | exact ⟨rfl, rfl⟩ | exact rfl)) | (apply Wp.opN; (apply Evt.all; intro; (simp [rowsU, hi, rowU_eq, refsU_len]) <;> (try simp (disch := omega) only [wrap_id]) <;> first | exact ⟨rfl, rfl⟩ | exact rfl)) | (apply Wp.opG; (exact rfl); (apply Evt.all; intro; (simp [rowsU, hi, rowU_eq, refsU_len]) <;> (try simp (disch := omega) only [wrap_id]) <;> first | exact ⟨rfl, rfl⟩ | exact rfl)) | (apply Wp.opS; (exact rfl); decide) | (apply Wp.opS0; (exact rfl)))
    refine Wp.cond (by first | rfl | (simp; rfl)) (fun ht1 => ?_) (fun ht1 => ?_)
    · simp at ht1
    · exact Wp.exit ⟨rfl, by simp [rowsU], fun m h => hP m h h⟩
def tw1S (l : List Row) (base : List (List U)) (b t i : Nat) : S := ⟨[(0, rowsU false l), (3, i64 l.length), (4, .own 0 (b + i)), (5, i64 t), (6, i64 i)], [.row 38 2 false (base ++ ((l.map (copy l.length t)).map rowU).take i)]⟩
theorem tw1_step (l : List Row) (base : List (List U)) (b t i : Nat) (hi : i < l.length) (ht : t < 2) (h30 : l.length ≤ 30) (hl : l[i].to.length < 1000000000000) (hb : base.length = b) (hb2 : b ≤ 30) :
    Wp T c_joinerylaw12_RefineTwice_L1 (tw1S l base b t i) (fun s' => trimO 1 s' = tw1S l base b t (i + 1) ∧ ∀ m (h : m < l[i].to.length), okR l.length l[i].to[m]) (Res c_joinerylaw12_RefineTwice (.bool true)) (fun _ _ => False) := by
  have h1 : (b + i + 1) * 32 ≤ 140737488355328 := by omega
  have hX : ((l.map (copy l.length t)).map rowU).take (i + 1) = ((l.map (copy l.length t)).map rowU).take i ++ [[i64 l[i].c, .sl true (refsU (l[i].to.map (shf l.length t)))]] := by
    rw [List.take_succ_eq_append_getElem (by simpa using hi)]
    simp [rowU, copy]
  have hXl : (base ++ ((l.map (copy l.length t)).map rowU).take i).length = b + i := by
    rw [List.length_append, List.length_take, hb, List.length_map, List.length_map]; omega
  simp only [tw1S]
  rw [hX, ← List.append_assoc, show b + (i + 1) = b + i + 1 by omega]
  generalize base ++ ((l.map (copy l.length t)).map rowU).take i = X at *
  repeat (first | apply Wp.seq | apply Wp.skip | apply Wp.block | (apply Wp.op0; ((simp [M2.keep]) <;> rfl)) | (apply Wp.op; (apply Evt.all; intro; (simp [rowsU, hi]) <;> (try simp (disch := omega) only [wrap_id]) <;> first | exact ⟨rfl, rfl⟩ | exact rfl)) | (apply Wp.opN; (apply Evt.all; intro; (simp [rowsU, hi]) <;> (try simp (disch := omega) only [wrap_id]) <;> first | exact ⟨rfl, rfl⟩ | exact rfl)) | (apply Wp.opG; (exact rfl); (apply Evt.all; intro; (simp [rowsU, hi]) <;> (try simp (disch := omega) only [wrap_id]) <;> first | exact ⟨rfl, rfl⟩ | exact rfl)) | (apply Wp.opS; (exact rfl); decide) | (apply Wp.opS0; (exact rfl)))
  refine Wp.cond (by first | rfl | (simp; rfl)) (fun ht1 => ?_) (fun ht1 => ?_)
  · repeat (first | apply Wp.seq | apply Wp.skip | apply Wp.block | (apply Wp.op0; ((simp [M2.keep]) <;> rfl)) | (apply Wp.op; (apply Evt.all; intro; (simp [rowsU, hi, rowU_eq]) <;> (try simp (disch := omega) only [wrap_id]) <;> first | exact ⟨rfl, rfl⟩ | exact rfl)) | (apply Wp.opN; (apply Evt.all; intro; (simp [rowsU, hi, rowU_eq]) <;> (try simp (disch := omega) only [wrap_id]) <;> first | exact ⟨rfl, rfl⟩ | exact rfl)) | (apply Wp.opG; (exact rfl); (apply Evt.all; intro; (simp [rowsU, hi, rowU_eq]) <;> (try simp (disch := omega) only [wrap_id]) <;> first | exact ⟨rfl, rfl⟩ | exact rfl)) | (apply Wp.opS; (exact rfl); decide) | (apply Wp.opS0; (exact rfl)))
    refine (tw0_loop l X (b + i) t i hi ht h30 hl).imp (fun _ h => h.elim) (fun _ h => h) ?_
    rintro c s ⟨rfl, rfl, hok⟩
    rw [if_pos rfl]
    simp only [twE, List.cons_append, List.nil_append]
    rcases Nat.eq_zero_or_pos l[i].to.length with h0 | h0
    · have e : twSt X l[i].c (l[i].to.map (shf l.length t)) l[i].to.length = [.row 38 2 false X, .box [i64 l[i].c, .nils]] := by rw [h0]; rfl
      have e2 : l[i].to = [] := List.eq_nil_of_length_eq_zero h0
      rw [e]
      repeat (first | apply Wp.seq | apply Wp.skip | apply Wp.block | (apply Wp.op0; ((simp [M2.keep]) <;> rfl)) | (apply Wp.op; (apply Evt.all; intro; (simp [hXl, h1]) <;> (try simp (disch := omega) only [wrap_id]) <;> first | exact ⟨rfl, rfl⟩ | exact rfl)) | (apply Wp.opN; (apply Evt.all; intro; (simp [hXl, h1]) <;> (try simp (disch := omega) only [wrap_id]) <;> first | exact ⟨rfl, rfl⟩ | exact rfl)) | (apply Wp.opG; (exact rfl); (apply Evt.all; intro; (simp [hXl, h1]) <;> (try simp (disch := omega) only [wrap_id]) <;> first | exact ⟨rfl, rfl⟩ | exact rfl)) | (apply Wp.opS; (exact rfl); decide) | (apply Wp.opS0; (exact rfl)))
      refine ⟨?_, hok⟩
      simp [trimO, trim, rowsU, e2, refsU]
    · have h6 : ((refsU (l[i].to.map (shf l.length t))).take l[i].to.length) = refsU (l[i].to.map (shf l.length t)) := by
        rw [List.take_of_length_le]; rw [refsU_len, List.length_map]; exact Nat.le_refl _
      have h7 : (refsU (l[i].to.map (shf l.length t))).length = l[i].to.length := by rw [refsU_len, List.length_map]
      have e : twSt X l[i].c (l[i].to.map (shf l.length t)) l[i].to.length = twS X l[i].c (l[i].to.map (shf l.length t)) l[i].to.length := by
        obtain ⟨n, hn⟩ : ∃ n, l[i].to.length = n + 1 := ⟨l[i].to.length - 1, by omega⟩
        rw [hn]; rfl
      rw [e, twS, h6]
      repeat (first | apply Wp.seq | apply Wp.skip | apply Wp.block | (apply Wp.op0; ((simp [M2.keep]) <;> rfl)) | (apply Wp.op; (apply Evt.all; intro; (simp [hXl, h1, h7]) <;> (try simp (disch := omega) only [wrap_id]) <;> first | exact ⟨rfl, rfl⟩ | exact rfl)) | (apply Wp.opN; (apply Evt.all; intro; (simp [hXl, h1, h7]) <;> (try simp (disch := omega) only [wrap_id]) <;> first | exact ⟨rfl, rfl⟩ | exact rfl)) | (apply Wp.opG; (exact rfl); (apply Evt.all; intro; (simp [hXl, h1, h7]) <;> (try simp (disch := omega) only [wrap_id]) <;> first | exact ⟨rfl, rfl⟩ | exact rfl)) | (apply Wp.opS; (exact rfl); decide) | (apply Wp.opS0; (exact rfl)))
      refine ⟨?_, hok⟩
      simp [trimO, trim, rowsU]
  · cases ht1
theorem tw1_loop (l : List Row) (base : List (List U)) (b t : Nat) (ht : t < 2) (h30 : l.length ≤ 30) (hl : ∀ r ∈ l, r.to.length < 1000000000000) (hb : base.length = b) (hb2 : b ≤ 30) :
    Wp T (.loop c_joinerylaw12_RefineTwice_L1) (tw1S l base b t 0) (fun _ => False) (Res c_joinerylaw12_RefineTwice (.bool true))
      (fun x s' => x = 2 ∧ s' = ⟨[(0, rowsU false l), (3, i64 l.length), (4, .own 0 (b + l.length)), (5, i64 t), (6, i64 l.length), (30, .bool false)], [.row 38 2 false (base ++ (l.map (copy l.length t)).map rowU)]⟩ ∧ inR l) := by
  refine Wp.count l.length (tw1S l base b t) (fun i => ∀ j (h : j < l.length), j < i → ∀ m (h : m < l[j].to.length), okR l.length l[j].to[m]) (fun i hi hP => ?_) (fun hP => ?_) 0 (by omega) (fun j _ h => absurd h (by omega))
  · refine (tw1_step l base b t i hi ht h30 (hl _ (List.getElem_mem hi)) hb hb2).imp (fun s h => ⟨h.1, fun j hj hji => ?_⟩) (fun _ h => h) (fun _ _ h => h.elim)
    by_cases e : j = i
    · subst e; exact h.2
    · exact hP j hj (by omega)
  · simp only [tw1S]
    repeat (first | apply Wp.seq | apply Wp.skip | apply Wp.block | (apply Wp.op0; ((simp [M2.keep]) <;> rfl)) | (apply Wp.op; (apply Evt.all; intro; (simp [rowsU]) <;> (try simp (disch := omega) only [wrap_id]) <;> first | exact ⟨rfl, rfl⟩ | exact rfl)) | (apply Wp.opN; (apply Evt.all; intro; (simp [rowsU]) <;> (try simp (disch := omega) only [wrap_id]) <;> first | exact ⟨rfl, rfl⟩ | exact rfl)) | (apply Wp.opG; (exact rfl); (apply Evt.all; intro; (simp [rowsU]) <;> (try simp (disch := omega) only [wrap_id]) <;> first | exact ⟨rfl, rfl⟩ | exact rfl)) | (apply Wp.opS; (exact rfl); decide) | (apply Wp.opS0; (exact rfl)))
    refine Wp.cond (by first | rfl | (simp; rfl)) (fun ht1 => ?_) (fun ht1 => ?_)
    · simp at ht1
    · refine Wp.exit ⟨rfl, by simp [rowsU, List.take_of_length_le], fun r hr x hx => ?_⟩
      obtain ⟨j, hj, rfl⟩ := List.mem_iff_getElem.1 hr
      obtain ⟨m, hm, rfl⟩ := List.mem_iff_getElem.1 hx
      exact hP j hj hj m hm
def tw2S (l : List Row) : Nat → S
  | 0 => ⟨[(0, rowsU false l), (3, i64 l.length), (4, .own 0 0), (5, i64 (0 : Nat))], [.row 38 2 false []]⟩
  | 1 => ⟨[(0, rowsU false l), (3, i64 l.length), (4, .own 0 l.length), (5, i64 (1 : Nat))], [.row 38 2 false ((l.map (copy l.length 0)).map rowU)]⟩
  | _ => ⟨[(0, rowsU false l), (3, i64 l.length), (4, .own 0 (l.length + l.length)), (5, i64 (2 : Nat))], [.row 38 2 false ((twice l).map rowU)]⟩
theorem tw2_loop (l : List Row) (h30 : l.length ≤ 30) (hl : ∀ r ∈ l, r.to.length < 1000000000000) :
    Wp T (.loop c_joinerylaw12_RefineTwice_L2) (tw2S l 0) (fun _ => False) (Res c_joinerylaw12_RefineTwice (.bool true)) (fun x s' => x = 0 ∧ s' = ⟨(tw2S l 2).env ++ [(24, .bool false)], (tw2S l 2).st⟩ ∧ inR l) := by
  refine Wp.count 2 (tw2S l) (fun i => 0 < i → inR l) (fun i hi hP => ?_) (fun hP => ?_) 0 (by omega) (fun h => absurd h (by omega))
  · have : i = 0 ∨ i = 1 := by omega
    rcases this with rfl | rfl
    · simp only [tw2S]
      repeat (first | apply Wp.seq | apply Wp.skip | apply Wp.block | (apply Wp.op0; ((simp [M2.keep]) <;> rfl)) | (apply Wp.op; (apply Evt.all; intro; (simp []) <;> (try simp (disch := omega) only [wrap_id]) <;> first | exact ⟨rfl, rfl⟩ | exact rfl)) | (apply Wp.opN; (apply Evt.all; intro; (simp []) <;> (try simp (disch := omega) only [wrap_id]) <;> first | exact ⟨rfl, rfl⟩ | exact rfl)) | (apply Wp.opG; (exact rfl); (apply Evt.all; intro; (simp []) <;> (try simp (disch := omega) only [wrap_id]) <;> first | exact ⟨rfl, rfl⟩ | exact rfl)) | (apply Wp.opS; (exact rfl); decide) | (apply Wp.opS0; (exact rfl)))
      refine Wp.cond (by first | rfl | (simp; rfl)) (fun ht1 => ?_) (fun ht1 => ?_)
      · repeat (first | apply Wp.seq | apply Wp.skip | apply Wp.block | (apply Wp.op0; ((simp [M2.keep]) <;> rfl)) | (apply Wp.op; (apply Evt.all; intro; (simp []) <;> (try simp (disch := omega) only [wrap_id]) <;> first | exact ⟨rfl, rfl⟩ | exact rfl)) | (apply Wp.opN; (apply Evt.all; intro; (simp []) <;> (try simp (disch := omega) only [wrap_id]) <;> first | exact ⟨rfl, rfl⟩ | exact rfl)) | (apply Wp.opG; (exact rfl); (apply Evt.all; intro; (simp []) <;> (try simp (disch := omega) only [wrap_id]) <;> first | exact ⟨rfl, rfl⟩ | exact rfl)) | (apply Wp.opS; (exact rfl); decide) | (apply Wp.opS0; (exact rfl)))
        refine (show Wp T (.loop c_joinerylaw12_RefineTwice_L1) (tw1S l [] 0 0 0) _ _ _ from (tw1_loop l [] 0 0 (by omega) h30 hl rfl (by omega)).imp (fun _ h => h.elim) (fun _ h => h) ?_)
        rintro x s ⟨rfl, rfl, hR⟩
        rw [if_pos rfl]
        repeat (first | apply Wp.seq | apply Wp.skip | apply Wp.block | (apply Wp.op0; ((simp [M2.keep]) <;> rfl)) | (apply Wp.op; (apply Evt.all; intro; (simp []) <;> (try simp (disch := omega) only [wrap_id]) <;> first | exact ⟨rfl, rfl⟩ | exact rfl)) | (apply Wp.opN; (apply Evt.all; intro; (simp []) <;> (try simp (disch := omega) only [wrap_id]) <;> first | exact ⟨rfl, rfl⟩ | exact rfl)) | (apply Wp.opG; (exact rfl); (apply Evt.all; intro; (simp []) <;> (try simp (disch := omega) only [wrap_id]) <;> first | exact ⟨rfl, rfl⟩ | exact rfl)) | (apply Wp.opS; (exact rfl); decide) | (apply Wp.opS0; (exact rfl)))
        exact ⟨by simp [trimO, trim, rowsU], fun _ => hR⟩
      · simp at ht1
    · simp only [tw2S]
      repeat (first | apply Wp.seq | apply Wp.skip | apply Wp.block | (apply Wp.op0; ((simp [M2.keep]) <;> rfl)) | (apply Wp.op; (apply Evt.all; intro; (simp []) <;> (try simp (disch := omega) only [wrap_id]) <;> first | exact ⟨rfl, rfl⟩ | exact rfl)) | (apply Wp.opN; (apply Evt.all; intro; (simp []) <;> (try simp (disch := omega) only [wrap_id]) <;> first | exact ⟨rfl, rfl⟩ | exact rfl)) | (apply Wp.opG; (exact rfl); (apply Evt.all; intro; (simp []) <;> (try simp (disch := omega) only [wrap_id]) <;> first | exact ⟨rfl, rfl⟩ | exact rfl)) | (apply Wp.opS; (exact rfl); decide) | (apply Wp.opS0; (exact rfl)))
      refine Wp.cond (by first | rfl | (simp; rfl)) (fun ht1 => ?_) (fun ht1 => ?_)
      · repeat (first | apply Wp.seq | apply Wp.skip | apply Wp.block | (apply Wp.op0; ((simp [M2.keep]) <;> rfl)) | (apply Wp.op; (apply Evt.all; intro; (simp []) <;> (try simp (disch := omega) only [wrap_id]) <;> first | exact ⟨rfl, rfl⟩ | exact rfl)) | (apply Wp.opN; (apply Evt.all; intro; (simp []) <;> (try simp (disch := omega) only [wrap_id]) <;> first | exact ⟨rfl, rfl⟩ | exact rfl)) | (apply Wp.opG; (exact rfl); (apply Evt.all; intro; (simp []) <;> (try simp (disch := omega) only [wrap_id]) <;> first | exact ⟨rfl, rfl⟩ | exact rfl)) | (apply Wp.opS; (exact rfl); decide) | (apply Wp.opS0; (exact rfl)))
        have h0 : ((l.map (copy l.length 0)).map rowU).length = l.length := by simp
        have hst : (⟨[(0, rowsU false l), (3, i64 l.length), (4, .own 0 l.length), (5, i64 1), (6, .int .i64 0)], [.row 38 2 false (l.map (rowU ∘ copy l.length 0))]⟩ : S) = tw1S l ((l.map (copy l.length 0)).map rowU) l.length 1 0 := by simp [tw1S]
        rw [hst]
        refine (tw1_loop l ((l.map (copy l.length 0)).map rowU) l.length 1 (by omega) h30 hl h0 h30).imp (fun _ h => h.elim) (fun _ h => h) ?_
        rintro x s ⟨rfl, rfl, hR⟩
        rw [if_pos rfl]
        repeat (first | apply Wp.seq | apply Wp.skip | apply Wp.block | (apply Wp.op0; ((simp [M2.keep]) <;> rfl)) | (apply Wp.op; (apply Evt.all; intro; (simp []) <;> (try simp (disch := omega) only [wrap_id]) <;> first | exact ⟨rfl, rfl⟩ | exact rfl)) | (apply Wp.opN; (apply Evt.all; intro; (simp []) <;> (try simp (disch := omega) only [wrap_id]) <;> first | exact ⟨rfl, rfl⟩ | exact rfl)) | (apply Wp.opG; (exact rfl); (apply Evt.all; intro; (simp []) <;> (try simp (disch := omega) only [wrap_id]) <;> first | exact ⟨rfl, rfl⟩ | exact rfl)) | (apply Wp.opS; (exact rfl); decide) | (apply Wp.opS0; (exact rfl)))
        exact ⟨by simp [trimO, trim, rowsU, twice], fun _ => hR⟩
      · simp at ht1
  · simp only [tw2S]
    repeat (first | apply Wp.seq | apply Wp.skip | apply Wp.block | (apply Wp.op0; ((simp [M2.keep]) <;> rfl)) | (apply Wp.op; (apply Evt.all; intro; (simp []) <;> (try simp (disch := omega) only [wrap_id]) <;> first | exact ⟨rfl, rfl⟩ | exact rfl)) | (apply Wp.opN; (apply Evt.all; intro; (simp []) <;> (try simp (disch := omega) only [wrap_id]) <;> first | exact ⟨rfl, rfl⟩ | exact rfl)) | (apply Wp.opG; (exact rfl); (apply Evt.all; intro; (simp []) <;> (try simp (disch := omega) only [wrap_id]) <;> first | exact ⟨rfl, rfl⟩ | exact rfl)) | (apply Wp.opS; (exact rfl); decide) | (apply Wp.opS0; (exact rfl)))
    refine Wp.cond (by first | rfl | (simp; rfl)) (fun ht1 => ?_) (fun ht1 => ?_)
    · simp at ht1
    · exact Wp.exit ⟨rfl, by simp, hP (by omega)⟩
end Go.Proofs.Ytaefnggoempdlaa.M2

/- The law RefineTwice in M2. Part 3. -/
namespace Go.Proofs.Ytaefnggoempdlaa.M2
open Go
attribute [local simp] ev1 M2.get put A.ev ld sub part elems bin arith un opt idx fillC cellsO splice over newOb sto fillR laidOwn appTo appRow touch touchN touchM touchE touchA plainU flatU plainAs allM rowAt stoRow accM_nil accM_cons accMM_nil accMM_cons frz_int frz_bool frz_str frz_slt frz_nils frz_nilI frz_nilF frz_own frzRow_row frzRow_frow Ob.blw blw_bool blw_int blw_str blw_nils blw_nilI blw_nilF blw_nilp blw_nilm blw_sl blw_own blw_bp blw_rp blw_mp blw_it params
attribute [local simp] beq_dec bne_dec

theorem Cl.lent {T : Nat → Option F} {f : Nat} {fn : F} {xs ys : List U} {st : List Ob} {u : U} (hT : T f = some fn) (hp : fn.pure = true) (hl : xs.length = ys.length) (hx : allM (brw frzD st) xs = some ys) (hy : allM (brw frzD st) ys = some ys) (h : Cl T f ys st u st) : Cl T f xs st u st :=
  h.mono fun n h => by
    simp only [M2.call, callF, hT, Option.bind_some, hp, if_true, hx, hy, hl] at h ⊢
    exact h
theorem twice_small {l : List Row} (hl : ∀ r ∈ l, r.to.length < 1000000000000) : ∀ r ∈ twice l, r.to.length < 1000000000000 := by
  intro r hr
  simp only [twice, List.mem_append, List.mem_map] at hr
  rcases hr with ⟨x, hx, rfl⟩ | ⟨x, hx, rfl⟩ <;> simpa [copy] using hl x hx
theorem tw4_loop (l : List Row) (C C2 : List Nat) (X : List (List U)) (h30 : l.length ≤ 30) (hC : C.length = l.length) (hC2 : C2.length = l.length + l.length) (h : ∀ i, i < l.length → C2.getD i 0 = C.getD i 0 ∧ C2.getD (i + l.length) 0 = C.getD i 0) :
    Wp T (.loop c_joinerylaw12_RefineTwice_L4) ⟨[(0, rowsU false l), (10, .sl true (natsU C)), (11, .sl true (natsU C2)), (12, i64 (0 : Nat))], [.row 38 2 false X]⟩ (fun _ => False) (fun _ => False) (fun b _ => b = 6) := by
  refine Wp.count l.length (fun i => ⟨[(0, rowsU false l), (10, .sl true (natsU C)), (11, .sl true (natsU C2)), (12, i64 i)], [.row 38 2 false X]⟩) (fun _ => True) (fun i hi _ => ?_) (fun _ => ?_) 0 (by omega) trivial
  · have h1 : i < C.length := by omega
    have h2 : i < C2.length := by omega
    obtain ⟨j, hj⟩ : ∃ j, i + l.length = j := ⟨_, rfl⟩
    have h3 : j < C2.length := by omega
    have hji : (i : Int) + (l.length : Int) = (j : Int) := by omega
    obtain ⟨e1, e2⟩ := h i hi
    rw [hj] at e2
    rw [getNat h1, getNat h2] at e1
    rw [getNat h1, getNat h3] at e2
    repeat (first | apply Wp.seq | apply Wp.skip | apply Wp.block | (apply Wp.op0; ((simp [M2.keep]) <;> rfl)) | (apply Wp.op; (apply Evt.all; intro; (simp [rowsU, hi]) <;> (try simp (disch := omega) only [wrap_id]) <;> first | exact ⟨rfl, rfl⟩ | exact rfl)) | (apply Wp.opN; (apply Evt.all; intro; (simp [rowsU, hi]) <;> (try simp (disch := omega) only [wrap_id]) <;> first | exact ⟨rfl, rfl⟩ | exact rfl)) | (apply Wp.opG; (exact rfl); (apply Evt.all; intro; (simp [rowsU, hi]) <;> (try simp (disch := omega) only [wrap_id]) <;> first | exact ⟨rfl, rfl⟩ | exact rfl)) | (apply Wp.opS; (exact rfl); decide) | (apply Wp.opS0; (exact rfl)))
    refine Wp.cond (by first | rfl | (simp; rfl)) (fun ht1 => ?_) (fun ht1 => ?_)
    · refine Wp.skip ?_
      apply Wp.seq
      apply Wp.block
      apply Wp.seq
      have hw : IntKind.wrap .i64 (j : Int) = j := wrap_id (by omega) (by omega)
      refine Wp.draw (by (simp [c_joinerylaw12_RefineTwice_D3, I.need]) <;> rfl) (by (simp [natsU_len, natsU_getE, h1, h2, h3, e1, e2, rowsU, hji, hw]) <;> rfl) (by (simp [natsU_len, natsU_getE, h1, h2, h3, e1, e2, rowsU, hji, hw]) <;> rfl) (by (unfold c_joinerylaw12_RefineTwice_D3); (repeat (first | (apply Dr.op; ((simp [natsU_len, natsU_getE, h1, h2, h3, e1, e2, rowsU, hji, hw]) <;> rfl); (apply Evt.all; intro; (simp [natsU_len, natsU_getE, h1, h2, h3, e1, e2, rowsU, hji, hw]) <;> (try simp (disch := omega) only [wrap_id]) <;> first | exact ⟨rfl, rfl⟩ | exact rfl); ((simp [I.need]) <;> rfl)) | (apply Dr.opN; ((simp [natsU_len, natsU_getE, h1, h2, h3, e1, e2, rowsU, hji, hw]) <;> rfl); (apply Evt.all; intro; (simp [natsU_len, natsU_getE, h1, h2, h3, e1, e2, rowsU, hji, hw]) <;> (try simp (disch := omega) only [wrap_id]) <;> first | exact ⟨rfl, rfl⟩ | exact rfl); ((simp [I.need]) <;> rfl)) | (apply Dr.opG; (exact rfl); ((simp [natsU_len, natsU_getE, h1, h2, h3, e1, e2, rowsU, hji, hw]) <;> rfl); (apply Evt.all; intro; (simp [natsU_len, natsU_getE, h1, h2, h3, e1, e2, rowsU, hji, hw]) <;> (try simp (disch := omega) only [wrap_id]) <;> first | exact ⟨rfl, rfl⟩ | exact rfl); ((simp [I.need]) <;> rfl)) | (apply Dr.opS; (exact rfl); decide; ((simp [I.need]) <;> rfl)) | (apply Dr.opS0; (exact rfl); ((simp [I.need]) <;> rfl)))); exact Dr.nil) (by first | decide +kernel | exact rfl) (by (simp [M2.keep]) <;> rfl) ?_
      refine Wp.cond (by first | rfl | (simp; rfl)) (fun ht2 => ?_) (fun ht2 => ?_)
      · cases ht2
      repeat (first | apply Wp.seq | apply Wp.skip | apply Wp.block | (apply Wp.op0; ((simp [M2.keep]) <;> rfl)) | (apply Wp.op; (apply Evt.all; intro; (simp []) <;> (try simp (disch := omega) only [wrap_id]) <;> first | exact ⟨rfl, rfl⟩ | exact rfl)) | (apply Wp.opN; (apply Evt.all; intro; (simp []) <;> (try simp (disch := omega) only [wrap_id]) <;> first | exact ⟨rfl, rfl⟩ | exact rfl)) | (apply Wp.opG; (exact rfl); (apply Evt.all; intro; (simp []) <;> (try simp (disch := omega) only [wrap_id]) <;> first | exact ⟨rfl, rfl⟩ | exact rfl)) | (apply Wp.opS; (exact rfl); decide) | (apply Wp.opS0; (exact rfl)))
      exact ⟨by simp [trimO, trim, rowsU], trivial⟩
    · cases ht1
  · repeat (first | apply Wp.seq | apply Wp.skip | apply Wp.block | (apply Wp.op0; ((simp [M2.keep]) <;> rfl)) | (apply Wp.op; (apply Evt.all; intro; (simp [rowsU]) <;> (try simp (disch := omega) only [wrap_id]) <;> first | exact ⟨rfl, rfl⟩ | exact rfl)) | (apply Wp.opN; (apply Evt.all; intro; (simp [rowsU]) <;> (try simp (disch := omega) only [wrap_id]) <;> first | exact ⟨rfl, rfl⟩ | exact rfl)) | (apply Wp.opG; (exact rfl); (apply Evt.all; intro; (simp [rowsU]) <;> (try simp (disch := omega) only [wrap_id]) <;> first | exact ⟨rfl, rfl⟩ | exact rfl)) | (apply Wp.opS; (exact rfl); decide) | (apply Wp.opS0; (exact rfl)))
    refine Wp.cond (by first | rfl | (simp; rfl)) (fun ht1 => ?_) (fun ht1 => ?_)
    · simp at ht1
    · exact Wp.exit rfl
theorem law8_call (l : List Row) (hlen : l.length < 9223372036854775808) : Cl T 8 [rowsU false l] [] (.bool true) [] := by
  refine Wp.pure (fn := c_joinerylaw12_RefineTwice) rfl rfl rfl («as» := [rowsU false l]) rfl ?_
  repeat (first | apply Wp.seq | apply Wp.skip | apply Wp.block | (apply Wp.op0; ((simp [M2.keep]) <;> rfl)) | (apply Wp.op; (apply Evt.all; intro; (simp []) <;> (try simp (disch := omega) only [wrap_id]) <;> first | exact ⟨rfl, rfl⟩ | exact rfl)) | (apply Wp.opN; (apply Evt.all; intro; (simp []) <;> (try simp (disch := omega) only [wrap_id]) <;> first | exact ⟨rfl, rfl⟩ | exact rfl)) | (apply Wp.opG; (exact rfl); (apply Evt.all; intro; (simp []) <;> (try simp (disch := omega) only [wrap_id]) <;> first | exact ⟨rfl, rfl⟩ | exact rfl)) | (apply Wp.opS; (exact rfl); decide) | (apply Wp.opS0; (exact rfl)))
  apply Wp.call
  · exact great_call l false [] hlen
  cases hg : great l with
  | true =>
    repeat (first | apply Wp.seq | apply Wp.skip | apply Wp.block | (apply Wp.op0; ((simp [M2.keep]) <;> rfl)) | (apply Wp.op; (apply Evt.all; intro; (simp []) <;> (try simp (disch := omega) only [wrap_id]) <;> first | exact ⟨rfl, rfl⟩ | exact rfl)) | (apply Wp.opN; (apply Evt.all; intro; (simp []) <;> (try simp (disch := omega) only [wrap_id]) <;> first | exact ⟨rfl, rfl⟩ | exact rfl)) | (apply Wp.opG; (exact rfl); (apply Evt.all; intro; (simp []) <;> (try simp (disch := omega) only [wrap_id]) <;> first | exact ⟨rfl, rfl⟩ | exact rfl)) | (apply Wp.opS; (exact rfl); decide) | (apply Wp.opS0; (exact rfl)))
    refine Wp.cond (by first | rfl | (simp; rfl)) (fun ht => ?_) (fun ht => ?_)
    · repeat (first | apply Wp.seq | apply Wp.skip | apply Wp.block | (apply Wp.op0; ((simp [M2.keep]) <;> rfl)) | (apply Wp.op; (apply Evt.all; intro; (simp []) <;> (try simp (disch := omega) only [wrap_id]) <;> first | exact ⟨rfl, rfl⟩ | exact rfl)) | (apply Wp.opN; (apply Evt.all; intro; (simp []) <;> (try simp (disch := omega) only [wrap_id]) <;> first | exact ⟨rfl, rfl⟩ | exact rfl)) | (apply Wp.opG; (exact rfl); (apply Evt.all; intro; (simp []) <;> (try simp (disch := omega) only [wrap_id]) <;> first | exact ⟨rfl, rfl⟩ | exact rfl)) | (apply Wp.opS; (exact rfl); decide) | (apply Wp.opS0; (exact rfl)))
      apply Wp.call
      · exact knows_call _
      repeat (first | apply Wp.seq | apply Wp.skip | apply Wp.block | (apply Wp.op0; ((simp [M2.keep]) <;> rfl)) | (apply Wp.op; (apply Evt.all; intro; (simp []) <;> (try simp (disch := omega) only [wrap_id]) <;> first | exact ⟨rfl, rfl⟩ | exact rfl)) | (apply Wp.opN; (apply Evt.all; intro; (simp []) <;> (try simp (disch := omega) only [wrap_id]) <;> first | exact ⟨rfl, rfl⟩ | exact rfl)) | (apply Wp.opG; (exact rfl); (apply Evt.all; intro; (simp []) <;> (try simp (disch := omega) only [wrap_id]) <;> first | exact ⟨rfl, rfl⟩ | exact rfl)) | (apply Wp.opS; (exact rfl); decide) | (apply Wp.opS0; (exact rfl)))
      refine Wp.ret ?_; simp [Res, resU, res1, c_joinerylaw12_RefineTwice]
    · cases ht
  | false =>
    obtain ⟨hl, hs, h60⟩ := great_false hg
    by_cases h30 : (30 : Int) < l.length
    · repeat (first | apply Wp.seq | apply Wp.skip | apply Wp.block | (apply Wp.op0; ((simp [M2.keep]) <;> rfl)) | (apply Wp.op; (apply Evt.all; intro; (simp [rowsU, h30]) <;> (try simp (disch := omega) only [wrap_id]) <;> first | exact ⟨rfl, rfl⟩ | exact rfl)) | (apply Wp.opN; (apply Evt.all; intro; (simp [rowsU, h30]) <;> (try simp (disch := omega) only [wrap_id]) <;> first | exact ⟨rfl, rfl⟩ | exact rfl)) | (apply Wp.opG; (exact rfl); (apply Evt.all; intro; (simp [rowsU, h30]) <;> (try simp (disch := omega) only [wrap_id]) <;> first | exact ⟨rfl, rfl⟩ | exact rfl)) | (apply Wp.opS; (exact rfl); decide) | (apply Wp.opS0; (exact rfl)))
      refine Wp.cond (by first | rfl | (simp; rfl)) (fun ht => ?_) (fun ht => ?_)
      · repeat (first | apply Wp.seq | apply Wp.skip | apply Wp.block | (apply Wp.op0; ((simp [M2.keep]) <;> rfl)) | (apply Wp.op; (apply Evt.all; intro; (simp []) <;> (try simp (disch := omega) only [wrap_id]) <;> first | exact ⟨rfl, rfl⟩ | exact rfl)) | (apply Wp.opN; (apply Evt.all; intro; (simp []) <;> (try simp (disch := omega) only [wrap_id]) <;> first | exact ⟨rfl, rfl⟩ | exact rfl)) | (apply Wp.opG; (exact rfl); (apply Evt.all; intro; (simp []) <;> (try simp (disch := omega) only [wrap_id]) <;> first | exact ⟨rfl, rfl⟩ | exact rfl)) | (apply Wp.opS; (exact rfl); decide) | (apply Wp.opS0; (exact rfl)))
        apply Wp.call
        · exact knows_call _
        repeat (first | apply Wp.seq | apply Wp.skip | apply Wp.block | (apply Wp.op0; ((simp [M2.keep]) <;> rfl)) | (apply Wp.op; (apply Evt.all; intro; (simp []) <;> (try simp (disch := omega) only [wrap_id]) <;> first | exact ⟨rfl, rfl⟩ | exact rfl)) | (apply Wp.opN; (apply Evt.all; intro; (simp []) <;> (try simp (disch := omega) only [wrap_id]) <;> first | exact ⟨rfl, rfl⟩ | exact rfl)) | (apply Wp.opG; (exact rfl); (apply Evt.all; intro; (simp []) <;> (try simp (disch := omega) only [wrap_id]) <;> first | exact ⟨rfl, rfl⟩ | exact rfl)) | (apply Wp.opS; (exact rfl); decide) | (apply Wp.opS0; (exact rfl)))
        refine Wp.ret ?_; simp [Res, resU, res1, c_joinerylaw12_RefineTwice]
      · cases ht
    · have h30' : l.length ≤ 30 := by omega
      obtain ⟨C, hC, h1⟩ := final_calls false l hl hs
      obtain ⟨C2, hC2, h2⟩ := final_calls false (twice l) (twice_small hl) (by rw [twice_len]; omega)
      have hCl := hC.len
      have hCl2 : C2.length = l.length + l.length := by rw [hC2.len, twice_len]
      repeat (first | apply Wp.seq | apply Wp.skip | apply Wp.block | (apply Wp.op0; ((simp [M2.keep]) <;> rfl)) | (apply Wp.op; (apply Evt.all; intro; (simp [rowsU, h30]) <;> (try simp (disch := omega) only [wrap_id]) <;> first | exact ⟨rfl, rfl⟩ | exact rfl)) | (apply Wp.opN; (apply Evt.all; intro; (simp [rowsU, h30]) <;> (try simp (disch := omega) only [wrap_id]) <;> first | exact ⟨rfl, rfl⟩ | exact rfl)) | (apply Wp.opG; (exact rfl); (apply Evt.all; intro; (simp [rowsU, h30]) <;> (try simp (disch := omega) only [wrap_id]) <;> first | exact ⟨rfl, rfl⟩ | exact rfl)) | (apply Wp.opS; (exact rfl); decide) | (apply Wp.opS0; (exact rfl)))
      refine Wp.cond (by first | rfl | (simp; rfl)) (fun ht => ?_) (fun ht => ?_)
      · cases ht
      repeat (first | apply Wp.seq | apply Wp.skip | apply Wp.block | (apply Wp.op0; ((simp [M2.keep]) <;> rfl)) | (apply Wp.op; (apply Evt.all; intro; (simp [rowsU]) <;> (try simp (disch := omega) only [wrap_id]) <;> first | exact ⟨rfl, rfl⟩ | exact rfl)) | (apply Wp.opN; (apply Evt.all; intro; (simp [rowsU]) <;> (try simp (disch := omega) only [wrap_id]) <;> first | exact ⟨rfl, rfl⟩ | exact rfl)) | (apply Wp.opG; (exact rfl); (apply Evt.all; intro; (simp [rowsU]) <;> (try simp (disch := omega) only [wrap_id]) <;> first | exact ⟨rfl, rfl⟩ | exact rfl)) | (apply Wp.opS; (exact rfl); decide) | (apply Wp.opS0; (exact rfl)))
      refine (show Wp T (.loop c_joinerylaw12_RefineTwice_L2) (tw2S l 0) _ _ _ from (tw2_loop l h30' hl).imp (fun _ h => h.elim) (fun _ h => h) ?_)
      rintro x s ⟨rfl, rfl, hR⟩
      rw [if_pos rfl]
      simp only [tw2S, List.cons_append, List.nil_append]
      have hX : ((twice l).map rowU).length = l.length + l.length := by rw [List.length_map, twice_len]
      have hcall : Cl T 11 [.own 0 (l.length + l.length)] [.row 38 2 false ((twice l).map rowU)] (.sl true (natsU C2)) [.row 38 2 false ((twice l).map rowU)] := by
        refine Cl.lent (ys := [rowsU false (twice l)]) (fn := c_refine_Classes) rfl rfl rfl ?_ rfl (h2 _)
        simp only [M2.allM, brw, frzD, List.getElem?_cons_zero, hX, if_true, Option.bind_some]
        rfl
      generalize (twice l).map rowU = X at *
      repeat (first | apply Wp.seq | apply Wp.skip | apply Wp.block | (apply Wp.op0; ((simp [M2.keep]) <;> rfl)) | (apply Wp.op; (apply Evt.all; intro; (simp []) <;> (try simp (disch := omega) only [wrap_id]) <;> first | exact ⟨rfl, rfl⟩ | exact rfl)) | (apply Wp.opN; (apply Evt.all; intro; (simp []) <;> (try simp (disch := omega) only [wrap_id]) <;> first | exact ⟨rfl, rfl⟩ | exact rfl)) | (apply Wp.opG; (exact rfl); (apply Evt.all; intro; (simp []) <;> (try simp (disch := omega) only [wrap_id]) <;> first | exact ⟨rfl, rfl⟩ | exact rfl)) | (apply Wp.opS; (exact rfl); decide) | (apply Wp.opS0; (exact rfl)))
      apply Wp.call
      · exact h1 _
      repeat (first | apply Wp.seq | apply Wp.skip | apply Wp.block | (apply Wp.op0; ((simp [M2.keep]) <;> rfl)) | (apply Wp.op; (apply Evt.all; intro; (simp []) <;> (try simp (disch := omega) only [wrap_id]) <;> first | exact ⟨rfl, rfl⟩ | exact rfl)) | (apply Wp.opN; (apply Evt.all; intro; (simp []) <;> (try simp (disch := omega) only [wrap_id]) <;> first | exact ⟨rfl, rfl⟩ | exact rfl)) | (apply Wp.opG; (exact rfl); (apply Evt.all; intro; (simp []) <;> (try simp (disch := omega) only [wrap_id]) <;> first | exact ⟨rfl, rfl⟩ | exact rfl)) | (apply Wp.opS; (exact rfl); decide) | (apply Wp.opS0; (exact rfl)))
      apply Wp.call
      · exact hcall
      repeat (first | apply Wp.seq | apply Wp.skip | apply Wp.block | (apply Wp.op0; ((simp [M2.keep]) <;> rfl)) | (apply Wp.op; (apply Evt.all; intro; (simp [natsU_len, hCl, hCl2, rowsU, hX]) <;> (try simp (disch := omega) only [wrap_id]) <;> first | exact ⟨rfl, rfl⟩ | exact rfl)) | (apply Wp.opN; (apply Evt.all; intro; (simp [natsU_len, hCl, hCl2, rowsU, hX]) <;> (try simp (disch := omega) only [wrap_id]) <;> first | exact ⟨rfl, rfl⟩ | exact rfl)) | (apply Wp.opG; (exact rfl); (apply Evt.all; intro; (simp [natsU_len, hCl, hCl2, rowsU, hX]) <;> (try simp (disch := omega) only [wrap_id]) <;> first | exact ⟨rfl, rfl⟩ | exact rfl)) | (apply Wp.opS; (exact rfl); decide) | (apply Wp.opS0; (exact rfl)))
      refine Wp.cond (by first | rfl | (simp; rfl)) (fun ht2 => ?_) (fun ht2 => ?_)
      · cases ht2
      repeat (first | apply Wp.seq | apply Wp.skip | apply Wp.block | (apply Wp.op0; ((simp [M2.keep]) <;> rfl)) | (apply Wp.op; (apply Evt.all; intro; (simp []) <;> (try simp (disch := omega) only [wrap_id]) <;> first | exact ⟨rfl, rfl⟩ | exact rfl)) | (apply Wp.opN; (apply Evt.all; intro; (simp []) <;> (try simp (disch := omega) only [wrap_id]) <;> first | exact ⟨rfl, rfl⟩ | exact rfl)) | (apply Wp.opG; (exact rfl); (apply Evt.all; intro; (simp []) <;> (try simp (disch := omega) only [wrap_id]) <;> first | exact ⟨rfl, rfl⟩ | exact rfl)) | (apply Wp.opS; (exact rfl); decide) | (apply Wp.opS0; (exact rfl)))
      refine (show Wp T (.loop c_joinerylaw12_RefineTwice_L4) ⟨[(0, rowsU false l), (10, .sl true (natsU C)), (11, .sl true (natsU C2)), (12, i64 (0 : Nat))], [.row 38 2 false X]⟩ _ _ _ from (tw4_loop l C C2 X h30' hCl hCl2 (fun i hi => twice_final hR hC hC2 i hi)).impB ?_)
      rintro b s rfl
      rw [if_pos rfl]
      repeat (first | apply Wp.seq | apply Wp.skip | apply Wp.block | (apply Wp.op0; ((simp [M2.keep]) <;> rfl)) | (apply Wp.op; (apply Evt.all; intro; (simp []) <;> (try simp (disch := omega) only [wrap_id]) <;> first | exact ⟨rfl, rfl⟩ | exact rfl)) | (apply Wp.opN; (apply Evt.all; intro; (simp []) <;> (try simp (disch := omega) only [wrap_id]) <;> first | exact ⟨rfl, rfl⟩ | exact rfl)) | (apply Wp.opG; (exact rfl); (apply Evt.all; intro; (simp []) <;> (try simp (disch := omega) only [wrap_id]) <;> first | exact ⟨rfl, rfl⟩ | exact rfl)) | (apply Wp.opS; (exact rfl); decide) | (apply Wp.opS0; (exact rfl)))
      apply Wp.call
      · exact knows_call _
      repeat (first | apply Wp.seq | apply Wp.skip | apply Wp.block | (apply Wp.op0; ((simp [M2.keep]) <;> rfl)) | (apply Wp.op; (apply Evt.all; intro; (simp []) <;> (try simp (disch := omega) only [wrap_id]) <;> first | exact ⟨rfl, rfl⟩ | exact rfl)) | (apply Wp.opN; (apply Evt.all; intro; (simp []) <;> (try simp (disch := omega) only [wrap_id]) <;> first | exact ⟨rfl, rfl⟩ | exact rfl)) | (apply Wp.opG; (exact rfl); (apply Evt.all; intro; (simp []) <;> (try simp (disch := omega) only [wrap_id]) <;> first | exact ⟨rfl, rfl⟩ | exact rfl)) | (apply Wp.opS; (exact rfl); decide) | (apply Wp.opS0; (exact rfl)))
      refine Wp.ret ?_; simp [Res, resU, res1, c_joinerylaw12_RefineTwice]
theorem params8 : Try.f8.params.toList = [22] := by kernel_rfl
theorem law8 : Law 8 Try.f8.params.toList := by
  rw [params8]
  intro us hl hty
  match us, hl with
  | [u], _ =>
    obtain ⟨l, rfl, hlen⟩ := typed_rows (hty 0 22 u rfl rfl)
    exact law_of (law8_call l hlen)
end Go.Proofs.Ytaefnggoempdlaa.M2

/- RefineTwice: of things that are there twice, the second ones leading to second ones, each cannot be told from its first one. No condition. -/
namespace Go.Proofs.Ytaefnggoempdlaa
theorem refineTwice_said : Rows.RefineTwiceSaid := M2.twice_holds M2.law8
end Go.Proofs.Ytaefnggoempdlaa
