/- ValueKinds: only from the beginning comes what a register had, and what is nothing; only from a node what it came to, or a place is; and facts are numbers, nothing, or the place itself. No condition. -/
import Derived.Test.YtcehbpimdngjfaaDoorCp
import Derived.Test.YtcehbpimdngjfaaDoorCk
import Derived.Test.YtcehbpimdngjfaaDoorCards
import Derived.Test.YtcehbpimdngjfaaDoorTie
import Derived.SevenTiedAt
set_option linter.unusedSimpArgs false
set_option linter.unusedVariables false
set_option linter.unusedSectionVars false
namespace Go.Proofs.YtcehbpimdngjfaaDoor.M2
open Go
attribute [local simp] ev1 M2.get put A.ev ld sub part elems bin arith un opt idx fillC cellsO splice over newOb sto fillR laidOwn appTo appRow touch touchN touchM touchE touchA plainU flatU plainAs allM rowAt stoRow accM_nil accM_cons accMM_nil accMM_cons frz_int frz_bool frz_str frz_slt frz_nils frz_nilI frz_nilF frz_own frzRow_row frzRow_frow Ob.blw blw_bool blw_int blw_str blw_nils blw_nilI blw_nilF blw_nilp blw_nilm blw_sl blw_own blw_bp blw_rp blw_mp blw_it params
attribute [local simp] frz_agg frz_tup frz_iface frzS_agg frzS_iface accMS_cons frzS_int frzS_bool frzS_str frzS_slt frzS_nils frzS_nilI beq_dec bne_dec
attribute [local irreducible] Typed TypedA
def kindOK (e : Edge) (x : FS) : Prop := x.1 = 2 ∨ (e.1 < 0 ↔ x.1 = 1 ∨ x.1 = 0)
theorem byF_kind {l : List Ins} (hr : rightF l = true) {cut : List Bool} {n : Nat} {e : Edge} (he : e ∈ toF (wE l) (rnE l cut) n) {q : Nat} (hq : q < 24) : kindOK e (byF l (wE l) (rnE l cut) e q) := by
  have hmay := way_src (P := fun _ s => mayF s = true) hr (cut := cut) (fun a ha p hp => (wq_good hr ha).get hp) he hq
  have hb : byF l (wE l) (rnE l cut) e q = byS e.1 (setsF (l.getD ((rnE l cut).getD e.1.toNat (0, [])).1 default)) ((wayOf (wE l) (rnE l cut) e).2.getD q .no) := rfl
  rw [hb]
  cases hs : (wayOf (wE l) (rnE l cut) e).2.getD q .no with
  | no => rw [hs] at hmay; cases hmay
  | is v => exact .inl rfl
  | was L =>
    rw [byS_was]
    by_cases hf : e.1 < 0
    · rw [if_pos hf]
      right
      split <;> simp [hf]
    · rw [if_neg hf]
      right
      split <;> simp [hf]
def vk2S (o1 : Ob) (W A FU : List (List U)) (n i : Nat) (first : Bool) (q : Nat) : S := ⟨[(7, .sl true W), (8, .sl true A), (9, .sl true FU), (10, i64 n), (11, i64 i), (12, .bool first), (13, i64 q)], [o1]⟩
set_option maxHeartbeats 8000000 in
theorem vk2_loop (w0 : Way) (ns0 : List Node) (W A FU : List (List U)) (f : Edge → Nat → FS) (n : Nat) (es : List Edge) (hA : A[n]? = some [.sl true (nodeA f es)]) (i : Nat) (hi : i < es.length) (hk : ∀ q : Nat, q < 24 → kindOK es[i] (f es[i] q)) (R : S → Prop) :
    Wp T (.loop c_joinerylaw11_ValueKinds_L2) (vk2S (.box (skelU w0 ns0)) W A FU n i (decide (es[i].1 < 0)) 0) (fun _ => False) R (fun b s' => b = 4 ∧ s' = ⟨[(7, .sl true W), (8, .sl true A), (9, .sl true FU), (10, i64 n), (11, i64 i), (12, .bool (decide (es[i].1 < 0))), (13, i64 (24 : Nat)), (117, .bool false)], [.box (skelU w0 ns0)]⟩) := by
  have hn := (List.getElem?_eq_some_iff.1 hA).1
  have hn' : (n : Int) < A.length := by omega
  have hi' : (i : Int) < es.length := by omega
  have hne : (nodeA f es)[i]? = some [.sl true (rowU (f es[i]))] := by simp [nodeA, hi]
  have hnl : (nodeA f es).length = es.length := by simp [nodeA]
  have hrl := rowU_len (f es[i])
  generalize nodeA f es = NA at *
  generalize es[i] = e at *
  refine Wp.count 24 (fun q => vk2S (.box (skelU w0 ns0)) W A FU n i (decide (e.1 < 0)) q) (fun _ => True) (fun q hq _ => ?_) (fun _ => ?_) 0 (by omega) trivial
  · have hq' : (q : Int) < 24 := by omega
    have hrq : (rowU (f e))[q]? = some (fsU (f e q)) := by simp [rowU, hq]
    have hkq := hk q hq
    generalize rowU (f e) = RU at *
    generalize f e q = x at *
    obtain ⟨a, b⟩ := x
    unfold kindOK at hkq
    simp only at hkq
    simp only [vk2S]
    repeat (first | apply Wp.seq | apply Wp.skip | apply Wp.block | (apply Wp.op0; ((simp [M2.keep]) <;> rfl)) | ((first | apply Wp.op | apply Wp.opN | (apply Wp.opG; exact rfl)); (apply Evt.all; intro; (simp [hq', hn', hi', hA, hne, hnl, hrl]) <;> (try simp (disch := omega) only [wrap_id]) <;> first | exact ⟨rfl, rfl⟩ | exact rfl)) | (apply Wp.opS; exact rfl; decide) | (apply Wp.opS0; exact rfl))
    refine Wp.cond (by first | rfl | (simp; rfl)) (fun h1 => ?_) (fun h1 => ?_)
    · by_cases h2 : a = 2
      · subst h2
        repeat (first | apply Wp.seq | apply Wp.skip | apply Wp.block | (apply Wp.op0; ((simp [M2.keep]) <;> rfl)) | ((first | apply Wp.op | apply Wp.opN | (apply Wp.opG; exact rfl)); (apply Evt.all; intro; (simp [hq', hn', hi', hA, hne, hnl, hrl, hrq, fsU]) <;> (try simp (disch := omega) only [wrap_id]) <;> first | exact ⟨rfl, rfl⟩ | exact rfl)) | (apply Wp.opS; exact rfl; decide) | (apply Wp.opS0; exact rfl))
        refine Wp.cond (by first | rfl | (simp; rfl)) (fun h3 => ?_) (fun h3 => ?_)
        · cases h3
        · repeat (first | apply Wp.seq | apply Wp.skip | apply Wp.block | (apply Wp.op0; ((simp [M2.keep]) <;> rfl)) | ((first | apply Wp.op | apply Wp.opN | (apply Wp.opG; exact rfl)); (apply Evt.all; intro; (simp [wrap_id]) <;> (try simp (disch := omega) only [wrap_id]) <;> first | exact ⟨rfl, rfl⟩ | exact rfl)) | (apply Wp.opS; exact rfl; decide) | (apply Wp.opS0; exact rfl))
          exact ⟨trimO_len rfl, trivial⟩
      · have hkq := hkq.resolve_left h2
        by_cases h10 : a = 1
        · subst h10
          have hf : e.1 < 0 := hkq.2 (.inl rfl)
          repeat (first | apply Wp.seq | apply Wp.skip | apply Wp.block | (apply Wp.op0; ((simp [M2.keep]) <;> rfl)) | ((first | apply Wp.op | apply Wp.opN | (apply Wp.opG; exact rfl)); (apply Evt.all; intro; (simp [hq', hn', hi', hA, hne, hnl, hrl, hrq, fsU, hf]) <;> (try simp (disch := omega) only [wrap_id]) <;> first | exact ⟨rfl, rfl⟩ | exact rfl)) | (apply Wp.opS; exact rfl; decide) | (apply Wp.opS0; exact rfl))
          refine Wp.cond (by first | rfl | (simp; rfl)) (fun h3 => ?_) (fun h3 => ?_)
          · first | cases h3 | simp [hf] at h3
          · repeat (first | apply Wp.seq | apply Wp.skip | apply Wp.block | (apply Wp.op0; ((simp [M2.keep]) <;> rfl)) | ((first | apply Wp.op | apply Wp.opN | (apply Wp.opG; exact rfl)); (apply Evt.all; intro; (simp [wrap_id]) <;> (try simp (disch := omega) only [wrap_id]) <;> first | exact ⟨rfl, rfl⟩ | exact rfl)) | (apply Wp.opS; exact rfl; decide) | (apply Wp.opS0; exact rfl))
            exact ⟨trimO_len rfl, trivial⟩
        · by_cases h0 : a = 0
          · subst h0
            have hf : e.1 < 0 := hkq.2 (.inr rfl)
            repeat (first | apply Wp.seq | apply Wp.skip | apply Wp.block | (apply Wp.op0; ((simp [M2.keep]) <;> rfl)) | ((first | apply Wp.op | apply Wp.opN | (apply Wp.opG; exact rfl)); (apply Evt.all; intro; (simp [hq', hn', hi', hA, hne, hnl, hrl, hrq, fsU, hf]) <;> (try simp (disch := omega) only [wrap_id]) <;> first | exact ⟨rfl, rfl⟩ | exact rfl)) | (apply Wp.opS; exact rfl; decide) | (apply Wp.opS0; exact rfl))
            refine Wp.cond (by first | rfl | (simp; rfl)) (fun h3 => ?_) (fun h3 => ?_)
            · first | cases h3 | simp [hf] at h3
            · repeat (first | apply Wp.seq | apply Wp.skip | apply Wp.block | (apply Wp.op0; ((simp [M2.keep]) <;> rfl)) | ((first | apply Wp.op | apply Wp.opN | (apply Wp.opG; exact rfl)); (apply Evt.all; intro; (simp [wrap_id]) <;> (try simp (disch := omega) only [wrap_id]) <;> first | exact ⟨rfl, rfl⟩ | exact rfl)) | (apply Wp.opS; exact rfl; decide) | (apply Wp.opS0; exact rfl))
              exact ⟨trimO_len rfl, trivial⟩
          · have hf : ¬ e.1 < 0 := fun h => (hkq.1 h).elim h10 h0
            repeat (first | apply Wp.seq | apply Wp.skip | apply Wp.block | (apply Wp.op0; ((simp [M2.keep]) <;> rfl)) | ((first | apply Wp.op | apply Wp.opN | (apply Wp.opG; exact rfl)); (apply Evt.all; intro; (simp [hq', hn', hi', hA, hne, hnl, hrl, hrq, fsU, hf, h2, h10, h0]) <;> (try simp (disch := omega) only [wrap_id]) <;> first | exact ⟨rfl, rfl⟩ | exact rfl)) | (apply Wp.opS; exact rfl; decide) | (apply Wp.opS0; exact rfl))
            refine Wp.cond (by first | rfl | (simp; rfl)) (fun h3 => ?_) (fun h3 => ?_)
            · first | cases h3 | simp [hf, h2, h10, h0] at h3
            · repeat (first | apply Wp.seq | apply Wp.skip | apply Wp.block | (apply Wp.op0; ((simp [M2.keep]) <;> rfl)) | ((first | apply Wp.op | apply Wp.opN | (apply Wp.opG; exact rfl)); (apply Evt.all; intro; (simp [wrap_id]) <;> (try simp (disch := omega) only [wrap_id]) <;> first | exact ⟨rfl, rfl⟩ | exact rfl)) | (apply Wp.opS; exact rfl; decide) | (apply Wp.opS0; exact rfl))
              exact ⟨trimO_len rfl, trivial⟩
    · cases h1
  · simp only [vk2S]
    repeat (first | apply Wp.seq | apply Wp.skip | apply Wp.block | (apply Wp.op0; ((simp [M2.keep]) <;> rfl)) | ((first | apply Wp.op | apply Wp.opN | (apply Wp.opG; exact rfl)); (apply Evt.all; intro; (simp []) <;> (try simp (disch := omega) only [wrap_id]) <;> first | exact ⟨rfl, rfl⟩ | exact rfl)) | (apply Wp.opS; exact rfl; decide) | (apply Wp.opS0; exact rfl))
    refine Wp.cond (by first | rfl | (simp; rfl)) (fun h1 => ?_) (fun h1 => ?_)
    · cases h1
    · exact Wp.exit ⟨rfl, rfl⟩
def vk3S (o1 : Ob) (W A FU : List (List U)) (n i : Nat) : S := ⟨[(7, .sl true W), (8, .sl true A), (9, .sl true FU), (10, i64 n), (11, i64 i)], [o1]⟩
set_option maxHeartbeats 8000000 in
theorem vk3_loop (w0 : Way) (ns0 : List Node) (W A FU : List (List U)) (f : Edge → Nat → FS) (n : Nat) (es : List Edge) (hes : es.length ≤ 1000) (hA : A[n]? = some [.sl true (nodeA f es)]) (hW : W[n]? = some [.sl true (edR es)]) (hk : ∀ e ∈ es, ∀ q : Nat, q < 24 → kindOK e (f e q)) (R : S → Prop) :
    Wp T (.loop c_joinerylaw11_ValueKinds_L3) (vk3S (.box (skelU w0 ns0)) W A FU n 0) (fun _ => False) R (fun b s' => b = 2 ∧ s' = ⟨[(7, .sl true W), (8, .sl true A), (9, .sl true FU), (10, i64 n), (11, i64 (es.length : Nat)), (92, .bool false)], [.box (skelU w0 ns0)]⟩) := by
  have hn := (List.getElem?_eq_some_iff.1 hA).1
  have hn2 := (List.getElem?_eq_some_iff.1 hW).1
  have hn' : (n : Int) < A.length := by omega
  have hnW : (n : Int) < W.length := by omega
  have hnl : (nodeA f es).length = es.length := by simp [nodeA]
  refine Wp.count es.length (fun i => vk3S (.box (skelU w0 ns0)) W A FU n i) (fun _ => True) (fun i hi _ => ?_) (fun _ => ?_) 0 (by omega) trivial
  · have hi' : (i : Int) < es.length := by omega
    have eg : es[i]? = some es[i] := List.getElem?_eq_getElem hi
    have hlp := vk2_loop w0 ns0 W A FU f n es hA i hi (hk _ (List.getElem_mem hi)) R
    generalize es[i] = e at *
    generalize nodeA f es = NA at *
    simp only [vk3S]
    repeat (first | apply Wp.seq | apply Wp.skip | apply Wp.block | (apply Wp.op0; ((simp [M2.keep]) <;> rfl)) | ((first | apply Wp.op | apply Wp.opN | (apply Wp.opG; exact rfl)); (apply Evt.all; intro; (simp [hn', hA, hnl, hi']) <;> (try simp (disch := omega) only [wrap_id]) <;> first | exact ⟨rfl, rfl⟩ | exact rfl)) | (apply Wp.opS; exact rfl; decide) | (apply Wp.opS0; exact rfl))
    refine Wp.cond (by first | rfl | (simp; rfl)) (fun h1 => ?_) (fun h1 => ?_)
    · repeat (first | apply Wp.seq | apply Wp.skip | apply Wp.block | (apply Wp.op0; ((simp [M2.keep]) <;> rfl)) | ((first | apply Wp.op | apply Wp.opN | (apply Wp.opG; exact rfl)); (apply Evt.all; intro; (simp [hnW, hW, hi', eg, edgeU]) <;> (try simp (disch := omega) only [wrap_id]) <;> first | exact ⟨rfl, rfl⟩ | exact rfl)) | (apply Wp.opS; exact rfl; decide) | (apply Wp.opS0; exact rfl))
      refine (show Wp T (.loop c_joinerylaw11_ValueKinds_L2) (vk2S (.box (skelU w0 ns0)) W A FU n i (decide (e.1 < 0)) 0) _ _ _ from hlp.imp (fun _ h => h.elim) (fun _ h => h) ?_)
      rintro b s ⟨rfl, rfl⟩
      rw [if_pos rfl]
      repeat (first | apply Wp.seq | apply Wp.skip | apply Wp.block | (apply Wp.op0; ((simp [M2.keep]) <;> rfl)) | ((first | apply Wp.op | apply Wp.opN | (apply Wp.opG; exact rfl)); (apply Evt.all; intro; (simp [wrap_id]) <;> (try simp (disch := omega) only [wrap_id]) <;> first | exact ⟨rfl, rfl⟩ | exact rfl)) | (apply Wp.opS; exact rfl; decide) | (apply Wp.opS0; exact rfl))
      exact ⟨trimO_len rfl, trivial⟩
    · cases h1
  · generalize nodeA f es = NA at *
    simp only [vk3S]
    repeat (first | apply Wp.seq | apply Wp.skip | apply Wp.block | (apply Wp.op0; ((simp [M2.keep]) <;> rfl)) | ((first | apply Wp.op | apply Wp.opN | (apply Wp.opG; exact rfl)); (apply Evt.all; intro; (simp [hn', hA, hnl]) <;> (try simp (disch := omega) only [wrap_id]) <;> first | exact ⟨rfl, rfl⟩ | exact rfl)) | (apply Wp.opS; exact rfl; decide) | (apply Wp.opS0; exact rfl))
    refine Wp.cond (by first | rfl | (simp; rfl)) (fun h1 => ?_) (fun h1 => ?_)
    · simp at h1
    · exact Wp.exit ⟨rfl, rfl⟩
def vk4S (o1 : Ob) (W A FU : List (List U)) (n q : Nat) : S := ⟨[(7, .sl true W), (8, .sl true A), (9, .sl true FU), (10, i64 n), (15, i64 q)], [o1]⟩
set_option maxHeartbeats 8000000 in
theorem vk4_loop (w0 : Way) (ns0 : List Node) (W A FU : List (List U)) (f : Nat → FS) (n : Nat) (hF : FU[n]? = some [.sl true (rowU f)]) (hv : ∀ q : Nat, q < 24 → (f q).1 = 2 ∨ f q = (0, 0) ∨ f q = (4, (q : Int))) (R : S → Prop) :
    Wp T (.loop c_joinerylaw11_ValueKinds_L4) (vk4S (.box (skelU w0 ns0)) W A FU n 0) (fun _ => False) R (fun b s' => b = 6 ∧ s' = ⟨[(7, .sl true W), (8, .sl true A), (9, .sl true FU), (10, i64 n), (15, i64 (24 : Nat)), (144, .bool false)], [.box (skelU w0 ns0)]⟩) := by
  have hn := (List.getElem?_eq_some_iff.1 hF).1
  have hn' : (n : Int) < FU.length := by omega
  have hrl := rowU_len f
  refine Wp.count 24 (fun q => vk4S (.box (skelU w0 ns0)) W A FU n q) (fun _ => True) (fun q hq _ => ?_) (fun _ => ?_) 0 (by omega) trivial
  · have hq' : (q : Int) < 24 := by omega
    have hrq : (rowU f)[q]? = some (fsU (f q)) := by simp [rowU, hq]
    have hvq := hv q hq
    generalize rowU f = RU at *
    generalize f q = x at *
    obtain ⟨a, b⟩ := x
    simp only at hvq
    simp only [vk4S]
    repeat (first | apply Wp.seq | apply Wp.skip | apply Wp.block | (apply Wp.op0; ((simp [M2.keep]) <;> rfl)) | ((first | apply Wp.op | apply Wp.opN | (apply Wp.opG; exact rfl)); (apply Evt.all; intro; (simp [hq']) <;> (try simp (disch := omega) only [wrap_id]) <;> first | exact ⟨rfl, rfl⟩ | exact rfl)) | (apply Wp.opS; exact rfl; decide) | (apply Wp.opS0; exact rfl))
    refine Wp.cond (by first | rfl | (simp; rfl)) (fun h1 => ?_) (fun h1 => ?_)
    · by_cases h2 : a = 2
      · subst h2
        repeat (first | apply Wp.seq | apply Wp.skip | apply Wp.block | (apply Wp.op0; ((simp [M2.keep]) <;> rfl)) | ((first | apply Wp.op | apply Wp.opN | (apply Wp.opG; exact rfl)); (apply Evt.all; intro; (simp [hn', hF, hrl, hq', hrq, fsU]) <;> (try simp (disch := omega) only [wrap_id]) <;> first | exact ⟨rfl, rfl⟩ | exact rfl)) | (apply Wp.opS; exact rfl; decide) | (apply Wp.opS0; exact rfl))
        refine Wp.cond (by first | rfl | (simp; rfl)) (fun h3 => ?_) (fun h3 => ?_)
        · cases h3
        · repeat (first | apply Wp.seq | apply Wp.skip | apply Wp.block | (apply Wp.op0; ((simp [M2.keep]) <;> rfl)) | ((first | apply Wp.op | apply Wp.opN | (apply Wp.opG; exact rfl)); (apply Evt.all; intro; (simp [wrap_id]) <;> (try simp (disch := omega) only [wrap_id]) <;> first | exact ⟨rfl, rfl⟩ | exact rfl)) | (apply Wp.opS; exact rfl; decide) | (apply Wp.opS0; exact rfl))
          exact ⟨trim_backs (st := [.box (skelU w0 ns0)]) (l := [_]) rfl (by show (Ob.blw 1 (.box (skelU w0 ns0)) && true) = true; rw [skel_blw]; rfl), trivial⟩
      · rcases hvq.resolve_left h2 with h | h
        · cases h
          repeat (first | apply Wp.seq | apply Wp.skip | apply Wp.block | (apply Wp.op0; ((simp [M2.keep]) <;> rfl)) | ((first | apply Wp.op | apply Wp.opN | (apply Wp.opG; exact rfl)); (apply Evt.all; intro; (simp [hn', hF, hrl, hq', hrq, fsU]) <;> (try simp (disch := omega) only [wrap_id]) <;> first | exact ⟨rfl, rfl⟩ | exact rfl)) | (apply Wp.opS; exact rfl; decide) | (apply Wp.opS0; exact rfl))
          refine Wp.cond (by first | rfl | (simp; rfl)) (fun h3 => ?_) (fun h3 => ?_)
          · cases h3
          · repeat (first | apply Wp.seq | apply Wp.skip | apply Wp.block | (apply Wp.op0; ((simp [M2.keep]) <;> rfl)) | ((first | apply Wp.op | apply Wp.opN | (apply Wp.opG; exact rfl)); (apply Evt.all; intro; (simp [wrap_id]) <;> (try simp (disch := omega) only [wrap_id]) <;> first | exact ⟨rfl, rfl⟩ | exact rfl)) | (apply Wp.opS; exact rfl; decide) | (apply Wp.opS0; exact rfl))
            exact ⟨trim_backs (st := [.box (skelU w0 ns0)]) (l := [_]) rfl (by show (Ob.blw 1 (.box (skelU w0 ns0)) && true) = true; rw [skel_blw]; rfl), trivial⟩
        · cases h
          repeat (first | apply Wp.seq | apply Wp.skip | apply Wp.block | (apply Wp.op0; ((simp [M2.keep]) <;> rfl)) | ((first | apply Wp.op | apply Wp.opN | (apply Wp.opG; exact rfl)); (apply Evt.all; intro; (simp [hn', hF, hrl, hq', hrq, fsU]) <;> (try simp (disch := omega) only [wrap_id]) <;> first | exact ⟨rfl, rfl⟩ | exact rfl)) | (apply Wp.opS; exact rfl; decide) | (apply Wp.opS0; exact rfl))
          refine Wp.cond (by first | rfl | (simp; rfl)) (fun h3 => ?_) (fun h3 => ?_)
          · first | cases h3 | simp at h3
          · repeat (first | apply Wp.seq | apply Wp.skip | apply Wp.block | (apply Wp.op0; ((simp [M2.keep]) <;> rfl)) | ((first | apply Wp.op | apply Wp.opN | (apply Wp.opG; exact rfl)); (apply Evt.all; intro; (simp [wrap_id]) <;> (try simp (disch := omega) only [wrap_id]) <;> first | exact ⟨rfl, rfl⟩ | exact rfl)) | (apply Wp.opS; exact rfl; decide) | (apply Wp.opS0; exact rfl))
            exact ⟨trim_backs (st := [.box (skelU w0 ns0)]) (l := [_]) rfl (by show (Ob.blw 1 (.box (skelU w0 ns0)) && true) = true; rw [skel_blw]; rfl), trivial⟩
    · cases h1
  · simp only [vk4S]
    repeat (first | apply Wp.seq | apply Wp.skip | apply Wp.block | (apply Wp.op0; ((simp [M2.keep]) <;> rfl)) | ((first | apply Wp.op | apply Wp.opN | (apply Wp.opG; exact rfl)); (apply Evt.all; intro; (simp []) <;> (try simp (disch := omega) only [wrap_id]) <;> first | exact ⟨rfl, rfl⟩ | exact rfl)) | (apply Wp.opS; exact rfl; decide) | (apply Wp.opS0; exact rfl))
    refine Wp.cond (by first | rfl | (simp; rfl)) (fun h1 => ?_) (fun h1 => ?_)
    · cases h1
    · exact Wp.exit ⟨rfl, rfl⟩
def vk5S (o1 : Ob) (W A FU : List (List U)) (n : Nat) : S := ⟨[(7, .sl true W), (8, .sl true A), (9, .sl true FU), (10, i64 n)], [o1]⟩
set_option maxHeartbeats 8000000 in
theorem vk5_loop (w0 : Way) (ns0 : List Node) (W A FU : List (List U)) (N : Nat) (hN : N ≤ 200) (to : Nat → List Edge) (f : Edge → Nat → FS) (g : Nat → Nat → FS) (hes : ∀ n, (to n).length ≤ 1000) (hAl : A.length = N) (hWl : W.length = N) (hFl : FU.length = N) (hA : ∀ n, n < N → A[n]? = some [.sl true (nodeA f (to n))]) (hW : ∀ n, n < N → W[n]? = some [.sl true (edR (to n))]) (hF : ∀ n, n < N → FU[n]? = some [.sl true (rowU (g n))])
    (hk : ∀ n, ∀ e ∈ to n, ∀ q : Nat, q < 24 → kindOK e (f e q)) (hv : ∀ n, ∀ q : Nat, q < 24 → (g n q).1 = 2 ∨ g n q = (0, 0) ∨ g n q = (4, (q : Int))) (R : S → Prop) :
    Wp T (.loop c_joinerylaw11_ValueKinds_L5) (vk5S (.box (skelU w0 ns0)) W A FU 0) (fun _ => False) R (fun b s' => b = 0 ∧ s' = ⟨[(7, .sl true W), (8, .sl true A), (9, .sl true FU), (10, i64 (N : Nat)), (64, .bool false)], [.box (skelU w0 ns0)]⟩) := by
  refine Wp.count N (fun n => vk5S (.box (skelU w0 ns0)) W A FU n) (fun _ => True) (fun n hn _ => ?_) (fun _ => ?_) 0 (by omega) trivial
  · have hn' : (n : Int) < N := by omega
    have h3 := vk3_loop w0 ns0 W A FU f n (to n) (hes n) (hA n hn) (hW n hn) (hk n) R
    have h4 := vk4_loop w0 ns0 W A FU (g n) n (hF n hn) (hv n) R
    have hAn := hA n hn
    have hWn := hW n hn
    have hFn := hF n hn
    have hnl : (nodeA f (to n)).length = (to n).length := by simp [nodeA]
    have hrl := rowU_len (g n)
    obtain ⟨q1, hAn'⟩ := List.getElem?_eq_some_iff.1 hAn
    obtain ⟨q2, hWn'⟩ := List.getElem?_eq_some_iff.1 hWn
    obtain ⟨q3, hFn'⟩ := List.getElem?_eq_some_iff.1 hFn
    generalize nodeA f (to n) = NA at *
    generalize rowU (g n) = RU at *
    generalize to n = es at *
    simp only [vk5S]
    repeat (first | apply Wp.seq | apply Wp.skip | apply Wp.block | (apply Wp.op0; ((simp [M2.keep]) <;> rfl)) | ((first | apply Wp.op | apply Wp.opN | (apply Wp.opG; exact rfl)); (apply Evt.all; intro; (simp [hAl, hn']) <;> (try simp (disch := omega) only [wrap_id]) <;> first | exact ⟨rfl, rfl⟩ | exact rfl)) | (apply Wp.opS; exact rfl; decide) | (apply Wp.opS0; exact rfl))
    refine Wp.cond (by first | rfl | (simp; rfl)) (fun h1 => ?_) (fun h1 => ?_)
    · repeat (first | apply Wp.seq | apply Wp.skip | apply Wp.block | (apply Wp.op0; ((simp [M2.keep]) <;> rfl)) | ((first | apply Wp.op | apply Wp.opN | (apply Wp.opG; exact rfl)); (apply Evt.all; intro; (simp []) <;> (try simp (disch := omega) only [wrap_id]) <;> first | exact ⟨rfl, rfl⟩ | exact rfl)) | (apply Wp.opS; exact rfl; decide) | (apply Wp.opS0; exact rfl))
      refine Wp.draw (by (simp [c_joinerylaw11_ValueKinds_D1, I.need]) <;> rfl) (by (simp [hAl, hWl, hFl, hn', hAn, hWn, hFn, hAn', hWn', hFn', hnl, hrl]) <;> rfl) (by (simp [hAl, hWl, hFl, hn', hAn, hWn, hFn, hAn', hWn', hFn', hnl, hrl]) <;> rfl) (by (unfold c_joinerylaw11_ValueKinds_D1); (repeat (first | ((first | apply Dr.op | apply Dr.opN | (apply Dr.opG; exact rfl)); ((simp [hAl, hWl, hFl, hn', hAn, hWn, hFn, hAn', hWn', hFn', hnl, hrl]) <;> rfl); (apply Evt.all; intro; (simp [hAl, hWl, hFl, hn', hAn, hWn, hFn, hAn', hWn', hFn', hnl, hrl]) <;> (try simp (disch := omega) only [wrap_id]) <;> first | exact ⟨rfl, rfl⟩ | exact rfl); ((simp [I.need]) <;> rfl)) | ((first | (apply Dr.opS; exact rfl; decide) | (apply Dr.opS0; exact rfl)); ((simp [I.need]) <;> rfl)))); exact Dr.nil) (by first | decide +kernel | exact rfl) (by (simp [M2.keep]) <;> rfl) ?_
      refine Wp.cond (by first | rfl | (simp; rfl)) (fun h2 => ?_) (fun h2 => ?_)
      · cases h2
      repeat (first | apply Wp.seq | apply Wp.skip | apply Wp.block | (apply Wp.op0; ((simp [M2.keep]) <;> rfl)) | ((first | apply Wp.op | apply Wp.opN | (apply Wp.opG; exact rfl)); (apply Evt.all; intro; (simp []) <;> (try simp (disch := omega) only [wrap_id]) <;> first | exact ⟨rfl, rfl⟩ | exact rfl)) | (apply Wp.opS; exact rfl; decide) | (apply Wp.opS0; exact rfl))
      refine (show Wp T (.loop c_joinerylaw11_ValueKinds_L3) (vk3S (.box (skelU w0 ns0)) W A FU n 0) _ _ _ from h3.imp (fun _ h => h.elim) (fun _ h => h) ?_)
      rintro b s ⟨rfl, rfl⟩
      rw [if_pos rfl]
      repeat (first | apply Wp.seq | apply Wp.skip | apply Wp.block | (apply Wp.op0; ((simp [M2.keep]) <;> rfl)) | ((first | apply Wp.op | apply Wp.opN | (apply Wp.opG; exact rfl)); (apply Evt.all; intro; (simp []) <;> (try simp (disch := omega) only [wrap_id]) <;> first | exact ⟨rfl, rfl⟩ | exact rfl)) | (apply Wp.opS; exact rfl; decide) | (apply Wp.opS0; exact rfl))
      refine (show Wp T (.loop c_joinerylaw11_ValueKinds_L4) (vk4S (.box (skelU w0 ns0)) W A FU n 0) _ _ _ from h4.imp (fun _ h => h.elim) (fun _ h => h) ?_)
      rintro b s ⟨rfl, rfl⟩
      rw [if_pos rfl]
      repeat (first | apply Wp.seq | apply Wp.skip | apply Wp.block | (apply Wp.op0; ((simp [M2.keep]) <;> rfl)) | ((first | apply Wp.op | apply Wp.opN | (apply Wp.opG; exact rfl)); (apply Evt.all; intro; (simp [wrap_id]) <;> (try simp (disch := omega) only [wrap_id]) <;> first | exact ⟨rfl, rfl⟩ | exact rfl)) | (apply Wp.opS; exact rfl; decide) | (apply Wp.opS0; exact rfl))
      exact ⟨trimO_len rfl, trivial⟩
    · cases h1
  · simp only [vk5S]
    repeat (first | apply Wp.seq | apply Wp.skip | apply Wp.block | (apply Wp.op0; ((simp [M2.keep]) <;> rfl)) | ((first | apply Wp.op | apply Wp.opN | (apply Wp.opG; exact rfl)); (apply Evt.all; intro; (simp [hAl]) <;> (try simp (disch := omega) only [wrap_id]) <;> first | exact ⟨rfl, rfl⟩ | exact rfl)) | (apply Wp.opS; exact rfl; decide) | (apply Wp.opS0; exact rfl))
    refine Wp.cond (by first | rfl | (simp; rfl)) (fun h1 => ?_) (fun h1 => ?_)
    · simp at h1
    · exact Wp.exit ⟨rfl, rfl⟩
set_option maxHeartbeats 8000000 in
theorem law6_call (l : List Ins) (cut : List Bool) : Cl T n_joinerylaw11_ValueKinds [insL true l, boolU true cut] [] (.bool true) [] := by
  refine Wp.pure (fn := c_joinerylaw11_ValueKinds) rfl rfl rfl («as» := [insL true l, boolU true cut]) rfl ?_
  have kno := knows_call
  by_cases h1 : 60 < l.length
  · have d1 : decide ((60 : Int) < l.length) = true := decide_eq_true (by omega)
    repeat' (first | apply Wp.seq | apply Wp.skip | apply Wp.block | (apply Wp.op0; ((simp [M2.keep]) <;> rfl)) | ((first | (apply Wp.pickT; (exact rfl); (first | exact rfl | assumption)) | (apply Wp.pickF; (exact rfl); (first | exact rfl | assumption))); ((simp) <;> exact rfl)) | ((first | apply Wp.op | apply Wp.opN); (apply Evt.all; intro; (simp [insL]) <;> (try simp (disch := omega) only [wrap_id]) <;> first | exact ⟨rfl, rfl⟩ | exact rfl)) | (apply Wp.call; exact kno _) | (first | (apply Wp.ung; (exact rfl); (first | exact rfl | assumption)) | (apply Wp.opSt; (exact rfl); (first | exact rfl | assumption)) | (apply Wp.opSf; (exact rfl); (first | exact rfl | assumption))) | (apply Wp.opS0; (exact rfl)) | (first | (apply Wp.condT; (exact rfl); (first | exact rfl | assumption)) | (apply Wp.condF; (exact rfl); (first | exact rfl | assumption))) | ((first | apply Wp.grdT | apply Wp.grdF | apply Wp.cond); (exact rfl); (intro); rotate_left 1; (intro); rotate_right 1))
    refine Wp.ret ?_
    simp [Res, resU, res1, c_joinerylaw11_ValueKinds]
  have d1 : decide ((60 : Int) < l.length) = false := decide_eq_false (by omega)
  by_cases h2 : 300 < cut.length
  · have d2 : decide ((300 : Int) < cut.length) = true := decide_eq_true (by omega)
    repeat' (first | apply Wp.seq | apply Wp.skip | apply Wp.block | (apply Wp.op0; ((simp [M2.keep]) <;> rfl)) | ((first | (apply Wp.pickT; (exact rfl); (first | exact rfl | assumption)) | (apply Wp.pickF; (exact rfl); (first | exact rfl | assumption))); ((simp) <;> exact rfl)) | ((first | apply Wp.op | apply Wp.opN); (apply Evt.all; intro; (simp [insL, boolU]) <;> (try simp (disch := omega) only [wrap_id]) <;> first | exact ⟨rfl, rfl⟩ | exact rfl)) | (apply Wp.call; exact kno _) | (first | (apply Wp.ung; (exact rfl); (first | exact rfl | assumption)) | (apply Wp.opSt; (exact rfl); (first | exact rfl | assumption)) | (apply Wp.opSf; (exact rfl); (first | exact rfl | assumption))) | (apply Wp.opS0; (exact rfl)) | (first | (apply Wp.condT; (exact rfl); (first | exact rfl | assumption)) | (apply Wp.condF; (exact rfl); (first | exact rfl | assumption))) | ((first | apply Wp.grdT | apply Wp.grdF | apply Wp.cond); (exact rfl); (intro); rotate_left 1; (intro); rotate_right 1))
    refine Wp.ret ?_
    simp [Res, resU, res1, c_joinerylaw11_ValueKinds]
  have d2 : decide ((300 : Int) < cut.length) = false := decide_eq_false (by omega)
  have hri := fun st => right4_call true l st (insL true l) rfl
  cases hr : rightF l with
  | false =>
    rw [hr] at hri
    repeat' (first | apply Wp.seq | apply Wp.skip | apply Wp.block | (apply Wp.op0; ((simp [M2.keep]) <;> rfl)) | ((first | (apply Wp.pickT; (exact rfl); (first | exact rfl | assumption)) | (apply Wp.pickF; (exact rfl); (first | exact rfl | assumption))); ((simp) <;> exact rfl)) | ((first | apply Wp.op | apply Wp.opN); (apply Evt.all; intro; (simp [insL, boolU]) <;> (try simp (disch := omega) only [wrap_id]) <;> first | exact ⟨rfl, rfl⟩ | exact rfl)) | (apply Wp.call; exact hri _) | (apply Wp.call; exact kno _) | (first | (apply Wp.ung; (exact rfl); (first | exact rfl | assumption)) | (apply Wp.opSt; (exact rfl); (first | exact rfl | assumption)) | (apply Wp.opSf; (exact rfl); (first | exact rfl | assumption))) | (apply Wp.opS0; (exact rfl)) | (first | (apply Wp.condT; (exact rfl); (first | exact rfl | assumption)) | (apply Wp.condF; (exact rfl); (first | exact rfl | assumption))) | ((first | apply Wp.grdT | apply Wp.grdF | apply Wp.cond); (exact rfl); (intro); rotate_left 1; (intro); rotate_right 1))
    refine Wp.ret ?_
    simp [Res, resU, res1, c_joinerylaw11_ValueKinds]
  | true =>
    rw [hr] at hri
    have hb := build_call true l hr true cut
    obtain ⟨f1, f2, f3⟩ := skel_facts (cut := cut) hr
    have hal := all_call true l hr cut
    have hfc := facts_call true l hr cut
    have hwy : ∀ st, Cl T n_skel_Ways [.agg (skelU (pEntry l) (pNodes l cut))] st (.sl true (waysU (pNodes l cut).length (toF (wE l) (rnE l cut)))) st := ways_call (pEntry l) f3 (pNodes l cut) f1 f2
    have hv : ∀ n, ∀ q : Nat, q < 24 → (factF l cut n q).1 = 2 ∨ factF l cut n q = (0, 0) ∨ factF l cut n q = (4, (q : Int)) := fun n q _ => by
      rcases fact_val l cut n q with ⟨h, _⟩ | ⟨h, _⟩
      · exact .inr (.inr h)
      · rcases List.mem_cons.1 h with h | h
        · exact .inr (.inl h)
        · obtain ⟨v, _, hv⟩ := List.mem_map.1 h
          rw [← hv]
          exact .inl rfl
    have hWl : (waysU (pNodes l cut).length (toF (wE l) (rnE l cut))).length = (pNodes l cut).length := by simp [waysU]
    have hAl : (allU (pNodes l cut).length (toF (wE l) (rnE l cut)) (byF l (wE l) (rnE l cut))).length = (pNodes l cut).length := by simp [allU]
    have hFl : (factsU l cut).length = (pNodes l cut).length := by simp [factsU]
    have hlp := vk5_loop (pEntry l) (pNodes l cut) (waysU (pNodes l cut).length (toF (wE l) (rnE l cut))) (allU (pNodes l cut).length (toF (wE l) (rnE l cut)) (byF l (wE l) (rnE l cut))) (factsU l cut) (pNodes l cut).length f1 (toF (wE l) (rnE l cut)) (byF l (wE l) (rnE l cut)) (factF l cut) (toF_len hr cut) hAl hWl hFl (fun n hn => by simp [allU, hn]) (fun n hn => by simp [waysU, hn]) (fun n hn => by simp [factsU, hn]) (fun n e he q hq => byF_kind hr he hq) hv (Res c_joinerylaw11_ValueKinds (.bool true))
    have sl := skel_len f3 (pNodes l cut)
    have t26 : (skelU (pEntry l) (pNodes l cut)).take 26 = skelU (pEntry l) (pNodes l cut) := by rw [List.take_of_length_le]; omega
    have hps := plain_skel (pEntry l) (pNodes l cut)
    have hpi : plainU (.sl true (l.map insU)) = true := rfl
    have pf17 : pfT T 17 = true := rfl
    unfold vk5S at hlp
    generalize waysU (pNodes l cut).length (toF (wE l) (rnE l cut)) = W at *
    generalize allU (pNodes l cut).length (toF (wE l) (rnE l cut)) (byF l (wE l) (rnE l cut)) = A at *
    generalize factsU l cut = FU at *
    repeat' (first | apply Wp.seq | apply Wp.skip | apply Wp.block | (apply Wp.op0; ((simp [M2.keep]) <;> rfl)) | ((first | (apply Wp.pickT; (exact rfl); (first | exact rfl | assumption)) | (apply Wp.pickF; (exact rfl); (first | exact rfl | assumption))); ((simp) <;> exact rfl)) | ((first | apply Wp.op | apply Wp.opN); (apply Evt.all; intro; (simp [insL, boolU, sl, t26, over_full]) <;> (try simp (disch := omega) only [wrap_id]) <;> first | exact ⟨rfl, rfl⟩ | exact rfl)) | (apply Wp.call; exact hb _) | (apply Wp.call; exact hri _) | (first | (apply Wp.ung; (exact rfl); (first | exact rfl | assumption)) | (apply Wp.opSt; (exact rfl); (first | exact rfl | assumption)) | (apply Wp.opSf; (exact rfl); (first | exact rfl | assumption))) | (apply Wp.opS0; (exact rfl)) | (first | (apply Wp.condT; (exact rfl); (first | exact rfl | assumption)) | (apply Wp.condF; (exact rfl); (first | exact rfl | assumption))) | ((first | apply Wp.grdT | apply Wp.grdF | apply Wp.cond); (exact rfl); (intro); rotate_left 1; (intro); rotate_right 1))
    refine Wp.draw (by (simp [c_joinerylaw11_ValueKinds_D0, I.need]) <;> rfl) (by (simp [insL, sl, t26, pf21, pf12, pf17, -plainU, hps, hpi]) <;> rfl) (by (simp [insL, sl, t26, pf21, pf12, pf17, -plainU, hps, hpi]) <;> rfl) (by (unfold c_joinerylaw11_ValueKinds_D0); (repeat (first | ((first | apply Dr.op | apply Dr.opN | (apply Dr.opG; exact rfl)); ((simp [insL, sl, t26, pf21, pf12, pf17, -plainU, hps, hpi]) <;> rfl); (apply Evt.all; intro; (simp [insL, sl, t26, pf21, pf12, pf17, -plainU, hps, hpi]) <;> (try simp (disch := omega) only [wrap_id]) <;> first | exact ⟨rfl, rfl⟩ | exact rfl); ((simp [I.need]) <;> rfl)) | ((first | (apply Dr.opS; exact rfl; decide) | (apply Dr.opS0; exact rfl)); ((simp [I.need]) <;> rfl)) | (apply Dr.call; ((simp [insL, sl, t26, pf21, pf12, pf17, -plainU, hps, hpi]) <;> rfl); exact hwy _) | (apply Dr.callG; (exact rfl); ((simp [insL, sl, t26, pf21, pf12, pf17, -plainU, hps, hpi]) <;> rfl); exact hwy _) | (apply Dr.call; ((simp [insL, sl, t26, pf21, pf12, pf17, -plainU, hps, hpi]) <;> rfl); exact hal _) | (apply Dr.callG; (exact rfl); ((simp [insL, sl, t26, pf21, pf12, pf17, -plainU, hps, hpi]) <;> rfl); exact hal _) | (apply Dr.call; ((simp [insL, sl, t26, pf21, pf12, pf17, -plainU, hps, hpi]) <;> rfl); exact hfc _) | (apply Dr.callG; (exact rfl); ((simp [insL, sl, t26, pf21, pf12, pf17, -plainU, hps, hpi]) <;> rfl); exact hfc _))); exact Dr.nil) (by (simp [chkD, aside, tmpInd, ind, c_joinerylaw11_ValueKinds_D0, touchX, touchE, elems, rowAt, O.uses, I.uses, M2.A.uses]) <;> (try decide)) (by (simp [M2.keep]) <;> rfl) ?_
    repeat' (first | apply Wp.seq | apply Wp.skip | apply Wp.block | (apply Wp.op0; ((simp [M2.keep]) <;> rfl)) | ((first | (apply Wp.pickT; (exact rfl); (first | exact rfl | assumption)) | (apply Wp.pickF; (exact rfl); (first | exact rfl | assumption))); ((simp) <;> exact rfl)) | ((first | apply Wp.op | apply Wp.opN); (apply Evt.all; intro; (simp [hAl, hWl, hFl]) <;> (try simp (disch := omega) only [wrap_id]) <;> first | exact ⟨rfl, rfl⟩ | exact rfl)) | (apply Wp.call; exact kno _) | (first | (apply Wp.ung; (exact rfl); (first | exact rfl | assumption)) | (apply Wp.opSt; (exact rfl); (first | exact rfl | assumption)) | (apply Wp.opSf; (exact rfl); (first | exact rfl | assumption))) | (apply Wp.opS0; (exact rfl)) | (first | (apply Wp.condT; (exact rfl); (first | exact rfl | assumption)) | (apply Wp.condF; (exact rfl); (first | exact rfl | assumption))) | ((first | apply Wp.grdT | apply Wp.grdF | apply Wp.cond); (exact rfl); (intro); rotate_left 1; (intro); rotate_right 1))
    refine hlp.imp (fun _ h => h.elim) (fun _ h => h) ?_
    rintro b s ⟨rfl, rfl⟩
    rw [if_pos rfl]
    repeat' (first | apply Wp.seq | apply Wp.skip | apply Wp.block | (apply Wp.op0; ((simp [M2.keep]) <;> rfl)) | ((first | (apply Wp.pickT; (exact rfl); (first | exact rfl | assumption)) | (apply Wp.pickF; (exact rfl); (first | exact rfl | assumption))); ((simp) <;> exact rfl)) | ((first | apply Wp.op | apply Wp.opN); (apply Evt.all; intro; (simp []) <;> (try simp (disch := omega) only [wrap_id]) <;> first | exact ⟨rfl, rfl⟩ | exact rfl)) | (apply Wp.call; exact kno _) | (first | (apply Wp.ung; (exact rfl); (first | exact rfl | assumption)) | (apply Wp.opSt; (exact rfl); (first | exact rfl | assumption)) | (apply Wp.opSf; (exact rfl); (first | exact rfl | assumption))) | (apply Wp.opS0; (exact rfl)) | (first | (apply Wp.condT; (exact rfl); (first | exact rfl | assumption)) | (apply Wp.condF; (exact rfl); (first | exact rfl | assumption))) | ((first | apply Wp.grdT | apply Wp.grdF | apply Wp.cond); (exact rfl); (intro); rotate_left 1; (intro); rotate_right 1))
    refine Wp.ret ?_
    simp [Res, resU, res1, c_joinerylaw11_ValueKinds]
theorem params6 : Tryd.f6.params.toList = [22, 23] := by kernel_rfl
theorem law6 : Law 6 Tryd.f6.params.toList := by
  rw [params6]
  intro us hl hty
  obtain ⟨l, cut, rfl⟩ := args2b hl hty
  exact law_of (law6_call l cut)
end Go.Proofs.YtcehbpimdngjfaaDoor.M2
namespace Go.Proofs.YtcehbpimdngjfaaDoor.M2
open Go Go.ChangeShapes Go.WideShapes Go.ChangeAt Go.RowKit
theorem bool4 : Tryd.prog.underlying 4 = some .bool := by kernel_rfl
theorem types6 : Tryd.f6.resultTypes = #[4] := by kernel_rfl
set_option maxRecDepth 100000 in
theorem valueKinds_row (law : Law 6 Tryd.f6.params.toList) : Rows.ValueKindsSaid :=
  OpenClaim.holds_of_wide 6 Tryd.f6 rfl rfl rfl rfl rfl rfl rfl ⟨rfl, rfl, rfl, rfl, rfl⟩ rfl rfl rfl rfl rfl (by kernel_rfl) Tryd.func6 (by kernel_rfl)
    (of_decide_eq_true (by kernel_rfl)) (by unfold Func.isWrapper; first | (rw [if_pos (by decide +kernel)]; kernel_rfl) | (rw [if_neg (by decide +kernel)]; exact ⟨rfl, rfl⟩))
    (fun os started H enc _ => lifted (s := Rows.valueKindsSpec) law os started enc (by kernel_rfl) Tryd.func6 rfl (by kernel_rfl) types6 bool4
      (fun ds h => by
        have h1 : ds.length = 2 := h
        match ds, h1 with
        | [d0, d1], _ => rfl)
      (ChangeSpec.witness_shaped (enc := enc) (C := Tryd.checked) (os := os) (X := fun w _ => laidMetH Tryd.prog laid1 w) false (World.doorLaid Tryd.prog 400 os) #[.slice none 0 0, .slice none 0 0] 8 rfl (World.shaped_of_RefB (by kernel_rfl) (by kernel_rfl)) (by kernel_rfl) (by kernel_rfl) (by kernel_rfl) (door_met os _)))
theorem valueKinds_card (law : Law 6 Tryd.f6.params.toList) : Rows.ValueKindsCardSaid :=
  Claim7.holds_tied_plain_at .later [] [.data, .data] true (true, "44ecaefe8f35b4120cf5d2eb7e508e68f012c59f62bf85e87c4bf443f6a4b97c") true
    (valueKinds_row law) (fun _ h => by cases h) (by kernel_rfl) (fun _ h => by cases h) valueKinds_row_tie rfl ⟨rfl, rfl⟩ (by kernel_rfl) rfl
    (fun f fn hf hfn => by
      obtain rfl : f = 6 := Option.some.inj ((show Tryd.prog.funcNamed "joinery/joinerylaw11.ValueKinds" = some 6 by kernel_rfl).symm.trans hf) |>.symm
      obtain rfl : fn = Tryd.f6 := (Option.some.inj (Tryd.func6.symm.trans hfn)).symm
      exact ⟨by kernel_rfl, fun j t ht => by
        rw [Tryd.params6] at ht
        have hm : t ∈ [22, 23] := by simpa using Array.mem_of_getElem? ht
        have hall : ([22, 23].all fun u => !Tryd.prog.wantsStandIn u) = true := by kernel_rfl
        exact (show Tryd.prog.wantsStandIn t = false by simpa using List.all_eq_true.1 hall t hm)⟩)
    (by kernel_rfl)
end Go.Proofs.YtcehbpimdngjfaaDoor.M2
namespace Go.Proofs.YtcehbpimdngjfaaDoor
theorem valueKinds_said : Rows.ValueKindsCardSaid := M2.valueKinds_card M2.law6
end Go.Proofs.YtcehbpimdngjfaaDoor
