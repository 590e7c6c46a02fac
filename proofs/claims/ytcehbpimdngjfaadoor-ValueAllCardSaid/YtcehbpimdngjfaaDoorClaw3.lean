/- ValueAll: what all places have by all ways is, way by way, what each has. No condition. -/
import Derived.Test.YtcehbpimdngjfaaDoorCl
import Derived.Test.YtcehbpimdngjfaaDoorCp
import Derived.Test.YtcehbpimdngjfaaDoorCk
import Derived.Test.YtcehbpimdngjfaaDoorCards
import Derived.Test.YtcehbpimdngjfaaDoorTie
import Derived.SevenTiedAt
set_option linter.unusedSimpArgs false
set_option linter.unusedVariables false
set_option linter.unusedSectionVars false
namespace Go.Proofs.YtcehbpimdngjfaaDoor.M2
open Go
attribute [local simp] ev1 M2.get put A.ev ld sub part elems bin arith un opt idx fillC cellsO splice over newOb sto fillR laidOwn appTo appRow touch touchN touchM touchE touchA plainU flatU plainAs allM rowAt stoRow accM_nil accM_cons accMM_nil accMM_cons frz_int frz_bool frz_str frz_slt frz_nils frz_nilI frz_nilF frz_own frzRow_row frzRow_frow Ob.blw blw_bool blw_int blw_str blw_nils blw_nilI blw_nilF blw_nilp blw_nilm blw_sl blw_own blw_bp blw_rp blw_mp blw_it params
attribute [local simp] frz_agg frz_tup frz_iface frzS_agg frzS_iface accMS_cons frzS_int frzS_bool frzS_str frzS_slt frzS_nils frzS_nilI beq_dec bne_dec
attribute [local irreducible] Typed TypedA
theorem fs_same (x : FS) : sameV (.tst [(1, .ti), (1, .ti)]) (.agg [i64 x.1, i64 x.2]) (.agg [i64 x.1, i64 x.2]) = some true := by
  simp [sameV, cellsS, sameD, same, same.fields]
def va1S (l : List Ins) (A : List (List U)) (w : Way) (rn : List RNode) (o1 : Ob) (n : Nat) (es : List Edge) (i q : Nat) : S :=
  ⟨[(0, insL true l), (7, .sl true A), (8, .bp 1 0), (9, i64 n), (10, .sl true (edR es)), (11, i64 i), (12, i64 q)], [o1, .box (rskelU w rn)]⟩
set_option maxHeartbeats 8000000 in
theorem va1_loop (l : List Ins) (A : List (List U)) (w : Way) (rn : List RNode) (w0 : Way) (ns : List Node) (n : Nat) (es : List Edge) (hA : A[n]? = some [.sl true (nodeA (byF l w rn) es)]) (i : Nat) (hi : i < es.length)
    (hby : ∀ q : Nat, q < 24 → ∀ st, Cl T n_joineryref11_By [insL true l, .agg (rskelU w rn), .agg (edgeU es[i]), i64 q] st (.agg (fsU (byF l w rn es[i] q))) st) (R : S → Prop) :
    Wp T (.loop c_joinerylaw11_ValueAll_L1) (va1S l A w rn (.box (skelU w0 ns)) n es i 0) (fun _ => False) R (fun b s' => b = 4 ∧ s' = ⟨[(0, insL true l), (7, .sl true A), (8, .bp 1 0), (9, i64 n), (10, .sl true (edR es)), (11, i64 i), (12, i64 (24 : Nat)), (82, .bool false)], [.box (skelU w0 ns), .box (rskelU w rn)]⟩) := by
  have hn := (List.getElem?_eq_some_iff.1 hA).1
  have hn' : (n : Int) < A.length := by omega
  have hi' : (i : Int) < es.length := by omega
  have eg : es[i]? = some es[i] := List.getElem?_eq_getElem hi
  have hne : (nodeA (byF l w rn) es)[i]? = some [.sl true (rowU (byF l w rn es[i]))] := by simp [nodeA, hi]
  have hnl : (nodeA (byF l w rn) es).length = es.length := by simp [nodeA]
  generalize es[i] = e at *
  refine Wp.count 24 (fun q => va1S l A w rn (.box (skelU w0 ns)) n es i q) (fun _ => True) (fun q hq _ => ?_) (fun _ => ?_) 0 (by omega) trivial
  · have hq' : (q : Int) < 24 := by omega
    have hb := hby q hq
    have hr : (rowU (byF l w rn e))[q]? = some (fsU (byF l w rn e q)) := by simp [rowU, hq]
    have hrl := rowU_len (byF l w rn e)
    have hsm := fs_same (byF l w rn e q)
    generalize byF l w rn e q = x at *
    generalize rowU (byF l w rn e) = RU at *
    generalize nodeA (byF l w rn) es = NA at *
    simp only [va1S]
    repeat (first|apply Wp.seq|apply Wp.skip|apply Wp.block|(apply Wp.op0;((simp [M2.keep])<;>rfl))|((first|apply Wp.op|apply Wp.opN|(apply Wp.opG;exact rfl));(apply Evt.all;intro;(simp [hq'])<;>(try simp (disch := omega) only [wrap_id])<;>first|exact ⟨rfl,rfl⟩|exact rfl))|(apply Wp.opS;exact rfl;decide)|(apply Wp.opS0;exact rfl))
    refine Wp.cond (by first|rfl|(simp;rfl)) (fun h1 => ?_) (fun h1 => ?_)
    · repeat (first|apply Wp.seq|apply Wp.skip|apply Wp.block|(apply Wp.op0;((simp [M2.keep])<;>rfl))|((first|apply Wp.op|apply Wp.opN|(apply Wp.opG;exact rfl));(apply Evt.all;intro;(simp [])<;>(try simp (disch := omega) only [wrap_id])<;>first|exact ⟨rfl,rfl⟩|exact rfl))|(apply Wp.opS;exact rfl;decide)|(apply Wp.opS0;exact rfl))
      refine Wp.draw (by (simp [c_joinerylaw11_ValueAll_D0,I.need])<;>rfl) (by (simp [hn',hi',hq',hA,hne,hnl,hr,hrl,eg,edgeU,fsU,rskelU,hsm])<;>rfl) (by (simp [hn',hi',hq',hA,hne,hnl,hr,hrl,eg,edgeU,fsU,rskelU,hsm])<;>rfl) (by (unfold c_joinerylaw11_ValueAll_D0);(repeat (first|((first|apply Dr.op|apply Dr.opN|(apply Dr.opG;exact rfl));((simp [hn',hi',hq',hA,hne,hnl,hr,hrl,eg,edgeU,fsU,rskelU,hsm])<;>rfl);(apply Evt.all;intro;(simp [hn',hi',hq',hA,hne,hnl,hr,hrl,eg,edgeU,fsU,rskelU,hsm])<;>(try simp (disch := omega) only [wrap_id])<;>first|exact ⟨rfl,rfl⟩|exact rfl);((simp [I.need])<;>rfl))|((first|(apply Dr.opS;exact rfl;decide)|(apply Dr.opS0;exact rfl));((simp [I.need])<;>rfl))|(apply Dr.call;((simp [hn',hi',hq',hA,hne,hnl,hr,hrl,eg,edgeU,fsU,rskelU,hsm])<;>rfl);exact hb _)|(apply Dr.callG;(exact rfl);((simp [hn',hi',hq',hA,hne,hnl,hr,hrl,eg,edgeU,fsU,rskelU,hsm])<;>rfl);exact hb _)));exact Dr.nil) (by first|decide +kernel|exact rfl) (by (simp [M2.keep])<;>rfl) ?_
      refine Wp.cond (by first|rfl|(simp;rfl)) (fun h2 => ?_) (fun h2 => ?_)
      · cases h2
      · repeat (first|apply Wp.seq|apply Wp.skip|apply Wp.block|(apply Wp.op0;((simp [M2.keep])<;>rfl))|((first|apply Wp.op|apply Wp.opN|(apply Wp.opG;exact rfl));(apply Evt.all;intro;(simp [wrap_id])<;>(try simp (disch := omega) only [wrap_id])<;>first|exact ⟨rfl,rfl⟩|exact rfl))|(apply Wp.opS;exact rfl;decide)|(apply Wp.opS0;exact rfl))
        exact ⟨trimO_len rfl, trivial⟩
    · cases h1
  · simp only [va1S]
    repeat (first|apply Wp.seq|apply Wp.skip|apply Wp.block|(apply Wp.op0;((simp [M2.keep])<;>rfl))|((first|apply Wp.op|apply Wp.opN|(apply Wp.opG;exact rfl));(apply Evt.all;intro;(simp [])<;>(try simp (disch := omega) only [wrap_id])<;>first|exact ⟨rfl,rfl⟩|exact rfl))|(apply Wp.opS;exact rfl;decide)|(apply Wp.opS0;exact rfl))
    refine Wp.cond (by first|rfl|(simp;rfl)) (fun h1 => ?_) (fun h1 => ?_)
    · cases h1
    · exact Wp.exit ⟨rfl, rfl⟩
def va2S (l : List Ins) (A : List (List U)) (w : Way) (rn : List RNode) (o1 : Ob) (n : Nat) (es : List Edge) (i : Nat) : S :=
  ⟨[(0, insL true l), (7, .sl true A), (8, .bp 1 0), (9, i64 n), (10, .sl true (edR es)), (11, i64 i)], [o1, .box (rskelU w rn)]⟩
set_option maxHeartbeats 8000000 in
theorem va2_loop (l : List Ins) (A : List (List U)) (w : Way) (rn : List RNode) (w0 : Way) (ns : List Node) (n : Nat) (es : List Edge) (hes : es.length ≤ 1000) (hA : A[n]? = some [.sl true (nodeA (byF l w rn) es)])
    (hby : ∀ e ∈ es, ∀ q : Nat, q < 24 → ∀ st, Cl T n_joineryref11_By [insL true l, .agg (rskelU w rn), .agg (edgeU e), i64 q] st (.agg (fsU (byF l w rn e q))) st) (R : S → Prop) :
    Wp T (.loop c_joinerylaw11_ValueAll_L2) (va2S l A w rn (.box (skelU w0 ns)) n es 0) (fun _ => False) R (fun b s' => b = 2 ∧ s' = ⟨[(0, insL true l), (7, .sl true A), (8, .bp 1 0), (9, i64 n), (10, .sl true (edR es)), (11, i64 (es.length : Nat)), (69, .bool false)], [.box (skelU w0 ns), .box (rskelU w rn)]⟩) := by
  have hn := (List.getElem?_eq_some_iff.1 hA).1
  have hn' : (n : Int) < A.length := by omega
  refine Wp.count es.length (fun i => va2S l A w rn (.box (skelU w0 ns)) n es i) (fun _ => True) (fun i hi _ => ?_) (fun _ => ?_) 0 (by omega) trivial
  · have hi' : (i : Int) < es.length := by omega
    have hne : (nodeA (byF l w rn) es)[i]? = some [.sl true (rowU (byF l w rn es[i]))] := by simp [nodeA, hi]
    have hnl : (nodeA (byF l w rn) es).length = es.length := by simp [nodeA]
    have hlp := va1_loop l A w rn w0 ns n es hA i hi (hby _ (List.getElem_mem hi)) R
    have hrl := rowU_len (byF l w rn es[i])
    generalize rowU (byF l w rn es[i]) = RU at *
    generalize nodeA (byF l w rn) es = NA at *
    simp only [va2S]
    repeat (first|apply Wp.seq|apply Wp.skip|apply Wp.block|(apply Wp.op0;((simp [M2.keep])<;>rfl))|((first|apply Wp.op|apply Wp.opN|(apply Wp.opG;exact rfl));(apply Evt.all;intro;(simp [hi'])<;>(try simp (disch := omega) only [wrap_id])<;>first|exact ⟨rfl,rfl⟩|exact rfl))|(apply Wp.opS;exact rfl;decide)|(apply Wp.opS0;exact rfl))
    refine Wp.cond (by first|rfl|(simp;rfl)) (fun h1 => ?_) (fun h1 => ?_)
    · repeat (first|apply Wp.seq|apply Wp.skip|apply Wp.block|(apply Wp.op0;((simp [M2.keep])<;>rfl))|((first|apply Wp.op|apply Wp.opN|(apply Wp.opG;exact rfl));(apply Evt.all;intro;(simp [hn',hi',hA,hne,hnl,hrl])<;>(try simp (disch := omega) only [wrap_id])<;>first|exact ⟨rfl,rfl⟩|exact rfl))|(apply Wp.opS;exact rfl;decide)|(apply Wp.opS0;exact rfl))
      refine Wp.cond (by first|rfl|(simp;rfl)) (fun h2 => ?_) (fun h2 => ?_)
      · cases h2
      repeat (first|apply Wp.seq|apply Wp.skip|apply Wp.block|(apply Wp.op0;((simp [M2.keep])<;>rfl))|((first|apply Wp.op|apply Wp.opN|(apply Wp.opG;exact rfl));(apply Evt.all;intro;(simp [])<;>(try simp (disch := omega) only [wrap_id])<;>first|exact ⟨rfl,rfl⟩|exact rfl))|(apply Wp.opS;exact rfl;decide)|(apply Wp.opS0;exact rfl))
      refine (show Wp T (.loop c_joinerylaw11_ValueAll_L1) (va1S l A w rn (.box (skelU w0 ns)) n es i 0) _ _ _ from hlp.imp (fun _ h => h.elim) (fun _ h => h) ?_)
      rintro b s ⟨rfl, rfl⟩
      rw [if_pos rfl]
      repeat (first|apply Wp.seq|apply Wp.skip|apply Wp.block|(apply Wp.op0;((simp [M2.keep])<;>rfl))|((first|apply Wp.op|apply Wp.opN|(apply Wp.opG;exact rfl));(apply Evt.all;intro;(simp [wrap_id])<;>(try simp (disch := omega) only [wrap_id])<;>first|exact ⟨rfl,rfl⟩|exact rfl))|(apply Wp.opS;exact rfl;decide)|(apply Wp.opS0;exact rfl))
      exact ⟨trimO_len rfl, trivial⟩
    · cases h1
  · simp only [va2S]
    repeat (first|apply Wp.seq|apply Wp.skip|apply Wp.block|(apply Wp.op0;((simp [M2.keep])<;>rfl))|((first|apply Wp.op|apply Wp.opN|(apply Wp.opG;exact rfl));(apply Evt.all;intro;(simp [])<;>(try simp (disch := omega) only [wrap_id])<;>first|exact ⟨rfl,rfl⟩|exact rfl))|(apply Wp.opS;exact rfl;decide)|(apply Wp.opS0;exact rfl))
    refine Wp.cond (by first|rfl|(simp;rfl)) (fun h1 => ?_) (fun h1 => ?_)
    · simp at h1
    · exact Wp.exit ⟨rfl, rfl⟩
def va3S (l : List Ins) (A : List (List U)) (w : Way) (rn : List RNode) (o1 : Ob) (n : Nat) : S :=
  ⟨[(0, insL true l), (7, .sl true A), (8, .bp 1 0), (9, i64 n)], [o1, .box (rskelU w rn)]⟩
set_option maxHeartbeats 8000000 in
theorem va3_loop (l : List Ins) (w : Way) (rn : List RNode) (hrn : rn.length ≤ 200) (w0 : Way) (ns : List Node) (hes : ∀ n, (toF w rn n).length ≤ 1000)
    (hto : ∀ n st, Cl T n_joineryref10_To [.agg (rskelU w rn), i64 (n : Nat)] st (.sl true (edR (toF w rn n))) st)
    (hby : ∀ n, ∀ e ∈ toF w rn n, ∀ q : Nat, q < 24 → ∀ st, Cl T n_joineryref11_By [insL true l, .agg (rskelU w rn), .agg (edgeU e), i64 q] st (.agg (fsU (byF l w rn e q))) st) (R : S → Prop) :
    Wp T (.loop c_joinerylaw11_ValueAll_L3) (va3S l (allU rn.length (toF w rn) (byF l w rn)) w rn (.box (skelU w0 ns)) 0) (fun _ => False) R (fun b s' => b = 0 ∧ s' = ⟨[(0, insL true l), (7, .sl true (allU rn.length (toF w rn) (byF l w rn))), (8, .bp 1 0), (9, i64 (rn.length : Nat)), (52, .bool false)], [.box (skelU w0 ns), .box (rskelU w rn)]⟩) := by
  have hAl : (allU rn.length (toF w rn) (byF l w rn)).length = rn.length := by simp [allU]
  have hAn : ∀ n, n < rn.length → (allU rn.length (toF w rn) (byF l w rn))[n]? = some [.sl true (nodeA (byF l w rn) (toF w rn n))] := fun n hn => by simp [allU, hn]
  generalize allU rn.length (toF w rn) (byF l w rn) = A at *
  refine Wp.count rn.length (fun n => va3S l A w rn (.box (skelU w0 ns)) n) (fun _ => True) (fun n hn _ => ?_) (fun _ => ?_) 0 (by omega) trivial
  · have hn' : (n : Int) < rn.length := by omega
    have hA := hAn n hn
    have ht := hto n
    have hlp := va2_loop l A w rn w0 ns n (toF w rn n) (hes n) hA (hby n) R
    have hnl : (nodeA (byF l w rn) (toF w rn n)).length = (toF w rn n).length := by simp [nodeA]
    generalize nodeA (byF l w rn) (toF w rn n) = NA at *
    generalize toF w rn n = es at *
    simp only [va3S]
    repeat (first|apply Wp.seq|apply Wp.skip|apply Wp.block|(apply Wp.op0;((simp [M2.keep])<;>rfl))|((first|apply Wp.op|apply Wp.opN|(apply Wp.opG;exact rfl));(apply Evt.all;intro;(simp [hn',hAl])<;>(try simp (disch := omega) only [wrap_id])<;>first|exact ⟨rfl,rfl⟩|exact rfl))|(apply Wp.opS;exact rfl;decide)|(apply Wp.opS0;exact rfl))
    refine Wp.cond (by first|rfl|(simp;rfl)) (fun h1 => ?_) (fun h1 => ?_)
    · repeat (first|apply Wp.seq|apply Wp.skip|apply Wp.block|(apply Wp.op0;((simp [M2.keep])<;>rfl))|((first|apply Wp.op|apply Wp.opN|(apply Wp.opG;exact rfl));(apply Evt.all;intro;(simp [rskelU])<;>(try simp (disch := omega) only [wrap_id])<;>first|exact ⟨rfl,rfl⟩|exact rfl))|(apply Wp.opS;exact rfl;decide)|(apply Wp.opS0;exact rfl))
      apply Wp.call
      · exact ht _
      repeat (first|apply Wp.seq|apply Wp.skip|apply Wp.block|(apply Wp.op0;((simp [M2.keep])<;>rfl))|((first|apply Wp.op|apply Wp.opN|(apply Wp.opG;exact rfl));(apply Evt.all;intro;(simp [hn',hAl,hA,hnl])<;>(try simp (disch := omega) only [wrap_id])<;>first|exact ⟨rfl,rfl⟩|exact rfl))|(apply Wp.opS;exact rfl;decide)|(apply Wp.opS0;exact rfl))
      refine Wp.cond (by first|rfl|(simp;rfl)) (fun h2 => ?_) (fun h2 => ?_)
      · cases h2
      repeat (first|apply Wp.seq|apply Wp.skip|apply Wp.block|(apply Wp.op0;((simp [M2.keep])<;>rfl))|((first|apply Wp.op|apply Wp.opN|(apply Wp.opG;exact rfl));(apply Evt.all;intro;(simp [])<;>(try simp (disch := omega) only [wrap_id])<;>first|exact ⟨rfl,rfl⟩|exact rfl))|(apply Wp.opS;exact rfl;decide)|(apply Wp.opS0;exact rfl))
      refine (show Wp T (.loop c_joinerylaw11_ValueAll_L2) (va2S l A w rn (.box (skelU w0 ns)) n es 0) _ _ _ from hlp.imp (fun _ h => h.elim) (fun _ h => h) ?_)
      rintro b s ⟨rfl, rfl⟩
      rw [if_pos rfl]
      repeat (first|apply Wp.seq|apply Wp.skip|apply Wp.block|(apply Wp.op0;((simp [M2.keep])<;>rfl))|((first|apply Wp.op|apply Wp.opN|(apply Wp.opG;exact rfl));(apply Evt.all;intro;(simp [wrap_id])<;>(try simp (disch := omega) only [wrap_id])<;>first|exact ⟨rfl,rfl⟩|exact rfl))|(apply Wp.opS;exact rfl;decide)|(apply Wp.opS0;exact rfl))
      exact ⟨trimO_len rfl, trivial⟩
    · cases h1
  · simp only [va3S]
    repeat (first|apply Wp.seq|apply Wp.skip|apply Wp.block|(apply Wp.op0;((simp [M2.keep])<;>rfl))|((first|apply Wp.op|apply Wp.opN|(apply Wp.opG;exact rfl));(apply Evt.all;intro;(simp [hAl])<;>(try simp (disch := omega) only [wrap_id])<;>first|exact ⟨rfl,rfl⟩|exact rfl))|(apply Wp.opS;exact rfl;decide)|(apply Wp.opS0;exact rfl))
    refine Wp.cond (by first|rfl|(simp;rfl)) (fun h1 => ?_) (fun h1 => ?_)
    · simp at h1
    · exact Wp.exit ⟨rfl, rfl⟩
set_option maxHeartbeats 8000000 in
theorem law3_call (l : List Ins) (cut : List Bool) : Cl T n_joinerylaw11_ValueAll [insL true l, boolU true cut] [] (.bool true) [] := by
  refine Wp.pure (fn := c_joinerylaw11_ValueAll) rfl rfl rfl («as» := [insL true l, boolU true cut]) rfl ?_
  have kno := knows_call
  by_cases h1 : 60 < l.length
  · have d1 : decide ((60 : Int) < l.length) = true := decide_eq_true (by omega)
    repeat' (first|apply Wp.seq|apply Wp.skip|apply Wp.block|(apply Wp.op0;((simp [M2.keep])<;>rfl))|((first|(apply Wp.pickT;(exact rfl);(first|exact rfl|assumption))|(apply Wp.pickF;(exact rfl);(first|exact rfl|assumption)));((simp)<;>exact rfl))|((first|apply Wp.op|apply Wp.opN);(apply Evt.all;intro;(simp [insL])<;>(try simp (disch := omega) only [wrap_id])<;>first|exact ⟨rfl,rfl⟩|exact rfl))|(apply Wp.call;exact kno _)|(first|(apply Wp.ung;(exact rfl);(first|exact rfl|assumption))|(apply Wp.opSt;(exact rfl);(first|exact rfl|assumption))|(apply Wp.opSf;(exact rfl);(first|exact rfl|assumption)))|(apply Wp.opS0;(exact rfl))|(first|(apply Wp.condT;(exact rfl);(first|exact rfl|assumption))|(apply Wp.condF;(exact rfl);(first|exact rfl|assumption)))|((first|apply Wp.grdT|apply Wp.grdF|apply Wp.cond);(exact rfl);(intro);rotate_left 1;(intro);rotate_right 1))
    refine Wp.ret ?_
    simp [Res, resU, res1, c_joinerylaw11_ValueAll]
  have d1 : decide ((60 : Int) < l.length) = false := decide_eq_false (by omega)
  by_cases h2 : 300 < cut.length
  · have d2 : decide ((300 : Int) < cut.length) = true := decide_eq_true (by omega)
    repeat' (first|apply Wp.seq|apply Wp.skip|apply Wp.block|(apply Wp.op0;((simp [M2.keep])<;>rfl))|((first|(apply Wp.pickT;(exact rfl);(first|exact rfl|assumption))|(apply Wp.pickF;(exact rfl);(first|exact rfl|assumption)));((simp)<;>exact rfl))|((first|apply Wp.op|apply Wp.opN);(apply Evt.all;intro;(simp [insL,boolU])<;>(try simp (disch := omega) only [wrap_id])<;>first|exact ⟨rfl,rfl⟩|exact rfl))|(apply Wp.call;exact kno _)|(first|(apply Wp.ung;(exact rfl);(first|exact rfl|assumption))|(apply Wp.opSt;(exact rfl);(first|exact rfl|assumption))|(apply Wp.opSf;(exact rfl);(first|exact rfl|assumption)))|(apply Wp.opS0;(exact rfl))|(first|(apply Wp.condT;(exact rfl);(first|exact rfl|assumption))|(apply Wp.condF;(exact rfl);(first|exact rfl|assumption)))|((first|apply Wp.grdT|apply Wp.grdF|apply Wp.cond);(exact rfl);(intro);rotate_left 1;(intro);rotate_right 1))
    refine Wp.ret ?_
    simp [Res, resU, res1, c_joinerylaw11_ValueAll]
  have d2 : decide ((300 : Int) < cut.length) = false := decide_eq_false (by omega)
  have hri := fun st => right4_call true l st (insL true l) rfl
  cases hr : rightF l with
  | false =>
    rw [hr] at hri
    repeat' (first|apply Wp.seq|apply Wp.skip|apply Wp.block|(apply Wp.op0;((simp [M2.keep])<;>rfl))|((first|(apply Wp.pickT;(exact rfl);(first|exact rfl|assumption))|(apply Wp.pickF;(exact rfl);(first|exact rfl|assumption)));((simp)<;>exact rfl))|((first|apply Wp.op|apply Wp.opN);(apply Evt.all;intro;(simp [insL,boolU])<;>(try simp (disch := omega) only [wrap_id])<;>first|exact ⟨rfl,rfl⟩|exact rfl))|(apply Wp.call;exact hri _)|(apply Wp.call;exact kno _)|(first|(apply Wp.ung;(exact rfl);(first|exact rfl|assumption))|(apply Wp.opSt;(exact rfl);(first|exact rfl|assumption))|(apply Wp.opSf;(exact rfl);(first|exact rfl|assumption)))|(apply Wp.opS0;(exact rfl))|(first|(apply Wp.condT;(exact rfl);(first|exact rfl|assumption))|(apply Wp.condF;(exact rfl);(first|exact rfl|assumption)))|((first|apply Wp.grdT|apply Wp.grdF|apply Wp.cond);(exact rfl);(intro);rotate_left 1;(intro);rotate_right 1))
    refine Wp.ret ?_
    simp [Res, resU, res1, c_joinerylaw11_ValueAll]
  | true =>
    rw [hr] at hri
    have hb := build_call true l hr true cut
    obtain ⟨f1, f2, f3⟩ := skel_facts (cut := cut) hr
    have hsame := skel_same (cut := cut) hr
    have hrb := rbuild_call true l hr true cut
    have hent : pEntry l = outP l (rPlaces l cut) 0 := (nodes_spec (cut := cut) hr).2.1
    rw [← hent, ← hsame] at hrb
    have hal := all_call true l hr cut
    have hto := fun (n : Nat) st => to_call (pEntry l) (rnE l cut) (by rw [List.length_map]; exact f1) (fun x hx => by
      obtain ⟨y, hy, rfl⟩ := List.mem_map.1 hx
      exact (f2 y hy).1) n st
    have hlp := va3_loop l (pEntry l) (rnE l cut) (by rw [List.length_map]; exact f1) (pEntry l) (pNodes l cut) (toF_len hr cut) hto (fun n e he q hq st => rby_call true hr cut he q hq st)
    have sl := skel_len f3 (pNodes l cut)
    have hrl : (rnE l cut).length = (pNodes l cut).length := List.length_map ..
    rw [hrl] at hlp
    have hAl : (allU (pNodes l cut).length (toF (wE l) (rnE l cut)) (byF l (wE l) (rnE l cut))).length = (pNodes l cut).length := by simp [allU]
    simp only [va3S] at hlp
    generalize allU (pNodes l cut).length (toF (wE l) (rnE l cut)) (byF l (wE l) (rnE l cut)) = A at *
    have hrl : ((pNodes l cut).map rN).length = (pNodes l cut).length := by simp
    have t26 : (skelU (pEntry l) (pNodes l cut)).take 26 = skelU (pEntry l) (pNodes l cut) := by rw [List.take_of_length_le]; omega
    simp only [wE, rnE] at hlp
    generalize (pNodes l cut).map rN = rn at *
    repeat' (first|apply Wp.seq|apply Wp.skip|apply Wp.block|(apply Wp.op0;((simp [M2.keep])<;>rfl))|((first|(apply Wp.pickT;(exact rfl);(first|exact rfl|assumption))|(apply Wp.pickF;(exact rfl);(first|exact rfl|assumption)));((simp)<;>exact rfl))|((first|apply Wp.op|apply Wp.opN);(apply Evt.all;intro;(simp [insL,boolU,sl,t26,over_full,rskelU,hrl,hAl])<;>(try simp (disch := omega) only [wrap_id])<;>first|exact ⟨rfl,rfl⟩|exact rfl))|(apply Wp.call;exact hb _)|(apply Wp.call;exact hri _)|(apply Wp.call;exact hal _)|(apply Wp.call;exact hrb _)|(first|(apply Wp.ung;(exact rfl);(first|exact rfl|assumption))|(apply Wp.opSt;(exact rfl);(first|exact rfl|assumption))|(apply Wp.opSf;(exact rfl);(first|exact rfl|assumption)))|(apply Wp.opS0;(exact rfl))|(first|(apply Wp.condT;(exact rfl);(first|exact rfl|assumption))|(apply Wp.condF;(exact rfl);(first|exact rfl|assumption)))|((first|apply Wp.grdT|apply Wp.grdF|apply Wp.cond);(exact rfl);(intro);rotate_left 1;(intro);rotate_right 1))
    refine ((hlp _).imp (fun _ h => h.elim) (fun _ h => h) ?_)
    rintro b s ⟨rfl, rfl⟩
    rw [if_pos rfl]
    repeat' (first|apply Wp.seq|apply Wp.skip|apply Wp.block|(apply Wp.op0;((simp [M2.keep])<;>rfl))|((first|(apply Wp.pickT;(exact rfl);(first|exact rfl|assumption))|(apply Wp.pickF;(exact rfl);(first|exact rfl|assumption)));((simp)<;>exact rfl))|((first|apply Wp.op|apply Wp.opN);(apply Evt.all;intro;(simp [])<;>(try simp (disch := omega) only [wrap_id])<;>first|exact ⟨rfl,rfl⟩|exact rfl))|(apply Wp.call;exact kno _)|(first|(apply Wp.ung;(exact rfl);(first|exact rfl|assumption))|(apply Wp.opSt;(exact rfl);(first|exact rfl|assumption))|(apply Wp.opSf;(exact rfl);(first|exact rfl|assumption)))|(apply Wp.opS0;(exact rfl))|(first|(apply Wp.condT;(exact rfl);(first|exact rfl|assumption))|(apply Wp.condF;(exact rfl);(first|exact rfl|assumption)))|((first|apply Wp.grdT|apply Wp.grdF|apply Wp.cond);(exact rfl);(intro);rotate_left 1;(intro);rotate_right 1))
    refine Wp.ret ?_
    simp [Res, resU, res1, c_joinerylaw11_ValueAll]
theorem params3 : Tryd.f3.params.toList = [22, 23] := by kernel_rfl
theorem law3 : Law 3 Tryd.f3.params.toList := by
  rw [params3]
  intro us hl hty
  obtain ⟨l, cut, rfl⟩ := args2b hl hty
  exact law_of (law3_call l cut)
end Go.Proofs.YtcehbpimdngjfaaDoor.M2
namespace Go.Proofs.YtcehbpimdngjfaaDoor.M2
open Go Go.ChangeShapes Go.WideShapes Go.ChangeAt Go.RowKit
theorem bool4 : Tryd.prog.underlying 4 = some .bool := by kernel_rfl
theorem types3 : Tryd.f3.resultTypes = #[4] := by kernel_rfl
set_option maxRecDepth 100000 in
theorem valueAll_row (law : Law 3 Tryd.f3.params.toList) : Rows.ValueAllSaid :=
  OpenClaim.holds_of_wide 3 Tryd.f3 rfl rfl rfl rfl rfl rfl rfl ⟨rfl, rfl, rfl, rfl, rfl⟩ rfl rfl rfl rfl rfl (by kernel_rfl) Tryd.func3 (by kernel_rfl)
    (of_decide_eq_true (by kernel_rfl)) (by unfold Func.isWrapper; first | (rw [if_pos (by decide +kernel)]; kernel_rfl) | (rw [if_neg (by decide +kernel)]; exact ⟨rfl, rfl⟩))
    (fun os started H enc _ => lifted (s := Rows.valueAllSpec) law os started enc (by kernel_rfl) Tryd.func3 rfl (by kernel_rfl) types3 bool4
      (fun ds h => by
        have h1 : ds.length = 2 := h
        match ds, h1 with
        | [d0, d1], _ => rfl)
      (ChangeSpec.witness_shaped (enc := enc) (C := Tryd.checked) (os := os) (X := fun w _ => laidMetH Tryd.prog laid1 w) false (World.doorLaid Tryd.prog 400 os) #[.slice none 0 0, .slice none 0 0] 8 rfl (World.shaped_of_RefB (by kernel_rfl) (by kernel_rfl)) (by kernel_rfl) (by kernel_rfl) (by kernel_rfl) (door_met os _)))
theorem valueAll_card (law : Law 3 Tryd.f3.params.toList) : Rows.ValueAllCardSaid :=
  Claim7.holds_tied_plain_at .later [] [.data, .data] true (true, "44ecaefe8f35b4120cf5d2eb7e508e68f012c59f62bf85e87c4bf443f6a4b97c") true
    (valueAll_row law) (fun _ h => by cases h) (by kernel_rfl) (fun _ h => by cases h) valueAll_row_tie rfl ⟨rfl, rfl⟩ (by kernel_rfl) rfl
    (fun f fn hf hfn => by
      obtain rfl : f = 3 := Option.some.inj ((show Tryd.prog.funcNamed "joinery/joinerylaw11.ValueAll" = some 3 by kernel_rfl).symm.trans hf) |>.symm
      obtain rfl : fn = Tryd.f3 := (Option.some.inj (Tryd.func3.symm.trans hfn)).symm
      exact ⟨by kernel_rfl, fun j t ht => by
        rw [Tryd.params3] at ht
        have hm : t ∈ [22, 23] := by simpa using Array.mem_of_getElem? ht
        have hall : ([22, 23].all fun u => !Tryd.prog.wantsStandIn u) = true := by kernel_rfl
        exact (show Tryd.prog.wantsStandIn t = false by simpa using List.all_eq_true.1 hall t hm)⟩)
    (by kernel_rfl)
end Go.Proofs.YtcehbpimdngjfaaDoor.M2
namespace Go.Proofs.YtcehbpimdngjfaaDoor
theorem valueAll_said : Rows.ValueAllCardSaid := M2.valueAll_card M2.law3
end Go.Proofs.YtcehbpimdngjfaaDoor
