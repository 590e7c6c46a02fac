/- What the functions answer in M2. A form's run. -/
import Derived.Test.YtfmhnfimkpffnaaGreatDoorCj
set_option linter.unusedSimpArgs false
set_option linter.unusedVariables false
set_option linter.unusedSectionVars false
namespace Go.Proofs.YtfmhnfimkpffnaaGreatDoor.M2
open Go
attribute [local simp] ev1 M2.get put A.ev ld sub part elems bin arith un opt idx fillC cellsO splice over newOb sto fillR laidOwn appTo appRow touch touchN touchM touchE touchA plainU flatU plainAs allM rowAt stoRow accM_nil accM_cons accMM_nil accMM_cons frz_int frz_bool frz_str frz_slt frz_nils frz_nilI frz_nilF frz_own frzRow_row frzRow_frow Ob.blw blw_bool blw_int blw_str blw_nils blw_nilI blw_nilF blw_nilp blw_nilm blw_sl blw_own blw_bp blw_rp blw_mp blw_it params
attribute [local simp] frz_agg frz_tup frz_iface frzS_agg frzS_iface accMS_cons frzS_int frzS_bool frzS_str frzS_slt frzS_nils frzS_nilI beq_dec bne_dec
theorem Cl.lend {f : Nat} {fn : F} (hT : T f = some fn) (hp : fn.pure = true) {as' bs : List U} {st st' : List Ob} {u : U} (hl : as'.length = bs.length) (hb : allM (brwA frzD st) as' = allM (brwA frzD st) bs) (h : Cl T f bs st u st') : Cl T f as' st u st' :=
  Evt.mono h fun n h => by
    simp only [M2.call, callF, hT, Option.bind_some, hp, if_true] at h ⊢
    rw [hl, hb]
    exact h
theorem RU.lent {st : List Ob} {tag es : Nat} {u : U} {xs : List (List U)} (h : RU st tag es u xs) : ∃ p, brwA frzD st u = some (.sl p xs) := by
  obtain ⟨p, hp⟩ := h.brw 11
  refine ⟨p, ?_⟩
  rcases h with rfl | ⟨rfl, rfl⟩ | ⟨id, rfl, h⟩ <;> exact hp
theorem RU.load {st : List Ob} {u : U} {l : List Int} (h : RU st 2 1 u (l.map intC)) (a : Int) : Cl T n_heap_Load [u, i64 a] st (.tup [i64 (loadF l a).1, i64 (loadF l a).2]) st := by
  obtain ⟨p, hp⟩ := h.lent
  refine Cl.lend (fn := c_heap_Load) rfl rfl (bs := [heapU p l, i64 a]) rfl ?_ (heapLoad_call p l a st)
  simp only [M2.allM, hp]
  rfl
theorem RU.store {st : List Ob} {u : U} {l : List Int} (h : RU st 2 1 u (l.map intC)) (a v : Int) : Cl T n_heap_Store [u, i64 a, i64 v] st (.tup [heapU true (storeF l a v).1, i64 (storeF l a v).2]) st := by
  obtain ⟨p, hp⟩ := h.lent
  refine Cl.lend (fn := c_heap_Store) rfl rfl (bs := [heapU p l, i64 a, i64 v]) rfl ?_ (heapStore_call p l a v st)
  simp only [M2.allM, hp]
  rfl
theorem MSt.trim {x : FForm} {c : Cs} {st : List Ob} {m : Mch} {wy w h e o : U} (hm : MSt x c st m wy w h e o) {L : Nat} (hL : 6 < L) (en : Env) : MSt x c (trimO L ⟨en, st⟩).st m wy w h e o := by
  unfold trimO M2.trim
  split
  · rename_i hc
    simp only [Bool.and_eq_true] at hc
    have hall := hc.2
    simp only [Option.getD_some]
    have h6 : (st.take L)[6]? = some (.box (mcU x c m wy w h e o)) := by rw [List.getElem?_take, if_pos hL]; exact hm.box
    have hb := List.all_eq_true.1 hall _ (List.mem_of_getElem? h6)
    simp only [Ob.blw, List.all_eq_true] at hb
    have hk : ∀ (u : U) (tag es : Nat) (xs : List (List U)), u ∈ mcU x c m wy w h e o → RU st tag es u xs → RU (st.take L) tag es u xs := fun u tag es xs hu hr => by
      rcases hr with hr | hr | ⟨id, rfl, hr⟩
      · exact .inl hr
      · exact .inr (.inl hr)
      · have := hb _ hu
        rw [blw_own, decide_eq_true_eq] at this
        exact .inr (.inr ⟨id, rfl, by rw [List.getElem?_take, if_pos this]; exact hr⟩)
    have hin : ∀ u, u = wy ∨ u = w ∨ u = h ∨ u = e ∨ u = o → u ∈ mcU x c m wy w h e o := fun u hu => by
      unfold mcU
      rw [List.mem_append]
      right
      rcases hu with rfl | rfl | rfl | rfl | rfl <;> simp
    refine ⟨h6, hk _ _ _ _ (hin _ (by simp)) hm.ways, hk _ _ _ _ (hin _ (by simp)) hm.words, hk _ _ _ _ (hin _ (by simp)) hm.heap, hk _ _ _ _ (hin _ (by simp)) hm.evs, hm.evo, hk _ _ _ _ (hin _ (by simp)) hm.out, ?_⟩
    by_cases hl : L ≤ st.length
    · rw [List.length_take, Nat.min_eq_left hl]
      exact hall
    · rw [List.take_of_length_le (by omega)]
      exact hm.low
  · exact hm
theorem Keep.trim {st s : List Ob} (h : Keep st s) (en : Env) : Keep st (trimO st.length ⟨en, s⟩).st := by
  unfold trimO M2.trim
  split
  · simp only [Option.getD_some]
    refine ⟨by rw [List.length_take]; have := h.len; omega, fun i cs hi hb => ?_⟩
    rw [List.getElem?_take, if_pos (List.getElem?_eq_some_iff.1 hb).1]
    exact h.box i cs hi hb
  · exact h
theorem Keep.app (st Y : List Ob) : Keep st (st ++ Y) := ⟨by simp, fun i cs _ hb => by rw [List.getElem?_append_left (List.getElem?_eq_some_iff.1 hb).1, hb]⟩
def ndF (st : List Ob) (y : FNode) (a b : Int) : List Ob := st ++ [.box [.bp 6 0], .box (nodeC y), .box [i64 a, i64 b]]
def nd0S (st : List Ob) (y : FNode) (a b : Int) (i : Nat) : S := ⟨[(2, .bp st.length 0), (3, .bp (st.length + 1) 0), (6, .bp (st.length + 2) 0), (16, srcsU y.args), (17, i64 y.args.length), (18, i64 i)], ndF st y a b⟩
theorem argsE_snoc (c : Cs) (ws : List Wd) (s : Int × Int) : ∀ l : List (Int × Int), argsE c ws (l ++ [s]) = (argsE c ws l).bind fun v => if (wordE c ws 0 s).1 then some (v ++ [(wordE c ws 0 s).2]) else none
  | [] => by
    simp only [List.nil_append, argsE, Option.bind_some]
    split <;> rfl
  | t :: l => by
    simp only [List.cons_append, argsE, argsE_snoc c ws s l]
    split
    · cases argsE c ws l with
      | none => rfl
      | some v =>
        simp only [Option.bind_some, Option.map_some]
        split <;> rfl
    · rfl
theorem argsE_len {c : Cs} {ws : List Wd} : ∀ {l : List (Int × Int)} {v : List Int}, argsE c ws l = some v → v.length = l.length
  | [], v, h => by cases h; rfl
  | s :: l, v, h => by
    unfold argsE at h
    split at h
    · obtain ⟨u, h1, rfl⟩ := Option.map_eq_some_iff.1 h
      simp [argsE_len h1]
    · cases h
theorem argsE_none {c : Cs} {ws : List Wd} {l : List (Int × Int)} {i : Nat} (h : argsE c ws (l.take i) = none) : argsE c ws l = none := by
  have : ∀ (a b : List (Int × Int)), argsE c ws a = none → argsE c ws (a ++ b) = none := by
    intro a b
    induction a with
    | nil => intro h; cases h
    | cons s a ih =>
      intro h
      unfold argsE at h
      rw [List.cons_append]
      unfold argsE
      split
      · rename_i hs
        rw [if_pos hs] at h
        rw [ih (Option.map_eq_none_iff.1 h)]
        rfl
      · rfl
  rw [← List.take_append_drop i l]
  exact this _ _ h
theorem wordP_arg (c : Cs) (ws : List Wd) (df : Wd) {s : Int × Int} (hs : ¬ s.1 = 3) : wordP c ws df s = wordE c ws 0 s := by
  unfold wordP wordE
  simp only [hs, if_false]
set_option maxHeartbeats 8000000 in
theorem nd0_loop {x : FForm} {c : Cs} (hR : c.R.length = 8) {st : List Ob} {m : Mch} {wy w h e o : U} (hm : MSt x c st m wy w h e o) (hws : m.ws.length = x.vals.length) (y : FNode) (hal : y.args.length ≤ 2) (hsr : ∀ s ∈ y.args, srcIn x s ∧ ¬ s.1 = 3) (R : S → Prop) (hRn : argsE c m.ws y.args = none → ∀ E G, M2.get E 4 = i64 2 → M2.get E 5 = i64 0 → (st ++ G).all (Ob.blw (st ++ G).length) = true → R ⟨E, st ++ G⟩) :
    Wp T (.loop c_engine_machine_node_L0) (nd0S st y 0 0 0) (fun _ => False) R
      (fun b s' => b = 0 ∧ ∃ l v, argsE c m.ws y.args = some l ∧ s' = ⟨[(2, .bp st.length 0), (3, .bp (st.length + 1) 0), (6, .bp (st.length + 2) 0), (16, srcsU y.args), (17, i64 y.args.length), (18, i64 (y.args.length : Nat)), (19, v)], ndF st y (l.getD 0 0) (l.getD 1 0)⟩) := by
  refine Wp.count y.args.length (fun i => nd0S st y (((argsE c m.ws (y.args.take i)).getD []).getD 0 0) (((argsE c m.ws (y.args.take i)).getD []).getD 1 0) i) (fun i => (argsE c m.ws (y.args.take i)).isSome = true) (fun i hi hP => ?_) (fun hP => ?_) 0 (by omega) rfl
  · have hi' : (i : Int) < y.args.length := by omega
    have eg : y.args[i]? = some y.args[i] := List.getElem?_eq_getElem hi
    have hsn := argsE_snoc c m.ws y.args[i] (y.args.take i)
    rw [← List.take_succ_eq_append_getElem hi] at hsn
    have hsi := hsr _ (List.getElem_mem hi)
    have hlast : argsE c m.ws (y.args.take (i + 1)) = none → argsE c m.ws y.args = none := argsE_none
    generalize y.args[i] = s at *
    cases hl : argsE c m.ws (y.args.take i) with
    | none => rw [hl] at hP; cases hP
    | some l =>
      have hll : l.length = i := by rw [argsE_len hl, List.length_take]; omega
      rw [hl] at hsn
      simp only [Option.bind_some] at hsn
      simp only [nd0S, Option.getD_some]
      have hFl : (ndF st y (l.getD 0 0) (l.getD 1 0)).all (Ob.blw (ndF st y (l.getD 0 0) (l.getD 1 0)).length) = true := low_push hm.low (by
        have := (List.getElem?_eq_some_iff.1 hm.box).1
        simp [nodeC, srcsU, outsU]
        omega)
      have hFm : MSt x c (ndF st y (l.getD 0 0) (l.getD 1 0)) m wy w h e o := hm.ext ⟨_, rfl⟩ hFl
      obtain ⟨F, hF⟩ : ∃ F, F = ndF st y (l.getD 0 0) (l.getD 1 0) := ⟨_, rfl⟩
      have hset : ∀ (a b : Int), F.set (st.length + 2) (.box [i64 a, i64 b]) = ndF st y a b := fun a b => by
        rw [hF]
        unfold ndF
        rw [List.set_append_right _ _ (by omega), show st.length + 2 - st.length = 2 by omega]
        rfl
      have hFst : F = st ++ [.box [.bp 6 0], .box (nodeC y), .box [i64 (l.getD 0 0), i64 (l.getD 1 0)]] := hF
      rw [← hF] at hFl hFm ⊢
      have hFlen : F.length = st.length + 3 := by rw [hFst]; simp
      have k0 : ∀ (G : List Ob) (j : Nat), j < st.length + 3 → (F ++ G)[j]? = F[j]? := fun G j hj => List.getElem?_append_left (by omega)
      have f0 : ∀ G, (F ++ G)[st.length]? = some (.box [.bp 6 0]) := fun G => by rw [k0 _ _ (by omega), hFst]; simp
      have f1 : ∀ G, (F ++ G)[st.length + 2]? = some (.box [i64 (l.getD 0 0), i64 (l.getD 1 0)]) := fun G => by rw [k0 _ _ (by omega), hFst]; simp
      have f2 : ∀ G o', (F ++ G).set (st.length + 2) o' = F.set (st.length + 2) o' ++ G := fun G o' => List.set_append_left _ _ (by omega)
      have g1 : ∀ o', (F ++ [o'])[F.length]? = some o' := fun o' => by simp
      have g2 : ∀ o1 o2 : Ob, (F ++ [o1]).set F.length o2 = F ++ [o2] := fun o1 o2 => by simp
      have g3 : ∀ o1 o2 : Ob, (F ++ [o1, o2])[F.length + 1]? = some o2 := fun o1 o2 => by simp
      have g4 : ∀ o1 o2 o3 : Ob, (F ++ [o1, o2]).set (F.length + 1) o3 = F ++ [o1, o3] := fun o1 o2 o3 => by simp
      have hmw : MSt x c (F ++ [.box (srcC s)]) m wy w h e o := hFm.ext ⟨_, rfl⟩ (low_push hFl (by simp [srcC]))
      have hw := word_call hR hmw hws hsi.1
      rw [wordP_arg _ _ _ hsi.2] at hw
      generalize wordE c m.ws 0 s = v at *
      obtain ⟨v1, v2⟩ := v
      simp only [wdU] at hw
      (have := fa hi'; repeat refine Wp.f ?_)
      refine Wp.i ?_ ?_ <;> intro h1
      · cases v1 with
        | false =>
          (all_goals have := fa (a5 @srcsU.eq_1 hi' eg g1 (a5 g2 g3 g4 @srcC_len (a3 @srcC_take @srcC_over f0))); repeat' first | refine Wp.v ?_ | (apply Wp.call; exact hw) | (refine Wp.c ?_ ?_ <;> intro))
          have hlw : (F ++ [Ob.box (srcC s), Ob.box [.bool false, i64 v2]]).all (Ob.blw (F ++ [Ob.box (srcC s), Ob.box [.bool false, i64 v2]]).length) = true := low_push hFl (by simp [srcC])
          rw [hFst, List.append_assoc] at hlw ⊢
          exact Wp.ret (hRn (hlast (by rw [hsn]; rfl)) _ _ rfl rfl hlw)
        | true =>
          have hsn' : argsE c m.ws (y.args.take (i + 1)) = some (l ++ [v2]) := by rw [hsn]; rfl
          rw [hsn']
          simp only [Option.getD_some]
          have hspl : splice [i64 (l.getD 0 0), i64 (l.getD 1 0)] i [i64 v2] = [i64 ((l ++ [v2]).getD 0 0), i64 ((l ++ [v2]).getD 1 0)] := by
            have hi2 : i = 0 ∨ i = 1 := by omega
            rcases hi2 with rfl | rfl
            · have hl0 : l = [] := List.eq_nil_of_length_eq_zero hll
              subst hl0
              rfl
            · match l, hll with
              | [a], _ => rfl
          have hi2' : (i : Int) < 2 := by omega
          have hi3 : i < 2 := by omega
          have hi4 : i ≤ 1 := by omega
          have hset2 := hset ((l ++ [v2]).getD 0 0) ((l ++ [v2]).getD 1 0)
          rw [← hset2]
          generalize (l ++ [v2]).getD 0 0 = a' at *
          generalize (l ++ [v2]).getD 1 0 = b' at *
          generalize l.getD 0 0 = a at *
          generalize l.getD 1 0 = b at *
          (all_goals have := fa (a5 @srcsU.eq_1 hi' eg g1 (a5 g2 g3 g4 @srcC_len (a5 @srcC_take @srcC_over f0 f1 (a5 f2 hi2' hi3 hi4 hspl)))); repeat' first | refine Wp.v ?_ | (apply Wp.call; exact hw) | (refine Wp.c ?_ ?_ <;> intro))
          refine ⟨?_, rfl⟩
          have hFl2 : (F.set (st.length + 2) (.box [i64 a', i64 b'])).all (Ob.blw (F.set (st.length + 2) (.box [i64 a', i64 b'])).length) = true := by
            rw [List.length_set]
            exact low_set hFl rfl
          rw [show F.length = (F.set (st.length + 2) (.box [i64 a', i64 b'])).length by rw [List.length_set]]
          refine trim_list ?_ hFl2
          simp [srcsU]
          omega
      · cases h1
  · rw [List.take_of_length_le (Nat.le_refl _)] at hP ⊢
    cases hl : argsE c m.ws y.args with
    | none => rw [hl] at hP; cases hP
    | some l =>
      simp only [nd0S, ndF, Option.getD_some]
      repeat refine Wp.a ?_
      refine Wp.i ?_ ?_ <;> intro h1
      · simp at h1
      · exact Wp.exit ⟨rfl, l, _, rfl, rfl⟩
theorem MSt.putH {x : FForm} {c : Cs} (hR : c.R.length = 8) {st : List Ob} {m : Mch} {wy w h e o : U} (hm : MSt x c st m wy w h e o) (m' : Mch) {h' o' : U} (h1 : m'.ws = m.ws) (h3 : m'.ev = m.ev) (hh : RU st 2 1 h' (m'.h.map intC)) (ho : RU st 2 1 o' (m'.out.map intC)) : MSt x c (st.set 6 (.box (mcU x c m' wy w h' e o'))) m' wy w h' e o' := by
  have h6 := (List.getElem?_eq_some_iff.1 hm.box).1
  refine ⟨by simp [h6], hm.ways.put hm.box _, by rw [h1]; exact hm.words.put hm.box _, hh.put hm.box _, by rw [h3]; exact hm.evs.put hm.box _, hm.evo, ho.put hm.box _, ?_⟩
  rw [List.length_set]
  exact low_set hm.low (mc_low hR (hm.ways.low _ (Nat.le_refl _)) (hm.words.low _ (Nat.le_refl _)) (hh.low _ (Nat.le_refl _)) (hm.evs.low _ (Nat.le_refl _)) (ho.low _ (Nat.le_refl _)))
def enS (m : Mch) : EnS := ⟨m.pos, m.ws, m.h, m.asked, m.ev⟩
def doM (c : Cs) (m : Mch) (y : FNode) : Mch :=
  let r := doE c (enS m) y
  { m with h := r.s.h, asked := r.s.asked, ev := r.s.ev, df := if (argsE c m.ws y.args).isSome ∧ defF y.op = true then (true, r.v) else m.df, val := if r.how = 1 then r.val else m.val, out := if r.how = 1 then r.s.h else m.out }
def NdOK (x : FForm) (c : Cs) (st : List Ob) (wy w : U) (r : NodeR') (m' : Mch) (s : S) : Prop := resU s c_engine_machine_node.res = some (.tup [i64 r.how, i64 r.way]) ∧ ∃ h' e' o', MSt x c s.st m' wy w h' e' o' ∧ Keep st s.st
set_option maxHeartbeats 32000000 in
theorem mnode_call {x : FForm} {c : Cs} (hR : c.R.length = 8) (hca : c.ans.length ≤ 100000) {st : List Ob} {m : Mch} {wy w h e o : U} (hm : MSt x c st m wy w h e o) (hws : m.ws.length = x.vals.length) (hev : m.ev.length ≤ 100000) (hmh : m.h.length ≤ 1000) {n : Nat} {y : FNode} (hy : nodeF x n y = true) :
    ∃ st' h' e' o', Cl T n_engine_machine_node [.bp 6 0, .agg (nodeC y)] st (.tup [i64 (doE c (enS m) y).how, i64 (doE c (enS m) y).way]) st' ∧ MSt x c st' (doM c m y) wy w h' e' o' ∧ Keep st st' := by
  have h6 := (List.getElem?_eq_some_iff.1 hm.box).1
  obtain ⟨ho, hal, hol, hn, has, hos⟩ := node_parts hy
  -- it is enough to run the body
  suffices hrun : ∃ s, Ev T c_engine_machine_node.body ⟨params 0 [.bp 6 0, .agg (nodeC y)], st⟩ .ret s ∧ NdOK x c st wy w (doE c (enS m) y) (doM c m y) s by
    obtain ⟨s, h1, h2, h', e', o', h3, h4⟩ := hrun
    exact ⟨_, h', e', o', .impure (fn := c_engine_machine_node) rfl rfl rfl h1 rfl h2, h3.trim (by omega) _, h4.trim _⟩
  suffices hwp : Wp T c_engine_machine_node.body ⟨params 0 [.bp 6 0, .agg (nodeC y)], st⟩ (fun _ => False) (NdOK x c st wy w (doE c (enS m) y) (doM c m y)) (fun _ _ => False) by
    unfold Wp at hwp
    obtain ⟨X, s, h1, h2⟩ := hwp
    cases X with
    | nrm => exact h2.elim
    | ret => exact ⟨s, h1, h2⟩
    | exit i => exact h2.elim
  have hal2 : y.args.length ≤ 2 := by
    rw [hal]
    unfold argsF
    split
    · omega
    · split <;> omega
  have hsr : ∀ s ∈ y.args, srcIn x s ∧ ¬ s.1 = 3 := fun s hs => arg_in (has s hs)
  (repeat' first | refine Wp.u ?_ | (refine Wp.c ?_ ?_ <;> intro))
  refine (show Wp T (.loop c_engine_machine_node_L0) (nd0S st y 0 0 0) _ _ _ from (nd0_loop hR hm hws y hal2 hsr (NdOK x c st wy w (doE c (enS m) y) (doM c m y)) (fun hn E G h4 h5 hlw => ?_)).imp (fun _ h => h.elim) (fun _ h => h) ?_)
  · have e1 : doE c (enS m) y = ⟨2, 0, 0, enS m, 0⟩ := by
      unfold doE
      rw [show (enS m).ws = m.ws from rfl, hn]
    have e2 : doM c m y = m := by
      unfold doM
      rw [e1, hn]
      rfl
    rw [e1, e2]
    refine ⟨?_, h, e, o, hm.ext ⟨G, rfl⟩ hlw, Keep.app st G⟩
    simp only [resU, c_engine_machine_node, M2.allM, res1, h4, h5, Option.bind_some]
    rfl
  · rintro b s ⟨rfl, l, v, hl, rfl⟩
    rw [if_pos rfl]
    have hll := argsE_len hl
    have hFl : (ndF st y (l.getD 0 0) (l.getD 1 0)).all (Ob.blw (ndF st y (l.getD 0 0) (l.getD 1 0)).length) = true := low_push hm.low (by
      simp [nodeC, srcsU, outsU]
      omega)
    have hFm : MSt x c (ndF st y (l.getD 0 0) (l.getD 1 0)) m wy w h e o := hm.ext ⟨_, rfl⟩ hFl
    have hFk : Keep st (ndF st y (l.getD 0 0) (l.getD 1 0)) := Keep.app st _
    have hFlen : (ndF st y (l.getD 0 0) (l.getD 1 0)).length = st.length + 3 := by simp [ndF]
    have f0 : (ndF st y (l.getD 0 0) (l.getD 1 0))[st.length]? = some (.box [.bp 6 0]) := by simp [ndF]
    have f1 : (ndF st y (l.getD 0 0) (l.getD 1 0))[st.length + 1]? = some (.box (nodeC y)) := by simp [ndF]
    have f2 : (ndF st y (l.getD 0 0) (l.getD 1 0))[st.length + 2]? = some (.box [i64 (l.getD 0 0), i64 (l.getD 1 0)]) := by simp [ndF]
    unfold doM doE
    rw [show (enS m).ws = m.ws from rfl, hl]
    simp only [Option.isSome_some, true_and]
    generalize ndF st y (l.getD 0 0) (l.getD 1 0) = F at *
    generalize l.getD 0 0 = a at *
    generalize l.getD 1 0 = b at *
    (repeat' first | refine Wp.u ?_ | (refine Wp.c ?_ ?_ <;> intro))
    refine Wp.draw (by (simp [c_engine_machine_node_D1, I.need]) <;> rfl) (by first | ((simp [f2]) <;> rfl) | exact rfl) (by (simp [f2]) <;> rfl) (by (unfold c_engine_machine_node_D1); (repeat (first | ((first | apply Dr.op | apply Dr.opN | (apply Dr.opG; exact rfl)); ((simp [f2]) <;> rfl); (apply Evt.all; intro; (simp [f2]) <;> (try simp (disch := omega) only [wrap_id]) <;> first | exact ⟨rfl, rfl⟩ | exact rfl); ((simp [I.need]) <;> rfl)) | ((first | (apply Dr.opS; exact rfl; decide) | (apply Dr.opS0; exact rfl)); ((simp [I.need]) <;> rfl)) | (apply Dr.call; ((simp [f2]) <;> rfl); exact hm) | (apply Dr.callG; (exact rfl); ((simp [f2]) <;> rfl); exact hm))); exact Dr.nil) (by (simp [chkD, aside, tmpInd, ind, c_engine_machine_node_D1, touchX, touchE, elems, rowAt, O.uses, I.uses, M2.A.uses]) <;> (try decide)) (by (simp [M2.keep]) <;> rfl) ?_
    obtain ⟨op, yn, args, outs⟩ := y
    have hbx := hFm.box
    have hbx2 : ∃ l1 l2 l3 l4 l5 l6 l7 l8 l9 l10 l11 l12 l13 l14 l15 l16, F[6]? = some (.box [l1, l2, l3, l4, l5, l6, l7, l8, l9, l10, l11, l12, l13, l14, wy, w, h, l15, l16, .bool m.df.1, i64 m.df.2, e, i64 m.how, i64 m.val, o, i64 m.steps, i64 m.work]) ∧ ∀ m' h' o', mcU x c m' wy w h' e o' = [l1, l2, l3, l4, l5, l6, l7, l8, l9, l10, l11, l12, l13, l14, wy, w, h', i64 m'.asked, i64 m'.pos, .bool m'.df.1, i64 m'.df.2, e, i64 m'.how, i64 m'.val, o', i64 m'.steps, i64 m'.work] ∧ l15 = i64 m.asked ∧ l16 = i64 m.pos := by
      obtain ⟨R, ch, ans, fuel, lq⟩ := c
      obtain ⟨r0, r1, r2, r3, r4, r5, r6, r7, rfl⟩ := R8 hR
      exact ⟨_, _, _, _, _, _, _, _, _, _, _, _, _, _, _, _, hbx, fun m' h' o' => ⟨rfl, rfl, rfl⟩⟩
    obtain ⟨l1, l2, l3, l4, l5, l6, l7, l8, l9, l10, l11, l12, l13, l14, l15, l16, hb6, hmc⟩ := hbx2
    simp only at ho hal hol hn ⊢
    have hcome := fun v how => come_call hR hFm f0 v how
    rcases op_cases ho with rfl | rfl | rfl | rfl | rfl | rfl | rfl | rfl | rfl | rfl | rfl | rfl | rfl | rfl | rfl
    · (all_goals have := fa (a2 f1 @nodeC.eq_1); repeat' first | refine Wp.v ?_ | (refine Wp.c ?_ ?_ <;> intro))
      refine Wp.ret ⟨by simp [resU, c_engine_machine_node, res1], h, e, o, ?_, hFk⟩
      exact hFm
    iterate 9
      · have hnum := numDo_call
        have hn1 : ∀ k : Int, ¬ (numF k a b).2 = 1 := fun k => by
          unfold numF
          split
          · simp
          · split <;> simp
        (all_goals have := fa (a2 f1 @nodeC.eq_1); repeat' first | refine Wp.v ?_ | (apply Wp.call; exact hnum _ _ _ _) | (apply Wp.callv; exact rfl; exact hcome _ _) | (refine Wp.c ?_ ?_ <;> intro))
        refine Wp.ret ⟨by simp [resU, c_engine_machine_node, res1], h, e, o, ?_, hFk.trans (Keep.put _ _)⟩
        have hp := fun v => hFm.put hR { m with df := (true, v) } rfl rfl rfl rfl
        simpa [enS, defF, hn1] using hp _
    · have hld := hFm.heap.load a
      have hn1 : ¬ (loadF m.h a).2 = 1 := by
        unfold loadF
        split <;> simp
      (all_goals have := fa (a4 f1 @nodeC.eq_1 f0 hb6); repeat' first | refine Wp.v ?_ | (apply Wp.call; exact hld) | (apply Wp.callv; exact rfl; exact hcome _ _) | (refine Wp.c ?_ ?_ <;> intro))
      refine Wp.ret ⟨by simp [resU, c_engine_machine_node, res1, enS], h, e, o, ?_, hFk.trans (Keep.put _ _)⟩
      have hp := fun v => hFm.put hR { m with df := (true, v) } rfl rfl rfl rfl
      simpa [enS, defF, hn1] using hp _
    · have hst := hFm.heap.store a b
      simp only [heapU] at hst
      by_cases h0 : (storeF m.h a b).2 = 0
      · (all_goals have := fa (a5 f1 @nodeC.eq_1 f0 hb6 h0); repeat' first | refine Wp.v ?_ | (apply Wp.call; exact hst) | (refine Wp.c ?_ ?_ <;> intro))
        have hp := hFm.putH hR { m with h := (storeF m.h a b).1 } rfl rfl (.inl rfl) hFm.out
        refine Wp.ret ⟨by simp [resU, c_engine_machine_node, res1, enS, h0], heapU true (storeF m.h a b).1, e, o, ?_, hFk.trans (Keep.put _ _)⟩
        rw [(hmc _ _ _).1] at hp
        simp [enS, defF, h0, (hmc m h o).2.1, (hmc m h o).2.2, heapU] at hp ⊢
        exact hp
      · have hn1 : ¬ (storeF m.h a b).2 = 1 := by
          unfold storeF
          split <;> simp
        (all_goals have := fa (a5 f1 @nodeC.eq_1 f0 hb6 h0); repeat' first | refine Wp.v ?_ | (apply Wp.call; exact hst) | (refine Wp.c ?_ ?_ <;> intro))
        refine Wp.ret ⟨by simp [resU, c_engine_machine_node, res1, enS, h0], h, e, o, ?_, hFk⟩
        simpa [enS, defF, h0, hn1] using hFm
    · obtain ⟨F1, e', hcl, hM1, hK1⟩ := ask_call hR hca hFm hev yn a
      have hcome1 := fun v how => come_call hR hM1 (hK1.box _ _ (by omega) f0) v how
      have hp := fun v => hM1.put hR { askM c m yn a with df := (true, v) } rfl rfl rfl rfl
      unfold askV at hcl
      by_cases hlt : m.asked < c.ans.length
      · rw [if_pos hlt] at hcl
        (all_goals have := fa (a4 f1 @nodeC.eq_1 f0 hb6); repeat' first | refine Wp.v ?_ | (apply Wp.call; exact hcl) | (apply Wp.callv; exact rfl; exact hcome1 _ _) | (refine Wp.c ?_ ?_ <;> intro))
        refine Wp.ret ⟨by simp [resU, c_engine_machine_node, res1, enS, hlt], h, e', o, ?_, (hFk.trans hK1).trans (Keep.put _ _)⟩
        simpa [enS, defF, hlt, askM] using hp _
      · rw [if_neg hlt] at hcl
        (all_goals have := fa (a4 f1 @nodeC.eq_1 f0 hb6); repeat' first | refine Wp.v ?_ | (apply Wp.call; exact hcl) | (apply Wp.callv; exact rfl; exact hcome1 _ _) | (refine Wp.c ?_ ?_ <;> intro))
        refine Wp.ret ⟨by simp [resU, c_engine_machine_node, res1, enS, hlt], h, e', o, ?_, (hFk.trans hK1).trans (Keep.put _ _)⟩
        simpa [enS, defF, hlt, askM] using hp _
    · by_cases ha0 : a = 0
      · (all_goals have := fa (a3 f1 @nodeC.eq_1 ha0); repeat' first | refine Wp.v ?_ | (refine Wp.c ?_ ?_ <;> intro))
        refine Wp.ret ⟨by simp [resU, c_engine_machine_node, res1, ha0], h, e, o, ?_, hFk⟩
        exact hFm
      · (all_goals have := fa (a3 f1 @nodeC.eq_1 ha0); repeat' first | refine Wp.v ?_ | (refine Wp.c ?_ ?_ <;> intro))
        refine Wp.ret ⟨by simp [resU, c_engine_machine_node, res1, ha0], h, e, o, ?_, hFk⟩
        exact hFm
    · have hG := hFm.put hR { m with val := a } rfl rfl rfl rfl
      rw [(hmc _ h o).1] at hG
      have h6F : 6 < F.length := by omega
      have hGL : (F.set 6 (.box [l1, l2, l3, l4, l5, l6, l7, l8, l9, l10, l11, l12, l13, l14, wy, w, h, i64 m.asked, i64 m.pos, .bool m.df.1, i64 m.df.2, e, i64 m.how, i64 a, o, i64 m.steps, i64 m.work])).length = F.length := List.length_set ..
      have hlow : (F.set 6 (.box [l1, l2, l3, l4, l5, l6, l7, l8, l9, l10, l11, l12, l13, l14, wy, w, h, i64 m.asked, i64 m.pos, .bool m.df.1, i64 m.df.2, e, i64 m.how, i64 a, o, i64 m.steps, i64 m.work]) ++ [Ob.row 2 1 false (m.h.map intC), Ob.hole]).all (Ob.blw (F.set 6 (.box [l1, l2, l3, l4, l5, l6, l7, l8, l9, l10, l11, l12, l13, l14, wy, w, h, i64 m.asked, i64 m.pos, .bool m.df.1, i64 m.df.2, e, i64 m.how, i64 a, o, i64 m.steps, i64 m.work]) ++ [Ob.row 2 1 false (m.h.map intC), Ob.hole]).length) = true := low_push hG.low rfl
      have hG2 := hG.ext ⟨_, rfl⟩ hlow
      have hp := hG2.putH hR { m with val := a, out := m.h } (h' := h) (o' := .own F.length m.h.length) rfl rfl hG2.heap (.inr (.inr ⟨F.length, by rw [List.length_map], by rw [← hGL]; simp⟩))
      rw [(hmc _ _ _).1] at hp
      (all_goals have := fa (a4 f1 @nodeC.eq_1 f0 hb6); repeat' first | refine Wp.v ?_ | (refine Wp.c ?_ ?_ <;> intro))
      rw [(hmc m h o).2.1, (hmc m h o).2.2]
      refine ret_heap (by rw [List.getElem?_set_ne (by omega)]; exact f0) (by rw [hGL]; exact h6F) (by rw [hGL]; omega) (by rw [List.getElem?_set_self h6F]) hG.heap hmh ?_
      (repeat' first | refine Wp.u ?_ | (refine Wp.c ?_ ?_ <;> intro))
      refine Wp.ret ⟨by simp [resU, c_engine_machine_node, res1, enS], h, e, .own F.length m.h.length, ?_, ((hFk.trans (Keep.put _ _)).trans (Keep.app _ _)).trans (Keep.put _ _)⟩
      simpa [enS, defF] using hp
set_option maxHeartbeats 4000000 in
theorem csRight_call (c : Cs) (hR : c.R.length = 8) (st : List Ob) : Cl T n_run_Right [.agg (csU c)] st (.bool (csRight c)) st := by
  obtain ⟨R, h, ans, fuel, lq⟩ := c
  obtain ⟨r0, r1, r2, r3, r4, r5, r6, r7, rfl⟩ := R8 hR
  refine Wp.pure (fn := c_run_Right) rfl rfl rfl («as» := [.agg (csU ⟨[r0, r1, r2, r3, r4, r5, r6, r7], h, ans, fuel, lq⟩)]) rfl ?_
  have hr : ∀ st, Cl T n_heap_Right [intsU h] st (.bool (decide (h.length ≤ 16))) st := heapRight_call true h
  unfold csRight
  simp only
  have e1 : decide ((ans.length : Int) ≤ 5000) = decide (ans.length ≤ 5000) := decide_eq_decide.2 (by omega)
  by_cases h1 : h.length ≤ 16
  · have d1 : decide (h.length ≤ 16) = true := decide_eq_true h1
    rw [d1] at hr ⊢
    by_cases h2 : ans.length ≤ 5000
    · have d2 : decide (ans.length ≤ 5000) = true := decide_eq_true h2
      rw [d2] at e1 ⊢
      by_cases h3 : 0 ≤ fuel
      · have d3 : decide (0 ≤ fuel) = true := decide_eq_true h3
        rw [d3]
        (all_goals have := fa @csU.eq_1; repeat' first | refine Wp.v ?_ | (apply Wp.call; exact hr _) | (refine Wp.c ?_ ?_ <;> intro))
        refine Wp.ret ?_
        simp [Res, resU, res1, c_run_Right]
      · have d3 : decide (0 ≤ fuel) = false := decide_eq_false h3
        rw [d3]
        (all_goals have := fa @csU.eq_1; repeat' first | refine Wp.v ?_ | (apply Wp.call; exact hr _) | (refine Wp.c ?_ ?_ <;> intro))
        refine Wp.ret ?_
        simp [Res, resU, res1, c_run_Right]
    · have d2 : decide (ans.length ≤ 5000) = false := decide_eq_false h2
      rw [d2] at e1 ⊢
      (all_goals have := fa @csU.eq_1; repeat' first | refine Wp.v ?_ | (apply Wp.call; exact hr _) | (refine Wp.c ?_ ?_ <;> intro))
      refine Wp.ret ?_
      simp [Res, resU, res1, c_run_Right]
  · have d1 : decide (h.length ≤ 16) = false := decide_eq_false h1
    rw [d1] at hr ⊢
    (all_goals have := fa @csU.eq_1; repeat' first | refine Wp.v ?_ | (apply Wp.call; exact hr _) | (refine Wp.c ?_ ?_ <;> intro))
    refine Wp.ret ?_
    simp [Res, resU, res1, c_run_Right]
def trU (t : TR) : List U := [.sl true (t.ev.map evnU), i64 t.how, i64 t.val, intsU t.out, i64 t.steps, i64 t.work]
def Z6 : List U := [.nils, i64 0, i64 0, .nils, i64 0, i64 0]
def m0 (x : FForm) (c : Cs) : Mch := ⟨List.replicate x.vals.length (false, 0), c.h, 0, 0, (false, 0), [], 0, 0, [], 0, 0⟩
def in0 (x : FForm) (c : Cs) (wy : U) : List Ob := [.box (formC x), .box (csU c), .box Z6, .row 45 2 false (List.replicate x.vals.length [.bool false, i64 0]), .row 2 1 false (c.h.map intC), .hole, .box (mcU x c (m0 x c) wy (.own 3 x.vals.length) (.own 4 c.h.length) .nils .nils)]
set_option maxHeartbeats 8000000 in
theorem init_call {x : FForm} {c : Cs} (hR : c.R.length = 8) (hx : Small x) (hh : c.h.length ≤ 1000) {K R : S → Prop} {B : Nat → S → Prop} (k : K ⟨[(2, .bp 0 0), (3, .bp 1 0), (4, .bp 2 0), (6, .bp 6 0)], in0 x c .nils⟩) :
    Wp T (.opsD c_engine_Run_D0 [0, 0, 0, 4, 12, 28, 0, 0, 128, 448, 1023, 2047, 4095] [2, 3, 4, 6]) ⟨[(2, .bp 0 0), (3, .bp 1 0), (4, .bp 2 0), (18, .bool false)], [.box (formC x), .box (csU c), .box Z6]⟩ K R B := by
  have hv := hx.vals
  have lim : (x.vals.length : Int) * 16 ≤ limit := by
    show (x.vals.length : Int) * 16 ≤ 140737488355328
    omega
  obtain ⟨R, ch, ans, fuel, lq⟩ := c
  obtain ⟨r0, r1, r2, r3, r4, r5, r6, r7, rfl⟩ := R8 hR
  have happ : ∀ (cl : Nat → List U → List Ob → Option (U × List Ob)) (e' : Env) (s' x' : A) (nid : Nat) (a b d e f g : Ob), s'.ev e' = .own 4 0 → x'.ev e' = intsU ch → ev1 cl e' [a, b, d, e, Ob.row 2 1 false [], f, g] nid (.append 2 1 8 false s' x') = some (.own 4 ch.length, [a, b, d, e, Ob.row 2 1 false (ch.map intC), f, g]) := by
    intro cl e' s' x' nid a b d e f g hs' hx'
    have := app_el intC 1 (fun _ => rfl) (fun _ _ => rfl) cl e' [a, b, d, e, Ob.row 2 1 false [], f, g] 4 2 8 [] ch (by simp; simp only at hh; omega) s' x' hs' (by rw [hx']; rfl) rfl nid
    rw [this]
    simp
  have htt : ∀ (pf : Nat → Bool) (e' : Env) (s' x' : A) (nid : Nat) (st : List Ob), s'.ev e' = .own 4 0 → x'.ev e' = intsU ch → touch pf e' st nid (.append 2 1 8 false s' x') = some [(4, true)] := by
    intro pf e' s' x' nid st hs' hx'
    have hpl : (ch.map fun v => [i64 v]).all (fun z => z.all plainU) = true := by
      rw [List.all_eq_true]
      intro z hz
      obtain ⟨v, _, rfl⟩ := List.mem_map.1 hz
      rfl
    simp only [touch, hs', hx', touchX, touchE, M2.elems, Option.bind_some]
    rw [if_pos hpl]
    rfl
  refine Wp.draw (by (simp [c_engine_Run_D0, I.need]) <;> rfl) rfl (by (simp) <;> rfl) (by
    unfold c_engine_Run_D0
    repeat (first | ((first | apply Dr.op | apply Dr.opN | (apply Dr.opG; exact rfl)); ((simp [formC, csU, lim]) <;> rfl); (apply Evt.all; intro; (simp [formC, csU, lim]) <;> (try simp (disch := omega) only [wrap_id]) <;> first | exact ⟨rfl, rfl⟩ | exact rfl); ((simp [I.need]) <;> rfl)) | ((first | (apply Dr.opS; exact rfl; decide) | (apply Dr.opS0; exact rfl)); ((simp [I.need]) <;> rfl)))
    apply Dr.op (nid' := 6) (htt _ _ _ _ _ _ rfl rfl) (Evt.all fun n => happ _ _ _ _ _ _ _ _ _ _ _ rfl rfl) rfl
    repeat (first | ((first | apply Dr.op | apply Dr.opN | (apply Dr.opG; exact rfl)); ((simp [formC, csU, lim, mcU, m0]) <;> rfl); (apply Evt.all; intro; (simp [formC, csU, lim, mcU, m0]) <;> (try simp (disch := omega) only [wrap_id]) <;> first | exact ⟨rfl, rfl⟩ | exact rfl); ((simp [I.need]) <;> rfl)) | ((first | (apply Dr.opS; exact rfl; decide) | (apply Dr.opS0; exact rfl)); ((simp [I.need]) <;> rfl)))
    exact Dr.nil) (by first | decide +kernel | exact rfl) (by (simp [M2.keep]) <;> rfl) ?_
  exact k
def inW (x : FForm) (c : Cs) : Nat → List Ob
  | 0 => in0 x c .nils
  | i + 1 => in0 x c (.own 8 (i + 1)) ++ [.row 66 1 false [[srcsU (waysF x (0 : Nat))]], .row 66 1 false ((waysR x).take (i + 1))]
def wyS (x : FForm) (c : Cs) (i : Nat) : S := ⟨[(2, .bp 0 0), (3, .bp 1 0), (4, .bp 2 0), (6, .bp 6 0), (34, i64 x.nodes.length), (35, i64 i)], inW x c i⟩
set_option maxHeartbeats 8000000 in
theorem inW_loop {x : FForm} {c : Cs} (hR : c.R.length = 8) (hx : Small x) (R : S → Prop) :
    Wp T (.loop c_engine_Run_L2) (wyS x c 0) (fun _ => False) R (fun b s' => b = 0 ∧ ∃ v, s' = ⟨[(2, .bp 0 0), (3, .bp 1 0), (4, .bp 2 0), (6, .bp 6 0), (34, i64 x.nodes.length), (35, i64 (x.nodes.length : Nat)), (36, v)], inW x c x.nodes.length⟩) := by
  have hn := hx.nodes
  refine Wp.count x.nodes.length (fun i => wyS x c i) (fun _ => True) (fun i hi _ => ?_) (fun _ => ?_) 0 (by omega) trivial
  · have hi' : (i : Int) < x.nodes.length := by omega
    have hw := fun st => ways_call x hx (i : Int) st
    have hwl : i < (waysR x).length := by simp [waysR, hi]
    have htk : (waysR x).take (i + 1) = (waysR x).take i ++ [[srcsU (waysF x (i : Int))]] := by
      rw [List.take_succ_eq_append_getElem hwl]
      simp [waysR]
    have htl : ((waysR x).take i).length = i := by rw [List.length_take]; omega
    have lim : (i + 1) * 24 ≤ 140737488355328 := by omega
    obtain ⟨R, ch, ans, fuel, lq⟩ := c
    obtain ⟨r0, r1, r2, r3, r4, r5, r6, r7, rfl⟩ := R8 hR
    cases i with
    | zero =>
      have hW : srcsU (waysF x ((0 : Nat) : Int)) = srcsU (waysF x 0) := rfl
      rw [show wyS x ⟨[r0, r1, r2, r3, r4, r5, r6, r7], ch, ans, fuel, lq⟩ (0 + 1) = ⟨[(2, .bp 0 0), (3, .bp 1 0), (4, .bp 2 0), (6, .bp 6 0), (34, i64 x.nodes.length), (35, i64 (1 : Nat))], in0 x ⟨[r0, r1, r2, r3, r4, r5, r6, r7], ch, ans, fuel, lq⟩ (.own 8 1) ++ [.row 66 1 false [[srcsU (waysF x (0 : Nat))]], .row 66 1 false ((waysR x).take 1)]⟩ from rfl, htk, List.take_zero, List.nil_append]
      generalize waysF x ((0 : Nat) : Int) = W at *
      simp only [wyS, inW, in0, mcU, m0, formC, csU, srcsU] at hw ⊢
      have hpos : (0 : Int) < x.nodes.length := by omega
      (have := fa hpos; repeat refine Wp.f ?_)
      refine Wp.i ?_ ?_ <;> intro h1
      · repeat refine Wp.a ?_
        refine Wp.draw (by (simp [c_engine_Run_D1, I.need]) <;> rfl) (by first | ((simp []) <;> rfl) | exact rfl) (by (simp []) <;> rfl) (by (unfold c_engine_Run_D1); (repeat (first | ((first | apply Dr.op | apply Dr.opN | (apply Dr.opG; exact rfl)); ((simp []) <;> rfl); (apply Evt.all; intro; (simp []) <;> (try simp (disch := omega) only [wrap_id]) <;> first | exact ⟨rfl, rfl⟩ | exact rfl); ((simp [I.need]) <;> rfl)) | ((first | (apply Dr.opS; exact rfl; decide) | (apply Dr.opS0; exact rfl)); ((simp [I.need]) <;> rfl)) | (apply Dr.call; ((simp []) <;> rfl); exact hw _) | (apply Dr.callG; (exact rfl); ((simp []) <;> rfl); exact hw _))); exact Dr.nil) (by first | decide +kernel | exact rfl) (by (simp [M2.keep]) <;> rfl) ?_
        (have := fa @wrap_id; repeat refine Wp.f ?_)
        refine ⟨?_, trivial⟩
        simp [trimO, trim]
      · rw [decide_eq_false_iff_not] at h1
        omega
    | succ i =>
      simp only [wyS, inW]
      rw [htk]
      generalize (waysR x).take (i + 1) = wr at *
      generalize waysF x ((0 : Nat) : Int) = W0 at *
      generalize waysF x ((i + 1 : Nat) : Int) = W at *
      generalize hk : i + 1 = k at *
      have hkl : wr.length = k := htl
      simp only [in0, mcU, m0, formC, csU, srcsU] at hw ⊢
      (have := fa hi'; repeat refine Wp.f ?_)
      refine Wp.i ?_ ?_ <;> intro h1
      · repeat refine Wp.a ?_
        refine Wp.draw (by (simp [c_engine_Run_D1, I.need]) <;> rfl) (by first | ((simp [hkl, lim]) <;> rfl) | exact rfl) (by (simp [hkl, lim]) <;> rfl) (by (unfold c_engine_Run_D1); (repeat (first | ((first | apply Dr.op | apply Dr.opN | (apply Dr.opG; exact rfl)); ((simp [hkl, lim]) <;> rfl); (apply Evt.all; intro; (simp [hkl, lim]) <;> (try simp (disch := omega) only [wrap_id]) <;> first | exact ⟨rfl, rfl⟩ | exact rfl); ((simp [I.need]) <;> rfl)) | ((first | (apply Dr.opS; exact rfl; decide) | (apply Dr.opS0; exact rfl)); ((simp [I.need]) <;> rfl)) | (apply Dr.call; ((simp [hkl, lim]) <;> rfl); exact hw _) | (apply Dr.callG; (exact rfl); ((simp [hkl, lim]) <;> rfl); exact hw _))); exact Dr.nil) (by first | decide +kernel | exact rfl) (by (simp [M2.keep]) <;> rfl) ?_
        (have := fa @wrap_id; repeat refine Wp.f ?_)
        refine ⟨?_, trivial⟩
        simp [trimO, trim, Z6]
      · cases h1
  · simp only [wyS]
    repeat refine Wp.a ?_
    refine Wp.i ?_ ?_ <;> intro h1
    · simp at h1
    · exact Wp.exit ⟨rfl, _, rfl⟩
theorem in_mst {x : FForm} {c : Cs} (hR : c.R.length = 8) : ∃ wy, MSt x c (inW x c x.nodes.length) (m0 x c) wy (.own 3 x.vals.length) (.own 4 c.h.length) .nils .nils ∧ (0 < x.nodes.length → wy = .own 8 x.nodes.length) := by
  have hq : ∀ (wy : U) (l : List Ob), RU (in0 x c wy ++ l) 66 1 wy (waysR x) → blw blwD 9 wy = true → l.all (Ob.blw 9) = true → 7 + l.length = 9 ∨ (7 + l.length = 7 ∧ wy = .nils) → MSt x c (in0 x c wy ++ l) (m0 x c) wy (.own 3 x.vals.length) (.own 4 c.h.length) .nils .nils := by
    intro wy l hw hb hl hln
    refine ⟨rfl, hw, .inr (.inr ⟨3, by simp [m0], ?_⟩), .inr (.inr ⟨4, by simp [m0], rfl⟩), .inr (.inl ⟨rfl, rfl⟩), (fun _ _ h => by cases h), .inr (.inl ⟨rfl, rfl⟩), ?_⟩
    · simp [m0, in0, wdU]
    · have hlen : (in0 x c wy ++ l).length = 7 + l.length := by rw [List.length_append]; rfl
      rw [hlen, List.all_append]
      rcases hln with hln | ⟨hln, rfl⟩
      · rw [hln, hl, Bool.and_true]
        obtain ⟨R, ch, ans, fuel, lq⟩ := c
        obtain ⟨r0, r1, r2, r3, r4, r5, r6, r7, rfl⟩ := R8 hR
        simp [in0, mcU, m0, formC, csU, Z6, hb]
      · have hl0 : l = [] := List.eq_nil_of_length_eq_zero (by omega)
        subst hl0
        obtain ⟨R, ch, ans, fuel, lq⟩ := c
        obtain ⟨r0, r1, r2, r3, r4, r5, r6, r7, rfl⟩ := R8 hR
        simp [in0, mcU, m0, formC, csU, Z6]
  cases hn : x.nodes.length with
  | zero =>
    refine ⟨.nils, ?_, fun h => by omega⟩
    have := hq .nils [] (.inr (.inl ⟨rfl, by simp [waysR, hn]⟩)) rfl rfl (.inr ⟨rfl, rfl⟩)
    rw [List.append_nil] at this
    exact this
  | succ k =>
    refine ⟨.own 8 (k + 1), ?_, fun _ => rfl⟩
    have hl : (waysR x).length = k + 1 := by simp [waysR, hn]
    refine hq (.own 8 (k + 1)) _ (.inr (.inr ⟨8, by rw [hl], ?_⟩)) rfl rfl (.inl rfl)
    rw [List.take_of_length_le (by omega)]
    rfl
theorem goes_eq {x : FForm} (hr : rightF x = true) (c : Cs) (ws : List Wd) {df : Wd} {v : Int} {ed : Int × Int} {to : Int} (hto : ¬ to < 0) (hin : ed ∈ waysF x to) (hd : 0 ≤ ed.1 → ∀ y, x.nodes[ed.1.toNat]? = some y → defF y.op = true → df = (true, v)) : goesP x c ws df ed to = goesE x c ws v ed to := by
  unfold goesP goesE
  rw [if_neg hto]
  refine List.map_congr_left fun p hp => ?_
  split
  · rename_i hpos
    obtain ⟨_, h2⟩ := from_ok hr (List.of_mem_zip hp).1 (e := ed) (by rw [hpos]; exact hin)
    rw [hpos] at h2
    obtain ⟨_, h3⟩ := comes_in h2
    unfold wordP wordE
    split
    · rfl
    · split
      · rfl
      · split
        · rename_i h
          obtain ⟨h4, y, hy, hdf⟩ := h3 h
          exact hd h4 y hy hdf
        · rfl
  · rfl
theorem way_lt {c : Cs} {s : EnS} {y : FNode} (h : (doE c s y).how = 0) (ho : opOk y.op = true) : (doE c s y).way < outsF y.op ∧ (argsE c s.ws y.args).isSome = true := by
  unfold doE at h ⊢
  cases hl : argsE c s.ws y.args with
  | none => rw [hl] at h; simp at h
  | some l =>
    rw [hl] at h
    refine ⟨?_, rfl⟩
    rcases op_cases ho with e | e | e | e | e | e | e | e | e | e | e | e | e | e | e
    all_goals
      rw [e] at h ⊢
      simp [outsF] at h ⊢
    · split <;> simp
    · split <;> omega
theorem doE_grow {c : Cs} {s : EnS} {y : FNode} (hh : s.h.length ≤ 16) : (doE c s y).s.ev.length ≤ s.ev.length + 1 ∧ (doE c s y).s.h.length ≤ 16 ∧ ((doE c s y).how ≠ 1 → (doE c s y).val = 0) := by
  unfold doE
  split
  · exact ⟨by simp, hh, fun _ => rfl⟩
  · split
    · exact ⟨by simp, hh, fun _ => rfl⟩
    · split
      · exact ⟨by simp, hh, fun _ => rfl⟩
      · split
        · refine ⟨?_, ?_, fun _ => rfl⟩
          · dsimp only
            split <;> simp
          · dsimp only
            split
            · unfold storeF
              split <;> simp [hh]
            · exact hh
        · split
          · split
            · exact ⟨by simp, hh, fun _ => rfl⟩
            · exact ⟨by simp, hh, fun _ => rfl⟩
          · split
            · exact ⟨by simp, hh, fun _ => rfl⟩
            · split
              · exact ⟨by simp, hh, fun h => absurd rfl h⟩
              · exact ⟨by simp, hh, fun _ => rfl⟩
theorem trimO_env (L : Nat) (e : Env) (st : List Ob) : trimO L ⟨e, st⟩ = ⟨e, (trimO L ⟨e, st⟩).st⟩ := by
  unfold trimO M2.trim
  split <;> rfl
abbrev RSt := Mch × (U × U × U × U) × List Ob
def rnS (a : RSt) : S := ⟨[(2, .bp 0 0), (3, .bp 1 0), (4, .bp 2 0), (6, .bp 6 0)], a.2.2⟩
structure RunI (x : FForm) (c : Cs) (wy : U) (r : TR) (a : RSt) : Prop where
  st : MSt x c a.2.2 a.1 wy a.2.1.1 a.2.1.2.1 a.2.1.2.2.1 a.2.1.2.2.2
  b0 : a.2.2[0]? = some (.box (formC x))
  b1 : a.2.2[1]? = some (.box (csU c))
  b2 : a.2.2[2]? = some (.box Z6)
  ws : a.1.ws.length = x.vals.length
  hh : a.1.h.length ≤ 16
  how : a.1.how = 0 ∧ a.1.val = 0 ∧ a.1.out = []
  steps : 0 ≤ a.1.steps ∧ a.1.steps ≤ c.fuel
  ev : (a.1.ev.length : Int) ≤ a.1.steps
  pos : a.1.pos < x.nodes.length
  res : runE x c (c.fuel - a.1.steps).toNat a.1.steps.toNat (enS a.1) = r
def RunE' (x : FForm) (c : Cs) (wy : U) (r : TR) (s' : S) : Prop := M2.get s'.env 4 = .bp 2 0 ∧ M2.get s'.env 6 = .bp 6 0 ∧ ∃ m w h e o, MSt x c s'.st m wy w h e o ∧ s'.st[2]? = some (.box Z6) ∧ r = ⟨m.ev, m.how, m.val, m.out, m.steps, m.steps⟩
set_option maxHeartbeats 32000000 in
theorem run_loop {x : FForm} {c : Cs} (hR : c.R.length = 8) (hx : Small x) (hr : rightF x = true) (hc : csRight c = true) {wy : U} (hwy : 0 < x.nodes.length → wy = .own 8 x.nodes.length) (r : TR) (a : RSt) (ha : RunI x c wy r a) (R : S → Prop) :
    Wp T (.loop c_engine_Run_L4) (rnS a) (fun _ => False) R (fun b s' => b = 2 ∧ RunE' x c wy r s') := by
  have hc2 := hc
  unfold csRight at hc2
  simp only [Bool.and_eq_true, decide_eq_true_eq] at hc2
  refine Wp.loop (α := RSt) (fun a => (c.fuel - a.1.steps).toNat) rnS (RunI x c wy r) (fun a ha => ?_) a ha
  obtain ⟨m, ⟨w, h, e, o⟩, st⟩ := a
  obtain ⟨i1, i2, i3, i4, i5, i6, i7, i8, i9, i10, i11⟩ := ha
  simp only at i1 i2 i3 i4 i5 i6 i7 i8 i9 i10 i11
  have hb := i1.box
  have h6 := (List.getElem?_eq_some_iff.1 hb).1
  simp only [rnS]
  have hbx2 : ∃ l1 l2 l3 l4 l5 l6 l7 l8 l9 l10 l11 l12 l13 l14, ∀ m w h e o, mcU x c m wy w h e o = [l1, l2, l3, l4, l5, l6, l7, l8, l9, l10, l11, l12, l13, l14, wy, w, h, i64 m.asked, i64 m.pos, .bool m.df.1, i64 m.df.2, e, i64 m.how, i64 m.val, o, i64 m.steps, i64 m.work] := by
    obtain ⟨R, ch, ans, fuel, lq⟩ := c
    obtain ⟨r0, r1, r2, r3, r4, r5, r6, r7, rfl⟩ := R8 hR
    exact ⟨_, _, _, _, _, _, _, _, _, _, _, _, _, _, fun m w h e o => rfl⟩
  obtain ⟨l1, l2, l3, l4, l5, l6, l7, l8, l9, l10, l11, l12, l13, l14, hmc⟩ := hbx2
  have hb6 := hb
  rw [hmc] at hb6
  have hb1 : ∃ l1 l2 l3 l4 l5 l6 l7 l8 l9 l10, st[1]? = some (.box [l1, l2, l3, l4, l5, l6, l7, l8, l9, l10, i64 c.fuel]) := by
    obtain ⟨R, ch, ans, fuel, lq⟩ := c
    obtain ⟨r0, r1, r2, r3, r4, r5, r6, r7, rfl⟩ := R8 hR
    exact ⟨_, _, _, _, _, _, _, _, _, _, i3⟩
  obtain ⟨k1, k2, k3, k4, k5, k6, k7, k8, k9, k10, hb1⟩ := hb1
  have hstop : (¬ m.steps < c.fuel ∨ ¬ 0 ≤ m.pos) → r = ⟨m.ev, m.how, m.val, m.out, m.steps, m.steps⟩ := fun hs => by
    rw [← i11, i7.1, i7.2.1, i7.2.2]
    have hk : ((m.steps.toNat : Nat) : Int) = m.steps := by omega
    by_cases h1 : m.steps < c.fuel
    · have h2 : ¬ 0 ≤ m.pos := hs.resolve_left (fun h => h h1)
      rw [show (c.fuel - m.steps).toNat = ((c.fuel - m.steps).toNat - 1) + 1 by omega, runE, if_pos (show (enS m).pos < 0 by show m.pos < 0; omega), hk]
      rfl
    · rw [show (c.fuel - m.steps).toNat = 0 by omega, runE, hk]
      rfl
  by_cases h1 : m.steps < c.fuel
  · by_cases h2 : 0 ≤ m.pos
    · obtain ⟨P, hP⟩ := Int.eq_ofNat_of_zero_le h2
      have hPl : P < x.nodes.length := by omega
      have hPl' : (P : Int) < x.nodes.length := by omega
      have eg : x.nodes[P]? = some x.nodes[P] := List.getElem?_eq_getElem hPl
      have hny := (right_parts hr).2.1 P _ eg
      have hM1 := i1.put hR { m with steps := m.steps + 1 } rfl rfl rfl rfl
      obtain ⟨st1, hs1⟩ : ∃ st1, st1 = st.set 6 (.box (mcU x c { m with steps := m.steps + 1 } wy w h e o)) := ⟨_, rfl⟩
      rw [← hs1] at hM1
      have hK1 : Keep st st1 := by rw [hs1]; exact Keep.put _ _
      have hst1 := hs1
      rw [hmc] at hst1
      simp only at hst1
      have q0 := hK1.box 0 _ (by decide) i2
      have q1 := hK1.box 1 _ (by decide) i3
      have w1 : IntKind.wrap .i64 (m.steps + 1) = m.steps + 1 := wrap_id (by omega) (by omega)
      obtain ⟨st2, h', e', o', hcl, hM2, hK2⟩ := mnode_call hR (by omega) hM1 i5 (show m.ev.length ≤ 100000 by omega) (show m.h.length ≤ 1000 by omega) hny
      have hwy' := hwy (by omega)
      generalize hy : x.nodes[P] = y at *
      have ho := (node_parts hny).1
      have hol := (node_parts hny).2.2.1
      have hos := (node_parts hny).2.2.2.2.2
      have hem : enS { m with steps := m.steps + 1 } = enS m := rfl
      rw [hem] at hcl
      have hgr := doE_grow (c := c) (s := enS m) (y := y) i6
      have hwl := fun hh => way_lt (c := c) (s := enS m) (y := y) hh ho
      have hdw := doE_ws c (enS m) y
      have hM2' : MSt x c st2 ⟨m.ws, (doE c (enS m) y).s.h, (doE c (enS m) y).s.asked, m.pos, if (argsE c m.ws y.args).isSome ∧ defF y.op = true then (true, (doE c (enS m) y).v) else m.df, (doE c (enS m) y).s.ev, m.how, if (doE c (enS m) y).how = 1 then (doE c (enS m) y).val else m.val, if (doE c (enS m) y).how = 1 then (doE c (enS m) y).s.h else m.out, m.steps + 1, m.work⟩ wy w h' e' o' := hM2
      clear hM2
      have hrn : runE x c (c.fuel - m.steps).toNat m.steps.toNat (enS m) = if (doE c (enS m) y).how = 0 then runE x c (c.fuel - (m.steps + 1)).toNat (m.steps + 1).toNat (onE x c y P (doE c (enS m) y)) else endE (doE c (enS m) y) m.steps.toNat := by
        rw [show (c.fuel - m.steps).toNat = (c.fuel - (m.steps + 1)).toNat + 1 by omega, runE, if_neg (show ¬ (enS m).pos < 0 by show ¬ m.pos < 0; omega), show (m.steps + 1).toNat = m.steps.toNat + 1 by omega]
        have eyy : x.nodes.getD (enS m).pos.toNat default = y := by
          show x.nodes.getD m.pos.toNat default = y
          rw [hP, Int.toNat_natCast, List.getD_eq_getElem?_getD, eg]
          rfl
        simp only [eyy]
        rw [show (enS m).pos = (P : Int) from hP]
      rw [hrn] at i11
      simp only [nodeC] at hcl
      (repeat' first | refine Wp.u ?_ | (refine Wp.c ?_ ?_ <;> intro))
      refine Wp.draw (by (simp [c_engine_Run_D3, I.need]) <;> rfl) (by first | ((simp [hb6, hb1, h1, h2]) <;> rfl) | exact rfl) (by (simp [hb6, hb1, h1, h2]) <;> rfl) (by (unfold c_engine_Run_D3); (repeat (first | ((first | apply Dr.op | apply Dr.opN | (apply Dr.opG; exact rfl)); ((simp [hb6, hb1, h1, h2]) <;> rfl); (apply Evt.all; intro; (simp [hb6, hb1, h1, h2]) <;> (try simp (disch := omega) only [wrap_id]) <;> first | exact ⟨rfl, rfl⟩ | exact rfl); ((simp [I.need]) <;> rfl)) | ((first | (apply Dr.opS; exact rfl; decide) | (apply Dr.opS0; exact rfl)); ((simp [I.need]) <;> rfl)))); exact Dr.nil) (by first | decide +kernel | exact rfl) (by (simp [M2.keep]) <;> rfl) ?_
      rw [hP] at hb6 hst1
      (all_goals have := fa (a2 hb6 w1); repeat' first | refine Wp.v ?_ | (refine Wp.c ?_ ?_ <;> intro))
      rw [← hst1]
      by_cases hh : (doE c (enS m) y).how = 0
      · have dh : (!decide ((doE c (enS m) y).how = 0)) = false := by simp [hh]
        rw [if_pos hh] at i11
        obtain ⟨hw1, hw2⟩ := hwl hh
        generalize doE c (enS m) y = rr at *
        have hwo : rr.way < y.outs.length := by omega
        have hwo' : (rr.way : Int) < y.outs.length := by omega
        have eo : y.outs[rr.way]? = some (y.outs.getD rr.way 0) := by
          rw [List.getD_eq_getElem?_getD, List.getElem?_eq_getElem hwo]
          rfl
        have hor := hos _ (List.mem_of_getElem? eo)
        have hin : 0 ≤ y.outs.getD rr.way 0 → ((P : Int), (rr.way : Int)) ∈ waysF x (y.outs.getD rr.way 0) := fun h0 => ways_in eg eo ⟨h0, hor.2⟩
        have hrow : ∃ id, wy = .own id x.nodes.length ∧ st2[id]? = some (.row 66 1 false (waysR x)) := by
          have hlen : (waysR x).length = x.nodes.length := by simp [waysR]
          rcases hM2'.ways with hq | ⟨hq, _⟩ | ⟨id, hq, hro⟩
          · rw [hwy'] at hq; cases hq
          · rw [hwy'] at hq; cases hq
          · exact ⟨id, by rw [hq, hlen], hro⟩
        obtain ⟨st3, w3, hc3, hM3, hK3⟩ := goes_call hR hx hM2' i5 hr ((P : Int), (rr.way : Int)) (y.outs.getD rr.way 0) hor.2 hin (fun _ => hrow)
        have q02 := hK2.box 0 _ (by decide) q0
        simp only [srcC] at hc3
        simp only [formC] at q0 q02
        have eon : onE x c y P rr = ⟨y.outs.getD rr.way 0, if y.outs.getD rr.way 0 < 0 then m.ws else goesP x c m.ws (if (argsE c m.ws y.args).isSome ∧ defF y.op = true then (true, rr.v) else m.df) ((P : Int), (rr.way : Int)) (y.outs.getD rr.way 0), rr.s.h, rr.s.asked, rr.s.ev⟩ := by
          show (⟨y.outs.getD rr.way 0, goesE x c rr.s.ws rr.v ((P : Int), (rr.way : Int)) (y.outs.getD rr.way 0), rr.s.h, rr.s.asked, rr.s.ev⟩ : EnS) = _
          rw [show rr.s.ws = m.ws from hdw.1]
          refine congrArg (fun z => (⟨y.outs.getD rr.way 0, z, rr.s.h, rr.s.asked, rr.s.ev⟩ : EnS)) ?_
          by_cases ht : y.outs.getD rr.way 0 < 0
          · rw [if_pos ht]
            unfold goesE
            rw [if_pos ht]
          · rw [if_neg ht]
            refine (goes_eq hr c m.ws ht (hin (by omega)) (fun _ z hz hdf => ?_)).symm
            simp only [Int.toNat_natCast] at hz
            rw [eg] at hz
            injection hz with hz
            subst hz
            rw [if_pos ⟨hw2, hdf⟩]
        generalize hto : y.outs.getD rr.way 0 = to at *
        (all_goals have := fa (a5 q0 hPl' eg @nodeC.eq_1 (a5 q02 @outsU.eq_1 hwo' eo @outC.eq_1)); repeat' first | refine Wp.v ?_ | (apply Wp.call; exact hcl) | (apply Wp.call; exact hc3) | (refine Wp.c ?_ ?_ <;> intro))
        refine ⟨(⟨if to < 0 then m.ws else goesP x c m.ws (if (argsE c m.ws y.args).isSome ∧ defF y.op = true then (true, rr.v) else m.df) ((P : Int), (rr.way : Int)) to, rr.s.h, rr.s.asked, to, if (argsE c m.ws y.args).isSome ∧ defF y.op = true then (true, rr.v) else m.df, rr.s.ev, m.how, if rr.how = 1 then rr.val else m.val, if rr.how = 1 then rr.s.h else m.out, m.steps + 1, m.work⟩, (w3, h', e', o'), _), trimO_env _ _ _, ?_, ?_⟩
        · simp only
          omega
        · have hK : Keep st st3 := (hK1.trans hK2).trans hK3
          have h11 : ¬ rr.how = 1 := by omega
          refine ⟨hM3.trim h6 _, (hK.trim _).box 0 _ (by decide) i2, (hK.trim _).box 1 _ (by decide) i3, (hK.trim _).box 2 _ (by decide) i4, ?_, hgr.2.1, ⟨i7.1, ?_, ?_⟩, ?_, ?_, hor.2, ?_⟩
          · show (if to < 0 then m.ws else _).length = _
            split
            · exact i5
            · exact goesP_len i5 _ _ _
          · show (if rr.how = 1 then rr.val else m.val) = 0
            rw [if_neg h11]
            exact i7.2.1
          · show (if rr.how = 1 then rr.s.h else m.out) = []
            rw [if_neg h11]
            exact i7.2.2
          · show 0 ≤ m.steps + 1 ∧ m.steps + 1 ≤ c.fuel
            omega
          · show (rr.s.ev.length : Int) ≤ m.steps + 1
            have := hgr.1
            have : (enS m).ev.length = m.ev.length := rfl
            omega
          · rw [eon] at i11
            exact i11
      · have dh : (!decide ((doE c (enS m) y).how = 0)) = true := by simp [hh]
        rw [if_neg hh] at i11
        generalize doE c (enS m) y = rr at *
        have hb2 := hM2'.box
        rw [hmc] at hb2
        simp only at hb2
        have hp := hM2'.put hR ⟨m.ws, rr.s.h, rr.s.asked, m.pos, if (argsE c m.ws y.args).isSome ∧ defF y.op = true then (true, rr.v) else m.df, rr.s.ev, rr.how, if rr.how = 1 then rr.val else m.val, if rr.how = 1 then rr.s.h else m.out, m.steps + 1, m.work⟩ rfl rfl rfl rfl
        rw [hmc] at hp
        simp only at hp
        (all_goals have := fa (a5 q0 @formC.eq_1 hPl' eg (a2 @nodeC.eq_1 hb2)); repeat' first | refine Wp.v ?_ | (apply Wp.call; exact hcl) | (refine Wp.c ?_ ?_ <;> intro))
        refine Wp.exit ?_
        rw [if_neg (by decide)]
        refine ⟨rfl, rfl, rfl, _, w, h', e', o', hp, ?_, ?_⟩
        · rw [List.getElem?_set_ne (by decide)]
          exact hK2.box 2 _ (by decide) (hK1.box 2 _ (by decide) i4)
        · rw [← i11]
          unfold endE
          rw [i7.2.1, i7.2.2]
          have hk : ((m.steps.toNat : Nat) : Int) = m.steps := by omega
          rw [hk]
          by_cases h11 : rr.how = 1
          · rw [if_pos h11, if_pos h11]
          · rw [if_neg h11, if_neg h11, hgr.2.2 h11]
    · (repeat' first | refine Wp.u ?_ | (refine Wp.c ?_ ?_ <;> intro))
      refine Wp.draw (by (simp [c_engine_Run_D3, I.need]) <;> rfl) (by first | ((simp [hb6, hb1, h1, h2]) <;> rfl) | exact rfl) (by (simp [hb6, hb1, h1, h2]) <;> rfl) (by (unfold c_engine_Run_D3); (repeat (first | ((first | apply Dr.op | apply Dr.opN | (apply Dr.opG; exact rfl)); ((simp [hb6, hb1, h1, h2]) <;> rfl); (apply Evt.all; intro; (simp [hb6, hb1, h1, h2]) <;> (try simp (disch := omega) only [wrap_id]) <;> first | exact ⟨rfl, rfl⟩ | exact rfl); ((simp [I.need]) <;> rfl)) | ((first | (apply Dr.opS; exact rfl; decide) | (apply Dr.opS0; exact rfl)); ((simp [I.need]) <;> rfl)))); exact Dr.nil) (by first | decide +kernel | exact rfl) (by (simp [M2.keep]) <;> rfl) ?_
      (repeat' first | refine Wp.u ?_ | (refine Wp.exit ?_) | (refine Wp.c ?_ ?_ <;> intro))
      exact ⟨rfl, rfl, rfl, m, w, h, e, o, i1, i4, hstop (.inr h2)⟩
  · (repeat' first | refine Wp.u ?_ | (refine Wp.c ?_ ?_ <;> intro))
    refine Wp.draw (by (simp [c_engine_Run_D3, I.need]) <;> rfl) (by first | ((simp [hb6, hb1, h1]) <;> rfl) | exact rfl) (by (simp [hb6, hb1, h1]) <;> rfl) (by (unfold c_engine_Run_D3); (repeat (first | ((first | apply Dr.op | apply Dr.opN | (apply Dr.opG; exact rfl)); ((simp [hb6, hb1, h1]) <;> rfl); (apply Evt.all; intro; (simp [hb6, hb1, h1]) <;> (try simp (disch := omega) only [wrap_id]) <;> first | exact ⟨rfl, rfl⟩ | exact rfl); ((simp [I.need]) <;> rfl)) | ((first | (apply Dr.opS; exact rfl; decide) | (apply Dr.opS0; exact rfl)); ((simp [I.need]) <;> rfl)))); exact Dr.nil) (by first | decide +kernel | exact rfl) (by (simp [M2.keep]) <;> rfl) ?_
    (repeat' first | refine Wp.u ?_ | (refine Wp.exit ?_) | (refine Wp.c ?_ ?_ <;> intro))
    exact ⟨rfl, rfl, rfl, m, w, h, e, o, i1, i4, hstop (.inl h1)⟩
theorem RU.frz {st : List Ob} {tag es : Nat} {u : U} {xs : List (List U)} (h : RU st tag es u xs) (d : Nat) : ∃ st1, M2.frz (d + 1) st u = some (.sl true xs, st1) ∧ ∀ tag' es' u' xs', ¬ tag' = tag → RU st tag' es' u' xs' → RU st1 tag' es' u' xs' := by
  rcases h with rfl | ⟨rfl, rfl⟩ | ⟨id, rfl, h⟩
  · exact ⟨st, rfl, fun _ _ _ _ _ h => h⟩
  · exact ⟨st, rfl, fun _ _ _ _ _ h => h⟩
  · refine ⟨st.set id (.frow xs), ?_, fun tag' es' u' xs' ht hu => hu.ext fun id' ys hy => ?_⟩
    · rw [M2.frz]
      simp [h]
    · rw [List.getElem?_set_ne (fun e => by subst e; rw [h] at hy; injection hy with hy; injection hy with hy; exact ht hy.symm), hy]
theorem res_tr {S0 : List Ob} {e o : U} {evs : List (List U)} {out : List (List U)} (he : RU S0 59 3 e evs) (ho : RU S0 2 1 o out) (how val steps work : Int) : ((M2.frz frzD S0 (.tup [.agg [e, i64 how, i64 val, o, i64 steps, i64 work], i64 0])).map (·.1)) = some (.tup [.agg [.sl true evs, i64 how, i64 val, .sl true out, i64 steps, i64 work], i64 0]) := by
  obtain ⟨S1, h1, h2⟩ := he.frz 9
  obtain ⟨S2, h3, _⟩ := (h2 2 1 o out (by decide) ho).frz 9
  rw [frz_tup, accMS_cons, frzS_agg, accMS_cons, h1]
  simp only [Option.bind_some]
  rw [accMS_cons, frzS_int]
  simp only [Option.bind_some]
  rw [accMS_cons, frzS_int]
  simp only [Option.bind_some]
  rw [accMS_cons, h3]
  rfl
set_option maxHeartbeats 8000000 in
theorem engRun_call (x : FForm) (c : Cs) (hR : c.R.length = 8) (hx : Small x) (st : List Ob) : Cl T n_engine_Run [formU x, .agg (csU c)] st (.tup [.agg (trU (if rightF x && csRight c then engF x c else tr0)), i64 (if rightF x && csRight c then 0 else 1)]) st := by
  refine Wp.pure (fn := c_engine_Run) rfl rfl rfl («as» := [formU x, .agg (csU c)]) (by
    obtain ⟨R, ch, ans, fuel, lq⟩ := c
    obtain ⟨r0, r1, r2, r3, r4, r5, r6, r7, rfl⟩ := R8 hR
    rfl) ?_
  have h1 := fun st => right_call x hx st
  have h2 := fun st => csRight_call c hR st
  have tk3 : (formC x).take 3 = formC x := rfl
  have cl : (csU c).length = 11 := by unfold csU; simp [hR]
  have tk11 : (csU c).take 11 = csU c := by rw [List.take_of_length_le (by omega)]
  cases hr : rightF x with
  | false =>
    rw [hr] at h1
    (all_goals have := fa tk3; repeat' first | refine Wp.v ?_ | (apply Wp.call; exact h1 _) | (refine Wp.c ?_ ?_ <;> intro))
    refine Wp.ret ?_
    simp [Res, resU, res1, c_engine_Run, trU, tr0]
  | true =>
    rw [hr] at h1
    cases hc : csRight c with
    | false =>
      rw [hc] at h2
      (all_goals have := fa (a3 tk3 cl tk11); repeat' first | refine Wp.v ?_ | (apply Wp.call; exact h1 _) | (apply Wp.call; exact h2 _) | (apply Wp.callG; exact rfl; exact h2 _) | (refine Wp.c ?_ ?_ <;> intro))
      refine Wp.ret ?_
      simp [Res, resU, res1, c_engine_Run, trU, tr0]
    | true =>
      rw [hc] at h2
      have hc2 := hc
      unfold csRight at hc2
      simp only [Bool.and_eq_true, decide_eq_true_eq] at hc2
      (all_goals have := fa (a3 tk3 cl tk11); repeat' first | refine Wp.v ?_ | (apply Wp.call; exact h1 _) | (apply Wp.call; exact h2 _) | (apply Wp.callG; exact rfl; exact h2 _) | (refine Wp.c ?_ ?_ <;> intro))
      refine init_call hR hx (by omega) ?_
      have z0 : (in0 x c .nils)[0]? = some (.box (formC x)) := rfl
      have hw := right_parts hr
      (all_goals have := fa (a2 z0 @formC.eq_1); repeat' first | refine Wp.v ?_ | (refine Wp.c ?_ ?_ <;> intro))
      refine (show Wp T (.loop c_engine_Run_L2) (wyS x c 0) _ _ _ from inW_loop hR hx _).imp (fun _ h => h.elim) (fun _ h => h) ?_
      rintro b s ⟨rfl, v, rfl⟩
      rw [if_pos rfl]
      obtain ⟨wy, hM0, hwy⟩ := in_mst (x := x) (c := c) hR
      have hz : ∀ n, (inW x c n)[0]? = some (.box (formC x)) ∧ (inW x c n)[1]? = some (.box (csU c)) ∧ (inW x c n)[2]? = some (.box Z6) := fun n => by cases n <;> exact ⟨rfl, rfl, rfl⟩
      obtain ⟨b0, b1, b2⟩ := hz x.nodes.length
      generalize inW x c x.nodes.length = st0 at *
      have hent := hw.1
      have hrow : 0 ≤ x.entry → ∃ id, wy = .own id x.nodes.length ∧ st0[id]? = some (.row 66 1 false (waysR x)) := fun h0 => by
        have hwy' := hwy (by omega)
        have hlen : (waysR x).length = x.nodes.length := by simp [waysR]
        rcases hM0.ways with hq | ⟨hq, _⟩ | ⟨id, hq, hro⟩
        · rw [hwy'] at hq; cases hq
        · rw [hwy'] at hq; cases hq
        · exact ⟨id, by rw [hq, hlen], hro⟩
      have hin : 0 ≤ x.entry → ((-1 : Int), (0 : Int)) ∈ waysF x x.entry := fun h0 => ways_ent ⟨h0, hent.2⟩
      obtain ⟨st1, w1, hc1, hM1, hK1⟩ := goes_call hR hx hM0 (by simp [m0]) hr (-1, 0) x.entry hent.2 hin hrow
      simp only [srcC] at hc1
      simp only [formC] at b0
      (all_goals have := fa b0; repeat' first | refine Wp.v ?_ | (apply Wp.call; exact hc1) | (refine Wp.c ?_ ?_ <;> intro))
      have heq : enS { m0 x c with pos := x.entry, ws := if x.entry < 0 then (m0 x c).ws else goesP x c (m0 x c).ws (m0 x c).df (-1, 0) x.entry } = newE x c := by
        unfold newE enS
        by_cases h0 : x.entry < 0
        · simp only [h0, if_true, m0, goesE]
        · simp only [h0, if_false]
          rw [goes_eq hr c (m0 x c).ws h0 (hin (by omega)) (v := 0) (fun h => by simp at h)]
          rfl
      refine (run_loop hR hx hr hc hwy (engF x c) (⟨_, (w1, .own 4 c.h.length, .nils, .nils), st1⟩ : RSt) ⟨hM1, hK1.box 0 _ (by decide) b0, hK1.box 1 _ (by decide) b1, hK1.box 2 _ (by decide) b2, ?_, hc2.1, ⟨rfl, rfl, rfl⟩, ⟨Int.le_refl _, hc2.2.2.1⟩, Int.le_refl _, hent.2, ?_⟩ _).imp (fun _ h => h.elim) (fun _ h => h) ?_
      · show (if x.entry < 0 then (m0 x c).ws else goesP x c (m0 x c).ws (m0 x c).df (-1, 0) x.entry).length = _
        split
        · simp [m0]
        · exact goesP_len (by simp [m0]) _ _ _
      · rw [heq]
        unfold engF
        show runE x c (c.fuel - 0).toNat 0 (newE x c) = _
        rw [Int.sub_zero]
      · rintro b s ⟨rfl, hE4, hE6, m, w, h, e, o, hM, hb2, hres⟩
        rw [if_pos rfl]
        obtain ⟨E, st2⟩ := s
        simp only at hE4 hE6 hM hb2
        have hb := hM.box
        have h6 := (List.getElem?_eq_some_iff.1 hb).1
        have hbx2 : ∃ l1 l2 l3 l4 l5 l6 l7 l8 l9 l10 l11 l12 l13 l14, mcU x c m wy w h e o = [l1, l2, l3, l4, l5, l6, l7, l8, l9, l10, l11, l12, l13, l14, wy, w, h, i64 m.asked, i64 m.pos, .bool m.df.1, i64 m.df.2, e, i64 m.how, i64 m.val, o, i64 m.steps, i64 m.work] := by
          obtain ⟨R, ch, ans, fuel, lq⟩ := c
          obtain ⟨r0, r1, r2, r3, r4, r5, r6, r7, rfl⟩ := R8 hR
          exact ⟨_, _, _, _, _, _, _, _, _, _, _, _, _, _, rfl⟩
        obtain ⟨l1, l2, l3, l4, l5, l6, l7, l8, l9, l10, l11, l12, l13, l14, hmc⟩ := hbx2
        rw [hmc] at hb
        have s6 : ∀ b, (st2.set 6 b)[6]? = some b := fun b => List.getElem?_set_self h6
        have s2 : ∀ b, (st2.set 6 b)[2]? = some (.box Z6) := fun b => by rw [List.getElem?_set_ne (by decide), hb2]
        have h2l : 2 < st2.length := by omega
        have s22 : ∀ b b', ((st2.set 6 b).set 2 b')[2]? = some b' := fun b b' => List.getElem?_set_self (by rw [List.length_set]; exact h2l)
        (all_goals have := fa (a5 hE4 hE6 hb s6 (a2 s2 @Z6.eq_1)); repeat' first | refine Wp.v ?_ | (refine Wp.c ?_ ?_ <;> intro))
        refine Wp.ret ?_
        have hk : ∀ (tag es : Nat) (u : U) (xs : List (List U)) (b b' : List U), RU st2 tag es u xs → RU ((st2.set 6 (.box b)).set 2 (.box b')) tag es u xs := fun tag es u xs b b' hu => hu.ext fun id ys hy => by
          have n6 : ¬ id = 6 := fun e => by subst e; rw [hb] at hy; cases hy
          have n2 : ¬ id = 2 := fun e => by subst e; rw [hb2] at hy; cases hy
          rw [List.getElem?_set_ne (fun e => n2 e.symm), List.getElem?_set_ne (fun e => n6 e.symm), hy]
        have hf := fun b b' => res_tr (hk _ _ _ _ b b' hM.evs) (hk _ _ _ _ b b' hM.out) m.how m.val m.steps m.steps
        rw [hres]
        simp only [Res, resU, res1, c_engine_Run, M2.allM, M2.get, hE4, M2.ld, s22, M2.part, sub, Option.bind_some, if_true, Nat.reduceEqDiff]
        exact hf _ _
end Go.Proofs.YtfmhnfimkpffnaaGreatDoor.M2
