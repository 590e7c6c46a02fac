/- What the functions answer in M2. What the law knows: run in the kernel, for it has no input. -/
import Derived.Test.YtbmlnfceanfbmaaDoorCe
set_option linter.unusedSimpArgs false
set_option linter.unusedVariables false
set_option linter.unusedSectionVars false
/- What the functions answer in M2. What the law knows: run in the kernel, for it has no input. -/
namespace Go.Proofs.YtbmlnfceanfbmaaDoor.M2
open Go
def isT : Option (U × List Ob) → Bool
  | some (.bool true, _) => true
  | _ => false
set_option maxRecDepth 100000 in
theorem knows_run : isT (M2.call T 60 n_joinerylaw18_knows [] []) = true := by decide +kernel
theorem closed_call {f n : Nat} {fn : F} (hT : T f = some fn) (hn : fn.nargs = 0) (hp : fn.pure = true) (h : isT (M2.call T n f [] []) = true) (st : List Ob) : Cl T f [] st (.bool true) st := by
  refine ⟨n, fun m hm => call_mono hm ?_⟩
  cases h0 : M2.call T n f [] [] with
  | none => rw [h0] at h; cases h
  | some r =>
    obtain ⟨u, s⟩ := r
    rw [h0] at h
    have hu : u = .bool true := by
      unfold isT at h
      split at h
      · rename_i heq
        injection heq with heq
        injection heq with h1 h2
      · cases h
    subst hu
    simp only [M2.call, callF, hT, Option.bind_some, List.length_nil, hn, if_true, hp, allM] at h0 ⊢
    cases h1 : ev T n fn.body ⟨params 0 [], []⟩ with
    | none => rw [h1] at h0; cases h0
    | some x =>
      obtain ⟨x, s1⟩ := x
      rw [h1] at h0
      simp only [Option.bind_some] at h0 ⊢
      split at h0
      · rename_i he
        rw [if_pos he]
        cases h2 : resU s1 fn.res with
        | none => rw [h2] at h0; cases h0
        | some u2 =>
          rw [h2] at h0
          simp only [Option.bind_some] at h0 ⊢
          cases h3 : frz frzD s1.st u2 with
          | none => rw [h3] at h0; cases h0
          | some u3 =>
            rw [h3] at h0
            simp only [Option.bind_some, Option.some.injEq, Prod.mk.injEq] at h0 ⊢
            exact ⟨h0.1, trivial⟩
      · cases h0
theorem knows_call (st : List Ob) : Cl T n_joinerylaw18_knows [] st (.bool true) st := closed_call (fn := c_joinerylaw18_knows) rfl rfl rfl knows_run st
end Go.Proofs.YtbmlnfceanfbmaaDoor.M2
