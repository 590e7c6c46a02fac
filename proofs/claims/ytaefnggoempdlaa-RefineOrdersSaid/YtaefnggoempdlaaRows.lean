/-
  No cell of these rows narrows 'for every input' (looked for: loops, veiled, ifaces, maps, wideKeys, modest, calm, conditions, laid).
  DERIVED. THE GIVEN ROWS OF THIS SEAT. 6 by the template 'for every input the law returns true; each argument reads behind the call as it read before'; 0 by the template 'total and deterministic' (their statements: YtaefnggoempdlaaTotals.lean).
  GIVEN WITH THE SEED: the statements are not yours to turn. If you find one false, say at which input.
  Laid BY PROGRAM, IN A SANDBOX (cutbox-rows.mjs): the forced cells as the released guide's own fill.sh prints them over the translation db18921e15f51d33… (all of the seat's roots in one cut). By AI agents, Wed Nov 11 2026. No macro, syntax, notation, axiom, sorry.
-/
import Derived.Test.YtaefnggoempdlaaChecked
import GoSem.Claim
import GoSem.ClaimJoined
import GoSem.ClaimMapViews
import Derived.JoinedTies
import Derived.KernelRfl
namespace Go.Proofs.Ytaefnggoempdlaa
/- THE CELL 'sum', in the pinned program and in every row, IS THE sha256 OF THE DUMP (.gsa) THAT YtaefnggoempdlaaProg.lean LOADS. Nothing in Lean hashes anything: it is a label: what it is worth is what the hold of that sum in a sandbox is worth. -/
noncomputable def Try.pinned : Pinned := { name := "ytaefnggoempdlaa", sum := "db18921e15f51d337b258799f7d2510c1414025e1057f8a737605d12740967d8", checked := Try.checked }
namespace Rows
def none {H : Type} : Left H := { results := [], args := [] }

/-- 'joinerylaw12.RefineClasses': WHATEVER THE INPUT: true; the input reads as it did. -/
def refineClassesSpec : ChangeSpec := { name := "refineClasses", fn := fun _ => fun
  | [d] => { results := [.lit (.bool true)], args := [d] }
  | _ => none }
def refineClassesRow : OpenClaim := { program := "ytaefnggoempdlaa", sum := "db18921e15f51d337b258799f7d2510c1414025e1057f8a737605d12740967d8", func := "joinery/joinerylaw12.RefineClasses", spec := "refineClasses", plainKeys := false, apart := false }
def RefineClassesSaid : Prop := refineClassesRow.holds Try.pinned (OpenSpec.ofChange refineClassesSpec)

/-- ITS FALSE NEIGHBOUR: 'it returns false'. Refute it at one input. -/
def refineClassesWrong : ChangeSpec := { name := "refineClasses", fn := fun _ => fun
  | [d] => { results := [.lit (.bool false)], args := [d] }
  | _ => none }
def RefineClassesWrongFalsely : Prop := refineClassesRow.holds Try.pinned (OpenSpec.ofChange refineClassesWrong)

/-- 'joinerylaw12.RefineApart': WHATEVER THE INPUT: true; the input reads as it did. -/
def refineApartSpec : ChangeSpec := { name := "refineApart", fn := fun _ => fun
  | [d1, d2, d3] => { results := [.lit (.bool true)], args := [d1, d2, d3] }
  | _ => none }
def refineApartRow : OpenClaim := { program := "ytaefnggoempdlaa", sum := "db18921e15f51d337b258799f7d2510c1414025e1057f8a737605d12740967d8", func := "joinery/joinerylaw12.RefineApart", spec := "refineApart", plainKeys := false, apart := false }
def RefineApartSaid : Prop := refineApartRow.holds Try.pinned (OpenSpec.ofChange refineApartSpec)

/-- ITS FALSE NEIGHBOUR: 'it returns false'. Refute it at one input. -/
def refineApartWrong : ChangeSpec := { name := "refineApart", fn := fun _ => fun
  | [d1, d2, d3] => { results := [.lit (.bool false)], args := [d1, d2, d3] }
  | _ => none }
def RefineApartWrongFalsely : Prop := refineApartRow.holds Try.pinned (OpenSpec.ofChange refineApartWrong)

/-- 'joinerylaw12.RefineFewest': WHATEVER THE INPUT: true; the input reads as it did. -/
def refineFewestSpec : ChangeSpec := { name := "refineFewest", fn := fun _ => fun
  | [d1, d2] => { results := [.lit (.bool true)], args := [d1, d2] }
  | _ => none }
def refineFewestRow : OpenClaim := { program := "ytaefnggoempdlaa", sum := "db18921e15f51d337b258799f7d2510c1414025e1057f8a737605d12740967d8", func := "joinery/joinerylaw12.RefineFewest", spec := "refineFewest", plainKeys := false, apart := false }
def RefineFewestSaid : Prop := refineFewestRow.holds Try.pinned (OpenSpec.ofChange refineFewestSpec)

/-- ITS FALSE NEIGHBOUR: 'it returns false'. Refute it at one input. -/
def refineFewestWrong : ChangeSpec := { name := "refineFewest", fn := fun _ => fun
  | [d1, d2] => { results := [.lit (.bool false)], args := [d1, d2] }
  | _ => none }
def RefineFewestWrongFalsely : Prop := refineFewestRow.holds Try.pinned (OpenSpec.ofChange refineFewestWrong)

/-- 'joinerylaw12.RefineOrders': WHATEVER THE INPUT: true; the input reads as it did. -/
def refineOrdersSpec : ChangeSpec := { name := "refineOrders", fn := fun _ => fun
  | [d1, d2, d3, d4] => { results := [.lit (.bool true)], args := [d1, d2, d3, d4] }
  | _ => none }
def refineOrdersRow : OpenClaim := { program := "ytaefnggoempdlaa", sum := "db18921e15f51d337b258799f7d2510c1414025e1057f8a737605d12740967d8", func := "joinery/joinerylaw12.RefineOrders", spec := "refineOrders", plainKeys := false, apart := false }
def RefineOrdersSaid : Prop := refineOrdersRow.holds Try.pinned (OpenSpec.ofChange refineOrdersSpec)

/-- ITS FALSE NEIGHBOUR: 'it returns false'. Refute it at one input. -/
def refineOrdersWrong : ChangeSpec := { name := "refineOrders", fn := fun _ => fun
  | [d1, d2, d3, d4] => { results := [.lit (.bool false)], args := [d1, d2, d3, d4] }
  | _ => none }
def RefineOrdersWrongFalsely : Prop := refineOrdersRow.holds Try.pinned (OpenSpec.ofChange refineOrdersWrong)

/-- 'joinerylaw12.RefineLike': WHATEVER THE INPUT: true; the input reads as it did. -/
def refineLikeSpec : ChangeSpec := { name := "refineLike", fn := fun _ => fun
  | [d1, d2, d3] => { results := [.lit (.bool true)], args := [d1, d2, d3] }
  | _ => none }
def refineLikeRow : OpenClaim := { program := "ytaefnggoempdlaa", sum := "db18921e15f51d337b258799f7d2510c1414025e1057f8a737605d12740967d8", func := "joinery/joinerylaw12.RefineLike", spec := "refineLike", plainKeys := false, apart := false }
def RefineLikeSaid : Prop := refineLikeRow.holds Try.pinned (OpenSpec.ofChange refineLikeSpec)

/-- ITS FALSE NEIGHBOUR: 'it returns false'. Refute it at one input. -/
def refineLikeWrong : ChangeSpec := { name := "refineLike", fn := fun _ => fun
  | [d1, d2, d3] => { results := [.lit (.bool false)], args := [d1, d2, d3] }
  | _ => none }
def RefineLikeWrongFalsely : Prop := refineLikeRow.holds Try.pinned (OpenSpec.ofChange refineLikeWrong)

/-- 'joinerylaw12.RefineTwice': WHATEVER THE INPUT: true; the input reads as it did. -/
def refineTwiceSpec : ChangeSpec := { name := "refineTwice", fn := fun _ => fun
  | [d] => { results := [.lit (.bool true)], args := [d] }
  | _ => none }
def refineTwiceRow : OpenClaim := { program := "ytaefnggoempdlaa", sum := "db18921e15f51d337b258799f7d2510c1414025e1057f8a737605d12740967d8", func := "joinery/joinerylaw12.RefineTwice", spec := "refineTwice", plainKeys := false, apart := false }
def RefineTwiceSaid : Prop := refineTwiceRow.holds Try.pinned (OpenSpec.ofChange refineTwiceSpec)

/-- ITS FALSE NEIGHBOUR: 'it returns false'. Refute it at one input. -/
def refineTwiceWrong : ChangeSpec := { name := "refineTwice", fn := fun _ => fun
  | [d] => { results := [.lit (.bool false)], args := [d] }
  | _ => none }
def RefineTwiceWrongFalsely : Prop := refineTwiceRow.holds Try.pinned (OpenSpec.ofChange refineTwiceWrong)

/- THE SECOND FORM. 'bulk': how many values and letters a reading holds, each counted each time it is reached (what is shared counts as often as it is met; a slice's spare places count too). A statement '..UptoSaid' is the law's where the arguments, and the package variables that the reading takes, are together of bulk at most 1048576: NARROWER than '..Said'. Prove '..Said' where nothing that the law and all that it calls make is longer than what came in: it says more and counts as full. Else prove '..UptoSaid'. A law counts once. -/
mutual
def uptoBulk {H : Type} : DataW H → Nat
  | .lit (.string bytes) => bytes.length + 1
  | .lit _ => 1
  | .nil => 1
  | .ptr d => uptoBulk d + 1
  | .slice elems spare => uptoBulkAll elems + uptoBulkAll spare + 1
  | .agg parts => uptoBulkAll parts + 1
  | .iface _ d => uptoBulk d + 1
  | .map entries => uptoBulkEntries entries + 1
  | .held _ => 1
def uptoBulkAll {H : Type} : List (DataW H) → Nat
  | [] => 0
  | d :: r => uptoBulk d + uptoBulkAll r
def uptoBulkEntries {H : Type} : List (Lit × DataW H) → Nat
  | [] => 0
  | x :: r => uptoBulkEntry x + uptoBulkEntries r
def uptoBulkEntry {H : Type} : Lit × DataW H → Nat
  | (.string bytes, d) => bytes.length + uptoBulk d + 1
  | (_, d) => uptoBulk d + 1
 end
def uptoSmall : (H : Type) → List (DataW H) → Bool := fun _ ds => decide (uptoBulkAll ds ≤ 1048576)
def OpenSpec.upto (s : _root_.Go.ChangeSpec) : _root_.Go.OpenSpec := { _root_.Go.OpenSpec.ofChange s with cond := some uptoSmall }

/-- 'joinerylaw12.RefineClasses', WHERE WHAT IT READS IS OF BULK AT MOST 1048576: true; the input reads as it did. -/
def refineClassesUptoRow : OpenClaim := { program := "ytaefnggoempdlaa", sum := "db18921e15f51d337b258799f7d2510c1414025e1057f8a737605d12740967d8", func := "joinery/joinerylaw12.RefineClasses", spec := "refineClasses", plainKeys := false, apart := false, narrowed := true }
def RefineClassesUptoSaid : Prop := refineClassesUptoRow.holds Try.pinned (OpenSpec.upto refineClassesSpec)

/-- 'joinerylaw12.RefineApart', WHERE WHAT IT READS IS OF BULK AT MOST 1048576: true; the input reads as it did. -/
def refineApartUptoRow : OpenClaim := { program := "ytaefnggoempdlaa", sum := "db18921e15f51d337b258799f7d2510c1414025e1057f8a737605d12740967d8", func := "joinery/joinerylaw12.RefineApart", spec := "refineApart", plainKeys := false, apart := false, narrowed := true }
def RefineApartUptoSaid : Prop := refineApartUptoRow.holds Try.pinned (OpenSpec.upto refineApartSpec)

/-- 'joinerylaw12.RefineFewest', WHERE WHAT IT READS IS OF BULK AT MOST 1048576: true; the input reads as it did. -/
def refineFewestUptoRow : OpenClaim := { program := "ytaefnggoempdlaa", sum := "db18921e15f51d337b258799f7d2510c1414025e1057f8a737605d12740967d8", func := "joinery/joinerylaw12.RefineFewest", spec := "refineFewest", plainKeys := false, apart := false, narrowed := true }
def RefineFewestUptoSaid : Prop := refineFewestUptoRow.holds Try.pinned (OpenSpec.upto refineFewestSpec)

/-- 'joinerylaw12.RefineOrders', WHERE WHAT IT READS IS OF BULK AT MOST 1048576: true; the input reads as it did. -/
def refineOrdersUptoRow : OpenClaim := { program := "ytaefnggoempdlaa", sum := "db18921e15f51d337b258799f7d2510c1414025e1057f8a737605d12740967d8", func := "joinery/joinerylaw12.RefineOrders", spec := "refineOrders", plainKeys := false, apart := false, narrowed := true }
def RefineOrdersUptoSaid : Prop := refineOrdersUptoRow.holds Try.pinned (OpenSpec.upto refineOrdersSpec)

/-- 'joinerylaw12.RefineLike', WHERE WHAT IT READS IS OF BULK AT MOST 1048576: true; the input reads as it did. -/
def refineLikeUptoRow : OpenClaim := { program := "ytaefnggoempdlaa", sum := "db18921e15f51d337b258799f7d2510c1414025e1057f8a737605d12740967d8", func := "joinery/joinerylaw12.RefineLike", spec := "refineLike", plainKeys := false, apart := false, narrowed := true }
def RefineLikeUptoSaid : Prop := refineLikeUptoRow.holds Try.pinned (OpenSpec.upto refineLikeSpec)

/-- 'joinerylaw12.RefineTwice', WHERE WHAT IT READS IS OF BULK AT MOST 1048576: true; the input reads as it did. -/
def refineTwiceUptoRow : OpenClaim := { program := "ytaefnggoempdlaa", sum := "db18921e15f51d337b258799f7d2510c1414025e1057f8a737605d12740967d8", func := "joinery/joinerylaw12.RefineTwice", spec := "refineTwice", plainKeys := false, apart := false, narrowed := true }
def RefineTwiceUptoSaid : Prop := refineTwiceUptoRow.holds Try.pinned (OpenSpec.upto refineTwiceSpec)

end Rows
end Go.Proofs.Ytaefnggoempdlaa
