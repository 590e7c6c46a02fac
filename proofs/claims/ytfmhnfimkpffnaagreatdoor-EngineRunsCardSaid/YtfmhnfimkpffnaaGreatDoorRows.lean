/-
  NARROWER THAN 'FOR EVERY INPUT', by the rows' own cells (each row's printed sentence says how): EngineRuns: laid · EngineSame: laid.
  DERIVED. THE GIVEN ROWS OF THIS SEAT. 2 by the template 'for every input the law returns true; each argument reads behind the call as it read before'; 0 by the template 'total and deterministic' (their statements: YtfmhnfimkpffnaaGreatDoorTotals.lean).
  GIVEN WITH THE SEED: the statements are not yours to turn. If you find one false, say at which input.
  Laid BY PROGRAM, IN A SANDBOX (cutbox-rows.mjs): the forced cells as the released guide's own fill.sh prints them over the translation 8ec87238d81d452a… (all of the seat's roots in one cut). By AI agents, Wed Nov 11 2026. No macro, syntax, notation, axiom, sorry.
-/
import Derived.Test.YtfmhnfimkpffnaaGreatDoorChecked
import GoSem.Claim
import GoSem.ClaimJoined
import GoSem.ClaimMapViews
import Derived.JoinedTies
import Derived.KernelRfl
namespace Go.Proofs.YtfmhnfimkpffnaaGreatDoor
/- THE CELL 'sum', in the pinned program and in every row, IS THE sha256 OF THE DUMP (.gsa) THAT YtfmhnfimkpffnaaGreatDoorProg.lean LOADS. Nothing in Lean hashes anything: it is a label: what it is worth is what the hold of that sum in a sandbox is worth. -/
noncomputable def Tryz.pinned : Pinned := { name := "ytfmhnfimkpffnaagreatdoor", sum := "8ec87238d81d452a2ee35841a4ef88eeeccc30ba161cf16e64b6ce1bedb9ba07", checked := Tryz.checked }
namespace Rows
def none {H : Type} : Left H := { results := [], args := [] }

/- WHAT THE LISTED PACKAGE-LEVEL VARIABLES READ AS WHEN THE CALL BEGINS. Each datum BY PROGRAM (the guide's laid-datum.mjs) off the statement by which the dump's own 'gosem.cut.vars' lays the variable. In a bare row this is a premise. The card (YtfmhnfimkpffnaaGreatDoorCards.lean) ties it to the program's text. -/
def laid_joinery_ins_shapes {H : Type} : DataW H := .agg [.agg [.lit (.string [99, 111, 110, 115, 116]), .lit (.string [100, 78])], .agg [.lit (.string [109, 111, 118]), .lit (.string [100, 97])], .agg [.lit (.string [115, 119, 97, 112]), .lit (.string [100, 97])], .agg [.lit (.string [97, 100, 100]), .lit (.string [68, 65, 66])], .agg [.lit (.string [115, 117, 98]), .lit (.string [68, 65, 66])], .agg [.lit (.string [109, 117, 108]), .lit (.string [68, 65, 66])], .agg [.lit (.string [100, 105, 118]), .lit (.string [68, 65, 66])], .agg [.lit (.string [97, 110, 100]), .lit (.string [68, 65, 66])], .agg [.lit (.string [111, 114]), .lit (.string [68, 65, 66])], .agg [.lit (.string [120, 111, 114]), .lit (.string [68, 65, 66])], .agg [.lit (.string [108, 101, 115, 115]), .lit (.string [68, 65, 66])], .agg [.lit (.string [115, 97, 109, 101]), .lit (.string [68, 65, 66])], .agg [.lit (.string [108, 111, 97, 100]), .lit (.string [68, 65])], .agg [.lit (.string [115, 116, 111, 114, 101]), .lit (.string [65, 66])], .agg [.lit (.string [99, 97, 108, 108]), .lit (.string [68, 65, 78])], .agg [.lit (.string [106, 117, 109, 112]), .lit (.string [84])], .agg [.lit (.string [122, 101, 114, 111]), .lit (.string [65, 84])], .agg [.lit (.string [114, 101, 116]), .lit (.string [65])]]
def laid_joinery_shape_kinds {H : Type} : DataW H := .agg [.agg [.lit (.string [99, 117, 116]), .lit (.int .i64 0), .lit (.int .i64 0), .lit (.bool false)], .agg [.lit (.string []), .lit (.int .i64 0), .lit (.int .i64 0), .lit (.bool false)], .agg [.lit (.string []), .lit (.int .i64 0), .lit (.int .i64 0), .lit (.bool false)], .agg [.lit (.string []), .lit (.int .i64 0), .lit (.int .i64 0), .lit (.bool false)], .agg [.lit (.string [97, 100, 100]), .lit (.int .i64 2), .lit (.int .i64 1), .lit (.bool true)], .agg [.lit (.string [115, 117, 98]), .lit (.int .i64 2), .lit (.int .i64 1), .lit (.bool true)], .agg [.lit (.string [109, 117, 108]), .lit (.int .i64 2), .lit (.int .i64 1), .lit (.bool true)], .agg [.lit (.string [100, 105, 118]), .lit (.int .i64 2), .lit (.int .i64 1), .lit (.bool true)], .agg [.lit (.string [97, 110, 100]), .lit (.int .i64 2), .lit (.int .i64 1), .lit (.bool true)], .agg [.lit (.string [111, 114]), .lit (.int .i64 2), .lit (.int .i64 1), .lit (.bool true)], .agg [.lit (.string [120, 111, 114]), .lit (.int .i64 2), .lit (.int .i64 1), .lit (.bool true)], .agg [.lit (.string [108, 101, 115, 115]), .lit (.int .i64 2), .lit (.int .i64 1), .lit (.bool true)], .agg [.lit (.string [115, 97, 109, 101]), .lit (.int .i64 2), .lit (.int .i64 1), .lit (.bool true)], .agg [.lit (.string [108, 111, 97, 100]), .lit (.int .i64 1), .lit (.int .i64 1), .lit (.bool true)], .agg [.lit (.string [115, 116, 111, 114, 101]), .lit (.int .i64 2), .lit (.int .i64 1), .lit (.bool false)], .agg [.lit (.string [99, 97, 108, 108]), .lit (.int .i64 1), .lit (.int .i64 1), .lit (.bool true)], .agg [.lit (.string []), .lit (.int .i64 0), .lit (.int .i64 0), .lit (.bool false)], .agg [.lit (.string [122, 101, 114, 111]), .lit (.int .i64 1), .lit (.int .i64 2), .lit (.bool false)], .agg [.lit (.string [114, 101, 116]), .lit (.int .i64 1), .lit (.int .i64 0), .lit (.bool false)]]
def laid_joinery_value_open {H : Type} : DataW H := .agg [.lit (.int .i64 (-1)), .lit (.int .i64 0)]

/-- 'joinerylaw15.EngineRuns': WHATEVER THE INPUT: true; the input reads as it did. -/
def engineRunsSpec : ChangeSpec := { name := "engineRuns", fn := fun _ => fun
  | [d1, d2] => { results := [.lit (.bool true)], args := [d1, d2] }
  | _ => none }
def engineRunsRow : OpenClaim := { program := "ytfmhnfimkpffnaagreatdoor", sum := "8ec87238d81d452a2ee35841a4ef88eeeccc30ba161cf16e64b6ce1bedb9ba07", func := "joinery/joinerylaw15.EngineRuns", spec := "engineRuns", unfollowed := true, recurses := true, named := ["joinery/ins.shapes", "joinery/value.open", "joinery/shape.kinds"], plainKeys := false, apart := false, laid := [("joinery/ins.shapes", laid_joinery_ins_shapes), ("joinery/shape.kinds", laid_joinery_shape_kinds), ("joinery/value.open", laid_joinery_value_open)] }
def EngineRunsSaid : Prop := engineRunsRow.holds Tryz.pinned (OpenSpec.ofChange engineRunsSpec)

/-- ITS FALSE NEIGHBOUR: 'it returns false'. Refute it at one input. -/
def engineRunsWrong : ChangeSpec := { name := "engineRuns", fn := fun _ => fun
  | [d1, d2] => { results := [.lit (.bool false)], args := [d1, d2] }
  | _ => none }
def EngineRunsWrongFalsely : Prop := engineRunsRow.holds Tryz.pinned (OpenSpec.ofChange engineRunsWrong)

/-- 'joinerylaw15.EngineSame': WHATEVER THE INPUT: true; the input reads as it did. -/
def engineSameSpec : ChangeSpec := { name := "engineSame", fn := fun _ => fun
  | [d1, d2] => { results := [.lit (.bool true)], args := [d1, d2] }
  | _ => none }
def engineSameRow : OpenClaim := { program := "ytfmhnfimkpffnaagreatdoor", sum := "8ec87238d81d452a2ee35841a4ef88eeeccc30ba161cf16e64b6ce1bedb9ba07", func := "joinery/joinerylaw15.EngineSame", spec := "engineSame", unfollowed := true, recurses := true, named := ["joinery/ins.shapes", "joinery/value.open", "joinery/shape.kinds"], plainKeys := false, apart := false, laid := [("joinery/ins.shapes", laid_joinery_ins_shapes), ("joinery/shape.kinds", laid_joinery_shape_kinds), ("joinery/value.open", laid_joinery_value_open)] }
def EngineSameSaid : Prop := engineSameRow.holds Tryz.pinned (OpenSpec.ofChange engineSameSpec)

/-- ITS FALSE NEIGHBOUR: 'it returns false'. Refute it at one input. -/
def engineSameWrong : ChangeSpec := { name := "engineSame", fn := fun _ => fun
  | [d1, d2] => { results := [.lit (.bool false)], args := [d1, d2] }
  | _ => none }
def EngineSameWrongFalsely : Prop := engineSameRow.holds Tryz.pinned (OpenSpec.ofChange engineSameWrong)

/- THE SECOND FORM. 'bulk': how many values and letters a reading holds, each counted each time it is reached (what is shared counts as often as it is met; a slice's spare places count too). A statement '..UptoSaid' is the law's where the arguments, and the package variables that the reading takes, are together of bulk at most 1048576: NARROWER than '..Said'. Prove '..Said' where nothing that the law and all that it calls make is longer than what came in: it says more and counts as full. Else prove '..UptoSaid'. A law counts once. -/
mutual
def uptoBulk {H : Type} : DataW H → Nat
  | .lit (.string bytes) => bytes.length + 1
  | .lit _ => 1
  | .nil => 1
  | .ptr d => uptoBulk d + 1
  | .slice elems spare => uptoBulkAll elems + uptoBulkAll spare + 1
  | .agg parts => uptoBulkAll parts + 1
  | .iface _ d => uptoBulk d + 1
  | .map entries => uptoBulkEntries entries + 1
  | .held _ => 1
def uptoBulkAll {H : Type} : List (DataW H) → Nat
  | [] => 0
  | d :: r => uptoBulk d + uptoBulkAll r
def uptoBulkEntries {H : Type} : List (Lit × DataW H) → Nat
  | [] => 0
  | x :: r => uptoBulkEntry x + uptoBulkEntries r
def uptoBulkEntry {H : Type} : Lit × DataW H → Nat
  | (.string bytes, d) => bytes.length + uptoBulk d + 1
  | (_, d) => uptoBulk d + 1
 end
def uptoSmall : (H : Type) → List (DataW H) → Bool := fun _ ds => decide (uptoBulkAll ds ≤ 1048576)
def OpenSpec.upto (s : _root_.Go.ChangeSpec) : _root_.Go.OpenSpec := { _root_.Go.OpenSpec.ofChange s with cond := some uptoSmall }

/-- 'joinerylaw15.EngineRuns', WHERE WHAT IT READS IS OF BULK AT MOST 1048576: true; the input reads as it did. -/
def engineRunsUptoRow : OpenClaim := { program := "ytfmhnfimkpffnaagreatdoor", sum := "8ec87238d81d452a2ee35841a4ef88eeeccc30ba161cf16e64b6ce1bedb9ba07", func := "joinery/joinerylaw15.EngineRuns", spec := "engineRuns", unfollowed := true, recurses := true, named := ["joinery/ins.shapes", "joinery/value.open", "joinery/shape.kinds"], plainKeys := false, apart := false, laid := [("joinery/ins.shapes", laid_joinery_ins_shapes), ("joinery/shape.kinds", laid_joinery_shape_kinds), ("joinery/value.open", laid_joinery_value_open)], narrowed := true }
def EngineRunsUptoSaid : Prop := engineRunsUptoRow.holds Tryz.pinned (OpenSpec.upto engineRunsSpec)

/-- 'joinerylaw15.EngineSame', WHERE WHAT IT READS IS OF BULK AT MOST 1048576: true; the input reads as it did. -/
def engineSameUptoRow : OpenClaim := { program := "ytfmhnfimkpffnaagreatdoor", sum := "8ec87238d81d452a2ee35841a4ef88eeeccc30ba161cf16e64b6ce1bedb9ba07", func := "joinery/joinerylaw15.EngineSame", spec := "engineSame", unfollowed := true, recurses := true, named := ["joinery/ins.shapes", "joinery/value.open", "joinery/shape.kinds"], plainKeys := false, apart := false, laid := [("joinery/ins.shapes", laid_joinery_ins_shapes), ("joinery/shape.kinds", laid_joinery_shape_kinds), ("joinery/value.open", laid_joinery_value_open)], narrowed := true }
def EngineSameUptoSaid : Prop := engineSameUptoRow.holds Tryz.pinned (OpenSpec.upto engineSameSpec)

end Rows
end Go.Proofs.YtfmhnfimkpffnaaGreatDoor
