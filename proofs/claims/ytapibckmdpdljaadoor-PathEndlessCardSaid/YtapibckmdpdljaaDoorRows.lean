/-
  NARROWER THAN 'FOR EVERY INPUT', by the rows' own cells (each row's printed sentence says how): PathLeads: laid · PathOnce: laid · PathAlong: laid · PathSteps: laid · SkelBuilds: laid · SkelWays: laid · SkelPlaces: laid · SkelCuts: laid · PathEndless: laid · PathRuns: laid.
  DERIVED. THE GIVEN ROWS OF THIS SEAT. 10 by the template 'for every input the law returns true; each argument reads behind the call as it read before'; 0 by the template 'total and deterministic' (their statements: YtapibckmdpdljaaDoorTotals.lean).
  GIVEN WITH THE SEED: the statements are not yours to turn. If you find one false, say at which input.
  Laid BY PROGRAM, IN A SANDBOX (cutbox-rows.mjs): the forced cells as the released guide's own fill.sh prints them over the translation 0596abe90668d847… (all of the seat's roots in one cut). By AI agents, Wed Nov 11 2026. No macro, syntax, notation, axiom, sorry.
-/
import Derived.Test.YtapibckmdpdljaaDoorChecked
import GoSem.Claim
import GoSem.ClaimJoined
import GoSem.ClaimMapViews
import Derived.JoinedTies
import Derived.KernelRfl
namespace Go.Proofs.YtapibckmdpdljaaDoor
/- THE CELL 'sum', in the pinned program and in every row, IS THE sha256 OF THE DUMP (.gsa) THAT YtapibckmdpdljaaDoorProg.lean LOADS. Nothing in Lean hashes anything: it is a label: what it is worth is what the hold of that sum in a sandbox is worth. -/
noncomputable def Tryd.pinned : Pinned := { name := "ytapibckmdpdljaadoor", sum := "0596abe90668d84742e0d0f197e9a2155b665648dea34f78c71eabbfbd4855be", checked := Tryd.checked }
namespace Rows
def none {H : Type} : Left H := { results := [], args := [] }

/- WHAT THE LISTED PACKAGE-LEVEL VARIABLES READ AS WHEN THE CALL BEGINS. Each datum BY PROGRAM (the guide's laid-datum.mjs) off the statement by which the dump's own 'gosem.cut.vars' lays the variable. In a bare row this is a premise. The card (YtapibckmdpdljaaDoorCards.lean) ties it to the program's text. -/
def laid_joinery_ins_shapes {H : Type} : DataW H := .agg [.agg [.lit (.string [99, 111, 110, 115, 116]), .lit (.string [100, 78])], .agg [.lit (.string [109, 111, 118]), .lit (.string [100, 97])], .agg [.lit (.string [115, 119, 97, 112]), .lit (.string [100, 97])], .agg [.lit (.string [97, 100, 100]), .lit (.string [68, 65, 66])], .agg [.lit (.string [115, 117, 98]), .lit (.string [68, 65, 66])], .agg [.lit (.string [109, 117, 108]), .lit (.string [68, 65, 66])], .agg [.lit (.string [100, 105, 118]), .lit (.string [68, 65, 66])], .agg [.lit (.string [97, 110, 100]), .lit (.string [68, 65, 66])], .agg [.lit (.string [111, 114]), .lit (.string [68, 65, 66])], .agg [.lit (.string [120, 111, 114]), .lit (.string [68, 65, 66])], .agg [.lit (.string [108, 101, 115, 115]), .lit (.string [68, 65, 66])], .agg [.lit (.string [115, 97, 109, 101]), .lit (.string [68, 65, 66])], .agg [.lit (.string [108, 111, 97, 100]), .lit (.string [68, 65])], .agg [.lit (.string [115, 116, 111, 114, 101]), .lit (.string [65, 66])], .agg [.lit (.string [99, 97, 108, 108]), .lit (.string [68, 65, 78])], .agg [.lit (.string [106, 117, 109, 112]), .lit (.string [84])], .agg [.lit (.string [122, 101, 114, 111]), .lit (.string [65, 84])], .agg [.lit (.string [114, 101, 116]), .lit (.string [65])]]

/-- 'joinerylaw09.PathLeads': WHATEVER THE INPUT: true; the input reads as it did. -/
def pathLeadsSpec : ChangeSpec := { name := "pathLeads", fn := fun _ => fun
  | [d1, d2] => { results := [.lit (.bool true)], args := [d1, d2] }
  | _ => none }
def pathLeadsRow : OpenClaim := { program := "ytapibckmdpdljaadoor", sum := "0596abe90668d84742e0d0f197e9a2155b665648dea34f78c71eabbfbd4855be", func := "joinery/joinerylaw09.PathLeads", spec := "pathLeads", unfollowed := true, recurses := true, named := ["joinery/ins.shapes"], apart := false, laid := [("joinery/ins.shapes", laid_joinery_ins_shapes)] }
def PathLeadsSaid : Prop := pathLeadsRow.holds Tryd.pinned (OpenSpec.ofChange pathLeadsSpec)

/-- ITS FALSE NEIGHBOUR: 'it returns false'. Refute it at one input. -/
def pathLeadsWrong : ChangeSpec := { name := "pathLeads", fn := fun _ => fun
  | [d1, d2] => { results := [.lit (.bool false)], args := [d1, d2] }
  | _ => none }
def PathLeadsWrongFalsely : Prop := pathLeadsRow.holds Tryd.pinned (OpenSpec.ofChange pathLeadsWrong)

/-- 'joinerylaw09.PathOnce': WHATEVER THE INPUT: true; the input reads as it did. -/
def pathOnceSpec : ChangeSpec := { name := "pathOnce", fn := fun _ => fun
  | [d1, d2] => { results := [.lit (.bool true)], args := [d1, d2] }
  | _ => none }
def pathOnceRow : OpenClaim := { program := "ytapibckmdpdljaadoor", sum := "0596abe90668d84742e0d0f197e9a2155b665648dea34f78c71eabbfbd4855be", func := "joinery/joinerylaw09.PathOnce", spec := "pathOnce", unfollowed := true, recurses := true, named := ["joinery/ins.shapes"], apart := false, laid := [("joinery/ins.shapes", laid_joinery_ins_shapes)] }
def PathOnceSaid : Prop := pathOnceRow.holds Tryd.pinned (OpenSpec.ofChange pathOnceSpec)

/-- ITS FALSE NEIGHBOUR: 'it returns false'. Refute it at one input. -/
def pathOnceWrong : ChangeSpec := { name := "pathOnce", fn := fun _ => fun
  | [d1, d2] => { results := [.lit (.bool false)], args := [d1, d2] }
  | _ => none }
def PathOnceWrongFalsely : Prop := pathOnceRow.holds Tryd.pinned (OpenSpec.ofChange pathOnceWrong)

/-- 'joinerylaw09.PathAlong': WHATEVER THE INPUT: true; the input reads as it did. -/
def pathAlongSpec : ChangeSpec := { name := "pathAlong", fn := fun _ => fun
  | [d1, d2] => { results := [.lit (.bool true)], args := [d1, d2] }
  | _ => none }
def pathAlongRow : OpenClaim := { program := "ytapibckmdpdljaadoor", sum := "0596abe90668d84742e0d0f197e9a2155b665648dea34f78c71eabbfbd4855be", func := "joinery/joinerylaw09.PathAlong", spec := "pathAlong", unfollowed := true, recurses := true, named := ["joinery/ins.shapes"], apart := false, laid := [("joinery/ins.shapes", laid_joinery_ins_shapes)] }
def PathAlongSaid : Prop := pathAlongRow.holds Tryd.pinned (OpenSpec.ofChange pathAlongSpec)

/-- ITS FALSE NEIGHBOUR: 'it returns false'. Refute it at one input. -/
def pathAlongWrong : ChangeSpec := { name := "pathAlong", fn := fun _ => fun
  | [d1, d2] => { results := [.lit (.bool false)], args := [d1, d2] }
  | _ => none }
def PathAlongWrongFalsely : Prop := pathAlongRow.holds Tryd.pinned (OpenSpec.ofChange pathAlongWrong)

/-- 'joinerylaw09.PathSteps': WHATEVER THE INPUT: true; the input reads as it did. -/
def pathStepsSpec : ChangeSpec := { name := "pathSteps", fn := fun _ => fun
  | [d1, d2] => { results := [.lit (.bool true)], args := [d1, d2] }
  | _ => none }
def pathStepsRow : OpenClaim := { program := "ytapibckmdpdljaadoor", sum := "0596abe90668d84742e0d0f197e9a2155b665648dea34f78c71eabbfbd4855be", func := "joinery/joinerylaw09.PathSteps", spec := "pathSteps", unfollowed := true, recurses := true, named := ["joinery/ins.shapes"], apart := false, laid := [("joinery/ins.shapes", laid_joinery_ins_shapes)] }
def PathStepsSaid : Prop := pathStepsRow.holds Tryd.pinned (OpenSpec.ofChange pathStepsSpec)

/-- ITS FALSE NEIGHBOUR: 'it returns false'. Refute it at one input. -/
def pathStepsWrong : ChangeSpec := { name := "pathSteps", fn := fun _ => fun
  | [d1, d2] => { results := [.lit (.bool false)], args := [d1, d2] }
  | _ => none }
def PathStepsWrongFalsely : Prop := pathStepsRow.holds Tryd.pinned (OpenSpec.ofChange pathStepsWrong)

/-- 'joinerylaw10.SkelBuilds': WHATEVER THE INPUT: true; the input reads as it did. -/
def skelBuildsSpec : ChangeSpec := { name := "skelBuilds", fn := fun _ => fun
  | [d1, d2] => { results := [.lit (.bool true)], args := [d1, d2] }
  | _ => none }
def skelBuildsRow : OpenClaim := { program := "ytapibckmdpdljaadoor", sum := "0596abe90668d84742e0d0f197e9a2155b665648dea34f78c71eabbfbd4855be", func := "joinery/joinerylaw10.SkelBuilds", spec := "skelBuilds", unfollowed := true, recurses := true, named := ["joinery/ins.shapes"], apart := false, laid := [("joinery/ins.shapes", laid_joinery_ins_shapes)] }
def SkelBuildsSaid : Prop := skelBuildsRow.holds Tryd.pinned (OpenSpec.ofChange skelBuildsSpec)

/-- ITS FALSE NEIGHBOUR: 'it returns false'. Refute it at one input. -/
def skelBuildsWrong : ChangeSpec := { name := "skelBuilds", fn := fun _ => fun
  | [d1, d2] => { results := [.lit (.bool false)], args := [d1, d2] }
  | _ => none }
def SkelBuildsWrongFalsely : Prop := skelBuildsRow.holds Tryd.pinned (OpenSpec.ofChange skelBuildsWrong)

/-- 'joinerylaw10.SkelWays': WHATEVER THE INPUT: true; the input reads as it did. -/
def skelWaysSpec : ChangeSpec := { name := "skelWays", fn := fun _ => fun
  | [d1, d2] => { results := [.lit (.bool true)], args := [d1, d2] }
  | _ => none }
def skelWaysRow : OpenClaim := { program := "ytapibckmdpdljaadoor", sum := "0596abe90668d84742e0d0f197e9a2155b665648dea34f78c71eabbfbd4855be", func := "joinery/joinerylaw10.SkelWays", spec := "skelWays", unfollowed := true, recurses := true, named := ["joinery/ins.shapes"], apart := false, laid := [("joinery/ins.shapes", laid_joinery_ins_shapes)] }
def SkelWaysSaid : Prop := skelWaysRow.holds Tryd.pinned (OpenSpec.ofChange skelWaysSpec)

/-- ITS FALSE NEIGHBOUR: 'it returns false'. Refute it at one input. -/
def skelWaysWrong : ChangeSpec := { name := "skelWays", fn := fun _ => fun
  | [d1, d2] => { results := [.lit (.bool false)], args := [d1, d2] }
  | _ => none }
def SkelWaysWrongFalsely : Prop := skelWaysRow.holds Tryd.pinned (OpenSpec.ofChange skelWaysWrong)

/-- 'joinerylaw10.SkelPlaces': WHATEVER THE INPUT: true; the input reads as it did. -/
def skelPlacesSpec : ChangeSpec := { name := "skelPlaces", fn := fun _ => fun
  | [d1, d2] => { results := [.lit (.bool true)], args := [d1, d2] }
  | _ => none }
def skelPlacesRow : OpenClaim := { program := "ytapibckmdpdljaadoor", sum := "0596abe90668d84742e0d0f197e9a2155b665648dea34f78c71eabbfbd4855be", func := "joinery/joinerylaw10.SkelPlaces", spec := "skelPlaces", unfollowed := true, recurses := true, named := ["joinery/ins.shapes"], apart := false, laid := [("joinery/ins.shapes", laid_joinery_ins_shapes)] }
def SkelPlacesSaid : Prop := skelPlacesRow.holds Tryd.pinned (OpenSpec.ofChange skelPlacesSpec)

/-- ITS FALSE NEIGHBOUR: 'it returns false'. Refute it at one input. -/
def skelPlacesWrong : ChangeSpec := { name := "skelPlaces", fn := fun _ => fun
  | [d1, d2] => { results := [.lit (.bool false)], args := [d1, d2] }
  | _ => none }
def SkelPlacesWrongFalsely : Prop := skelPlacesRow.holds Tryd.pinned (OpenSpec.ofChange skelPlacesWrong)

/-- 'joinerylaw10.SkelCuts': WHATEVER THE INPUT: true; the input reads as it did. -/
def skelCutsSpec : ChangeSpec := { name := "skelCuts", fn := fun _ => fun
  | [d1, d2, d3] => { results := [.lit (.bool true)], args := [d1, d2, d3] }
  | _ => none }
def skelCutsRow : OpenClaim := { program := "ytapibckmdpdljaadoor", sum := "0596abe90668d84742e0d0f197e9a2155b665648dea34f78c71eabbfbd4855be", func := "joinery/joinerylaw10.SkelCuts", spec := "skelCuts", unfollowed := true, recurses := true, named := ["joinery/ins.shapes"], apart := false, laid := [("joinery/ins.shapes", laid_joinery_ins_shapes)] }
def SkelCutsSaid : Prop := skelCutsRow.holds Tryd.pinned (OpenSpec.ofChange skelCutsSpec)

/-- ITS FALSE NEIGHBOUR: 'it returns false'. Refute it at one input. -/
def skelCutsWrong : ChangeSpec := { name := "skelCuts", fn := fun _ => fun
  | [d1, d2, d3] => { results := [.lit (.bool false)], args := [d1, d2, d3] }
  | _ => none }
def SkelCutsWrongFalsely : Prop := skelCutsRow.holds Tryd.pinned (OpenSpec.ofChange skelCutsWrong)

/-- 'joinerylaw09.PathEndless': WHATEVER THE INPUT: true; the input reads as it did. -/
def pathEndlessSpec : ChangeSpec := { name := "pathEndless", fn := fun _ => fun
  | [d1, d2] => { results := [.lit (.bool true)], args := [d1, d2] }
  | _ => none }
def pathEndlessRow : OpenClaim := { program := "ytapibckmdpdljaadoor", sum := "0596abe90668d84742e0d0f197e9a2155b665648dea34f78c71eabbfbd4855be", func := "joinery/joinerylaw09.PathEndless", spec := "pathEndless", unfollowed := true, recurses := true, named := ["joinery/ins.shapes"], apart := false, laid := [("joinery/ins.shapes", laid_joinery_ins_shapes)] }
def PathEndlessSaid : Prop := pathEndlessRow.holds Tryd.pinned (OpenSpec.ofChange pathEndlessSpec)

/-- ITS FALSE NEIGHBOUR: 'it returns false'. Refute it at one input. -/
def pathEndlessWrong : ChangeSpec := { name := "pathEndless", fn := fun _ => fun
  | [d1, d2] => { results := [.lit (.bool false)], args := [d1, d2] }
  | _ => none }
def PathEndlessWrongFalsely : Prop := pathEndlessRow.holds Tryd.pinned (OpenSpec.ofChange pathEndlessWrong)

/-- 'joinerylaw09.PathRuns': WHATEVER THE INPUT: true; the input reads as it did. -/
def pathRunsSpec : ChangeSpec := { name := "pathRuns", fn := fun _ => fun
  | [d1, d2] => { results := [.lit (.bool true)], args := [d1, d2] }
  | _ => none }
def pathRunsRow : OpenClaim := { program := "ytapibckmdpdljaadoor", sum := "0596abe90668d84742e0d0f197e9a2155b665648dea34f78c71eabbfbd4855be", func := "joinery/joinerylaw09.PathRuns", spec := "pathRuns", unfollowed := true, recurses := true, named := ["joinery/ins.shapes"], apart := false, laid := [("joinery/ins.shapes", laid_joinery_ins_shapes)] }
def PathRunsSaid : Prop := pathRunsRow.holds Tryd.pinned (OpenSpec.ofChange pathRunsSpec)

/-- ITS FALSE NEIGHBOUR: 'it returns false'. Refute it at one input. -/
def pathRunsWrong : ChangeSpec := { name := "pathRuns", fn := fun _ => fun
  | [d1, d2] => { results := [.lit (.bool false)], args := [d1, d2] }
  | _ => none }
def PathRunsWrongFalsely : Prop := pathRunsRow.holds Tryd.pinned (OpenSpec.ofChange pathRunsWrong)

/- THE SECOND FORM. 'bulk': how many values and letters a reading holds, each counted each time it is reached (what is shared counts as often as it is met; a slice's spare places count too). A statement '..UptoSaid' is the law's where the arguments, and the package variables that the reading takes, are together of bulk at most 1048576: NARROWER than '..Said'. Prove '..Said' where nothing that the law and all that it calls make is longer than what came in: it says more and counts as full. Else prove '..UptoSaid'. A law counts once. -/
mutual
def uptoBulk {H : Type} : DataW H → Nat
  | .lit (.string bytes) => bytes.length + 1
  | .lit _ => 1
  | .nil => 1
  | .ptr d => uptoBulk d + 1
  | .slice elems spare => uptoBulkAll elems + uptoBulkAll spare + 1
  | .agg parts => uptoBulkAll parts + 1
  | .iface _ d => uptoBulk d + 1
  | .map entries => uptoBulkEntries entries + 1
  | .held _ => 1
def uptoBulkAll {H : Type} : List (DataW H) → Nat
  | [] => 0
  | d :: r => uptoBulk d + uptoBulkAll r
def uptoBulkEntries {H : Type} : List (Lit × DataW H) → Nat
  | [] => 0
  | x :: r => uptoBulkEntry x + uptoBulkEntries r
def uptoBulkEntry {H : Type} : Lit × DataW H → Nat
  | (.string bytes, d) => bytes.length + uptoBulk d + 1
  | (_, d) => uptoBulk d + 1
 end
def uptoSmall : (H : Type) → List (DataW H) → Bool := fun _ ds => decide (uptoBulkAll ds ≤ 1048576)
def OpenSpec.upto (s : _root_.Go.ChangeSpec) : _root_.Go.OpenSpec := { _root_.Go.OpenSpec.ofChange s with cond := some uptoSmall }

/-- 'joinerylaw09.PathLeads', WHERE WHAT IT READS IS OF BULK AT MOST 1048576: true; the input reads as it did. -/
def pathLeadsUptoRow : OpenClaim := { program := "ytapibckmdpdljaadoor", sum := "0596abe90668d84742e0d0f197e9a2155b665648dea34f78c71eabbfbd4855be", func := "joinery/joinerylaw09.PathLeads", spec := "pathLeads", unfollowed := true, recurses := true, named := ["joinery/ins.shapes"], apart := false, laid := [("joinery/ins.shapes", laid_joinery_ins_shapes)], narrowed := true }
def PathLeadsUptoSaid : Prop := pathLeadsUptoRow.holds Tryd.pinned (OpenSpec.upto pathLeadsSpec)

/-- 'joinerylaw09.PathOnce', WHERE WHAT IT READS IS OF BULK AT MOST 1048576: true; the input reads as it did. -/
def pathOnceUptoRow : OpenClaim := { program := "ytapibckmdpdljaadoor", sum := "0596abe90668d84742e0d0f197e9a2155b665648dea34f78c71eabbfbd4855be", func := "joinery/joinerylaw09.PathOnce", spec := "pathOnce", unfollowed := true, recurses := true, named := ["joinery/ins.shapes"], apart := false, laid := [("joinery/ins.shapes", laid_joinery_ins_shapes)], narrowed := true }
def PathOnceUptoSaid : Prop := pathOnceUptoRow.holds Tryd.pinned (OpenSpec.upto pathOnceSpec)

/-- 'joinerylaw09.PathAlong', WHERE WHAT IT READS IS OF BULK AT MOST 1048576: true; the input reads as it did. -/
def pathAlongUptoRow : OpenClaim := { program := "ytapibckmdpdljaadoor", sum := "0596abe90668d84742e0d0f197e9a2155b665648dea34f78c71eabbfbd4855be", func := "joinery/joinerylaw09.PathAlong", spec := "pathAlong", unfollowed := true, recurses := true, named := ["joinery/ins.shapes"], apart := false, laid := [("joinery/ins.shapes", laid_joinery_ins_shapes)], narrowed := true }
def PathAlongUptoSaid : Prop := pathAlongUptoRow.holds Tryd.pinned (OpenSpec.upto pathAlongSpec)

/-- 'joinerylaw09.PathSteps', WHERE WHAT IT READS IS OF BULK AT MOST 1048576: true; the input reads as it did. -/
def pathStepsUptoRow : OpenClaim := { program := "ytapibckmdpdljaadoor", sum := "0596abe90668d84742e0d0f197e9a2155b665648dea34f78c71eabbfbd4855be", func := "joinery/joinerylaw09.PathSteps", spec := "pathSteps", unfollowed := true, recurses := true, named := ["joinery/ins.shapes"], apart := false, laid := [("joinery/ins.shapes", laid_joinery_ins_shapes)], narrowed := true }
def PathStepsUptoSaid : Prop := pathStepsUptoRow.holds Tryd.pinned (OpenSpec.upto pathStepsSpec)

/-- 'joinerylaw10.SkelBuilds', WHERE WHAT IT READS IS OF BULK AT MOST 1048576: true; the input reads as it did. -/
def skelBuildsUptoRow : OpenClaim := { program := "ytapibckmdpdljaadoor", sum := "0596abe90668d84742e0d0f197e9a2155b665648dea34f78c71eabbfbd4855be", func := "joinery/joinerylaw10.SkelBuilds", spec := "skelBuilds", unfollowed := true, recurses := true, named := ["joinery/ins.shapes"], apart := false, laid := [("joinery/ins.shapes", laid_joinery_ins_shapes)], narrowed := true }
def SkelBuildsUptoSaid : Prop := skelBuildsUptoRow.holds Tryd.pinned (OpenSpec.upto skelBuildsSpec)

/-- 'joinerylaw10.SkelWays', WHERE WHAT IT READS IS OF BULK AT MOST 1048576: true; the input reads as it did. -/
def skelWaysUptoRow : OpenClaim := { program := "ytapibckmdpdljaadoor", sum := "0596abe90668d84742e0d0f197e9a2155b665648dea34f78c71eabbfbd4855be", func := "joinery/joinerylaw10.SkelWays", spec := "skelWays", unfollowed := true, recurses := true, named := ["joinery/ins.shapes"], apart := false, laid := [("joinery/ins.shapes", laid_joinery_ins_shapes)], narrowed := true }
def SkelWaysUptoSaid : Prop := skelWaysUptoRow.holds Tryd.pinned (OpenSpec.upto skelWaysSpec)

/-- 'joinerylaw10.SkelPlaces', WHERE WHAT IT READS IS OF BULK AT MOST 1048576: true; the input reads as it did. -/
def skelPlacesUptoRow : OpenClaim := { program := "ytapibckmdpdljaadoor", sum := "0596abe90668d84742e0d0f197e9a2155b665648dea34f78c71eabbfbd4855be", func := "joinery/joinerylaw10.SkelPlaces", spec := "skelPlaces", unfollowed := true, recurses := true, named := ["joinery/ins.shapes"], apart := false, laid := [("joinery/ins.shapes", laid_joinery_ins_shapes)], narrowed := true }
def SkelPlacesUptoSaid : Prop := skelPlacesUptoRow.holds Tryd.pinned (OpenSpec.upto skelPlacesSpec)

/-- 'joinerylaw10.SkelCuts', WHERE WHAT IT READS IS OF BULK AT MOST 1048576: true; the input reads as it did. -/
def skelCutsUptoRow : OpenClaim := { program := "ytapibckmdpdljaadoor", sum := "0596abe90668d84742e0d0f197e9a2155b665648dea34f78c71eabbfbd4855be", func := "joinery/joinerylaw10.SkelCuts", spec := "skelCuts", unfollowed := true, recurses := true, named := ["joinery/ins.shapes"], apart := false, laid := [("joinery/ins.shapes", laid_joinery_ins_shapes)], narrowed := true }
def SkelCutsUptoSaid : Prop := skelCutsUptoRow.holds Tryd.pinned (OpenSpec.upto skelCutsSpec)

/-- 'joinerylaw09.PathEndless', WHERE WHAT IT READS IS OF BULK AT MOST 1048576: true; the input reads as it did. -/
def pathEndlessUptoRow : OpenClaim := { program := "ytapibckmdpdljaadoor", sum := "0596abe90668d84742e0d0f197e9a2155b665648dea34f78c71eabbfbd4855be", func := "joinery/joinerylaw09.PathEndless", spec := "pathEndless", unfollowed := true, recurses := true, named := ["joinery/ins.shapes"], apart := false, laid := [("joinery/ins.shapes", laid_joinery_ins_shapes)], narrowed := true }
def PathEndlessUptoSaid : Prop := pathEndlessUptoRow.holds Tryd.pinned (OpenSpec.upto pathEndlessSpec)

/-- 'joinerylaw09.PathRuns', WHERE WHAT IT READS IS OF BULK AT MOST 1048576: true; the input reads as it did. -/
def pathRunsUptoRow : OpenClaim := { program := "ytapibckmdpdljaadoor", sum := "0596abe90668d84742e0d0f197e9a2155b665648dea34f78c71eabbfbd4855be", func := "joinery/joinerylaw09.PathRuns", spec := "pathRuns", unfollowed := true, recurses := true, named := ["joinery/ins.shapes"], apart := false, laid := [("joinery/ins.shapes", laid_joinery_ins_shapes)], narrowed := true }
def PathRunsUptoSaid : Prop := pathRunsUptoRow.holds Tryd.pinned (OpenSpec.upto pathRunsSpec)

end Rows
end Go.Proofs.YtapibckmdpdljaaDoor
