/-
  NARROWER THAN 'FOR EVERY INPUT', by the rows' own cells (each row's printed sentence says how): MatchFirst: laid · MatchNone: laid · MatchAlike: laid · MatchSelf: laid · MatchAhead: laid · ShapePrints: laid · ShapeParses: laid · ShapeBack: laid · ShapeApart: laid · ShapeCut: laid · ShapeWays: laid.
  DERIVED. THE GIVEN ROWS OF THIS SEAT. 11 by the template 'for every input the law returns true; each argument reads behind the call as it read before'; 0 by the template 'total and deterministic' (their statements: YtbcojbmalcghbaaDoorTotals.lean).
  GIVEN WITH THE SEED: the statements are not yours to turn. If you find one false, say at which input.
  Laid BY PROGRAM, IN A SANDBOX (cutbox-rows.mjs): the forced cells as the released guide's own fill.sh prints them over the translation 728475c579809ca6… (all of the seat's roots in one cut). By AI agents, Wed Nov 11 2026. No macro, syntax, notation, axiom, sorry.
-/
import Derived.Test.YtbcojbmalcghbaaDoorChecked
import GoSem.Claim
import GoSem.ClaimJoined
import GoSem.ClaimMapViews
import Derived.JoinedTies
import Derived.KernelRfl
namespace Go.Proofs.YtbcojbmalcghbaaDoor
/- THE CELL 'sum', in the pinned program and in every row, IS THE sha256 OF THE DUMP (.gsa) THAT YtbcojbmalcghbaaDoorProg.lean LOADS. Nothing in Lean hashes anything: it is a label: what it is worth is what the hold of that sum in a sandbox is worth. -/
noncomputable def Tryd.pinned : Pinned := { name := "ytbcojbmalcghbaadoor", sum := "728475c579809ca610f26fa27501d80234ad30bc16480e9b8229fccd2def8956", checked := Tryd.checked }
namespace Rows
def none {H : Type} : Left H := { results := [], args := [] }

/- WHAT THE LISTED PACKAGE-LEVEL VARIABLES READ AS WHEN THE CALL BEGINS. Each datum BY PROGRAM (the guide's laid-datum.mjs) off the statement by which the dump's own 'gosem.cut.vars' lays the variable. In a bare row this is a premise. The card (YtbcojbmalcghbaaDoorCards.lean) ties it to the program's text. -/
def laid_joinery_ins_shapes {H : Type} : DataW H := .agg [.agg [.lit (.string [99, 111, 110, 115, 116]), .lit (.string [100, 78])], .agg [.lit (.string [109, 111, 118]), .lit (.string [100, 97])], .agg [.lit (.string [115, 119, 97, 112]), .lit (.string [100, 97])], .agg [.lit (.string [97, 100, 100]), .lit (.string [68, 65, 66])], .agg [.lit (.string [115, 117, 98]), .lit (.string [68, 65, 66])], .agg [.lit (.string [109, 117, 108]), .lit (.string [68, 65, 66])], .agg [.lit (.string [100, 105, 118]), .lit (.string [68, 65, 66])], .agg [.lit (.string [97, 110, 100]), .lit (.string [68, 65, 66])], .agg [.lit (.string [111, 114]), .lit (.string [68, 65, 66])], .agg [.lit (.string [120, 111, 114]), .lit (.string [68, 65, 66])], .agg [.lit (.string [108, 101, 115, 115]), .lit (.string [68, 65, 66])], .agg [.lit (.string [115, 97, 109, 101]), .lit (.string [68, 65, 66])], .agg [.lit (.string [108, 111, 97, 100]), .lit (.string [68, 65])], .agg [.lit (.string [115, 116, 111, 114, 101]), .lit (.string [65, 66])], .agg [.lit (.string [99, 97, 108, 108]), .lit (.string [68, 65, 78])], .agg [.lit (.string [106, 117, 109, 112]), .lit (.string [84])], .agg [.lit (.string [122, 101, 114, 111]), .lit (.string [65, 84])], .agg [.lit (.string [114, 101, 116]), .lit (.string [65])]]
def laid_joinery_shape_kinds {H : Type} : DataW H := .agg [.agg [.lit (.string [99, 117, 116]), .lit (.int .i64 0), .lit (.int .i64 0), .lit (.bool false)], .agg [.lit (.string []), .lit (.int .i64 0), .lit (.int .i64 0), .lit (.bool false)], .agg [.lit (.string []), .lit (.int .i64 0), .lit (.int .i64 0), .lit (.bool false)], .agg [.lit (.string []), .lit (.int .i64 0), .lit (.int .i64 0), .lit (.bool false)], .agg [.lit (.string [97, 100, 100]), .lit (.int .i64 2), .lit (.int .i64 1), .lit (.bool true)], .agg [.lit (.string [115, 117, 98]), .lit (.int .i64 2), .lit (.int .i64 1), .lit (.bool true)], .agg [.lit (.string [109, 117, 108]), .lit (.int .i64 2), .lit (.int .i64 1), .lit (.bool true)], .agg [.lit (.string [100, 105, 118]), .lit (.int .i64 2), .lit (.int .i64 1), .lit (.bool true)], .agg [.lit (.string [97, 110, 100]), .lit (.int .i64 2), .lit (.int .i64 1), .lit (.bool true)], .agg [.lit (.string [111, 114]), .lit (.int .i64 2), .lit (.int .i64 1), .lit (.bool true)], .agg [.lit (.string [120, 111, 114]), .lit (.int .i64 2), .lit (.int .i64 1), .lit (.bool true)], .agg [.lit (.string [108, 101, 115, 115]), .lit (.int .i64 2), .lit (.int .i64 1), .lit (.bool true)], .agg [.lit (.string [115, 97, 109, 101]), .lit (.int .i64 2), .lit (.int .i64 1), .lit (.bool true)], .agg [.lit (.string [108, 111, 97, 100]), .lit (.int .i64 1), .lit (.int .i64 1), .lit (.bool true)], .agg [.lit (.string [115, 116, 111, 114, 101]), .lit (.int .i64 2), .lit (.int .i64 1), .lit (.bool false)], .agg [.lit (.string [99, 97, 108, 108]), .lit (.int .i64 1), .lit (.int .i64 1), .lit (.bool true)], .agg [.lit (.string []), .lit (.int .i64 0), .lit (.int .i64 0), .lit (.bool false)], .agg [.lit (.string [122, 101, 114, 111]), .lit (.int .i64 1), .lit (.int .i64 2), .lit (.bool false)], .agg [.lit (.string [114, 101, 116]), .lit (.int .i64 1), .lit (.int .i64 0), .lit (.bool false)]]
def laid_joinery_value_open {H : Type} : DataW H := .agg [.lit (.int .i64 (-1)), .lit (.int .i64 0)]

/-- 'joinerylaw16.MatchFirst': WHATEVER THE INPUT: true; the input reads as it did. -/
def matchFirstSpec : ChangeSpec := { name := "matchFirst", fn := fun _ => fun
  | [d1, d2] => { results := [.lit (.bool true)], args := [d1, d2] }
  | _ => none }
def matchFirstRow : OpenClaim := { program := "ytbcojbmalcghbaadoor", sum := "728475c579809ca610f26fa27501d80234ad30bc16480e9b8229fccd2def8956", func := "joinery/joinerylaw16.MatchFirst", spec := "matchFirst", unfollowed := true, recurses := true, named := ["joinery/ins.shapes", "joinery/value.open", "joinery/shape.kinds"], plainKeys := false, apart := false, laid := [("joinery/ins.shapes", laid_joinery_ins_shapes), ("joinery/shape.kinds", laid_joinery_shape_kinds), ("joinery/value.open", laid_joinery_value_open)] }
def MatchFirstSaid : Prop := matchFirstRow.holds Tryd.pinned (OpenSpec.ofChange matchFirstSpec)

/-- ITS FALSE NEIGHBOUR: 'it returns false'. Refute it at one input. -/
def matchFirstWrong : ChangeSpec := { name := "matchFirst", fn := fun _ => fun
  | [d1, d2] => { results := [.lit (.bool false)], args := [d1, d2] }
  | _ => none }
def MatchFirstWrongFalsely : Prop := matchFirstRow.holds Tryd.pinned (OpenSpec.ofChange matchFirstWrong)

/-- 'joinerylaw16.MatchNone': WHATEVER THE INPUT: true; the input reads as it did. -/
def matchNoneSpec : ChangeSpec := { name := "matchNone", fn := fun _ => fun
  | [d1, d2] => { results := [.lit (.bool true)], args := [d1, d2] }
  | _ => none }
def matchNoneRow : OpenClaim := { program := "ytbcojbmalcghbaadoor", sum := "728475c579809ca610f26fa27501d80234ad30bc16480e9b8229fccd2def8956", func := "joinery/joinerylaw16.MatchNone", spec := "matchNone", unfollowed := true, recurses := true, named := ["joinery/ins.shapes", "joinery/value.open", "joinery/shape.kinds"], plainKeys := false, apart := false, laid := [("joinery/ins.shapes", laid_joinery_ins_shapes), ("joinery/shape.kinds", laid_joinery_shape_kinds), ("joinery/value.open", laid_joinery_value_open)] }
def MatchNoneSaid : Prop := matchNoneRow.holds Tryd.pinned (OpenSpec.ofChange matchNoneSpec)

/-- ITS FALSE NEIGHBOUR: 'it returns false'. Refute it at one input. -/
def matchNoneWrong : ChangeSpec := { name := "matchNone", fn := fun _ => fun
  | [d1, d2] => { results := [.lit (.bool false)], args := [d1, d2] }
  | _ => none }
def MatchNoneWrongFalsely : Prop := matchNoneRow.holds Tryd.pinned (OpenSpec.ofChange matchNoneWrong)

/-- 'joinerylaw16.MatchAlike': WHATEVER THE INPUT: true; the input reads as it did. -/
def matchAlikeSpec : ChangeSpec := { name := "matchAlike", fn := fun _ => fun
  | [d1, d2, d3] => { results := [.lit (.bool true)], args := [d1, d2, d3] }
  | _ => none }
def matchAlikeRow : OpenClaim := { program := "ytbcojbmalcghbaadoor", sum := "728475c579809ca610f26fa27501d80234ad30bc16480e9b8229fccd2def8956", func := "joinery/joinerylaw16.MatchAlike", spec := "matchAlike", unfollowed := true, recurses := true, named := ["joinery/ins.shapes", "joinery/value.open", "joinery/shape.kinds"], plainKeys := false, apart := false, laid := [("joinery/ins.shapes", laid_joinery_ins_shapes), ("joinery/shape.kinds", laid_joinery_shape_kinds), ("joinery/value.open", laid_joinery_value_open)] }
def MatchAlikeSaid : Prop := matchAlikeRow.holds Tryd.pinned (OpenSpec.ofChange matchAlikeSpec)

/-- ITS FALSE NEIGHBOUR: 'it returns false'. Refute it at one input. -/
def matchAlikeWrong : ChangeSpec := { name := "matchAlike", fn := fun _ => fun
  | [d1, d2, d3] => { results := [.lit (.bool false)], args := [d1, d2, d3] }
  | _ => none }
def MatchAlikeWrongFalsely : Prop := matchAlikeRow.holds Tryd.pinned (OpenSpec.ofChange matchAlikeWrong)

/-- 'joinerylaw16.MatchSelf': WHATEVER THE INPUT: true; the input reads as it did. -/
def matchSelfSpec : ChangeSpec := { name := "matchSelf", fn := fun _ => fun
  | [d1, d2] => { results := [.lit (.bool true)], args := [d1, d2] }
  | _ => none }
def matchSelfRow : OpenClaim := { program := "ytbcojbmalcghbaadoor", sum := "728475c579809ca610f26fa27501d80234ad30bc16480e9b8229fccd2def8956", func := "joinery/joinerylaw16.MatchSelf", spec := "matchSelf", unfollowed := true, recurses := true, named := ["joinery/ins.shapes", "joinery/value.open", "joinery/shape.kinds"], plainKeys := false, apart := false, laid := [("joinery/ins.shapes", laid_joinery_ins_shapes), ("joinery/shape.kinds", laid_joinery_shape_kinds), ("joinery/value.open", laid_joinery_value_open)] }
def MatchSelfSaid : Prop := matchSelfRow.holds Tryd.pinned (OpenSpec.ofChange matchSelfSpec)

/-- ITS FALSE NEIGHBOUR: 'it returns false'. Refute it at one input. -/
def matchSelfWrong : ChangeSpec := { name := "matchSelf", fn := fun _ => fun
  | [d1, d2] => { results := [.lit (.bool false)], args := [d1, d2] }
  | _ => none }
def MatchSelfWrongFalsely : Prop := matchSelfRow.holds Tryd.pinned (OpenSpec.ofChange matchSelfWrong)

/-- 'joinerylaw16.MatchAhead': WHATEVER THE INPUT: true; the input reads as it did. -/
def matchAheadSpec : ChangeSpec := { name := "matchAhead", fn := fun _ => fun
  | [d1, d2] => { results := [.lit (.bool true)], args := [d1, d2] }
  | _ => none }
def matchAheadRow : OpenClaim := { program := "ytbcojbmalcghbaadoor", sum := "728475c579809ca610f26fa27501d80234ad30bc16480e9b8229fccd2def8956", func := "joinery/joinerylaw16.MatchAhead", spec := "matchAhead", unfollowed := true, recurses := true, named := ["joinery/ins.shapes", "joinery/value.open", "joinery/shape.kinds"], plainKeys := false, apart := false, laid := [("joinery/ins.shapes", laid_joinery_ins_shapes), ("joinery/shape.kinds", laid_joinery_shape_kinds), ("joinery/value.open", laid_joinery_value_open)] }
def MatchAheadSaid : Prop := matchAheadRow.holds Tryd.pinned (OpenSpec.ofChange matchAheadSpec)

/-- ITS FALSE NEIGHBOUR: 'it returns false'. Refute it at one input. -/
def matchAheadWrong : ChangeSpec := { name := "matchAhead", fn := fun _ => fun
  | [d1, d2] => { results := [.lit (.bool false)], args := [d1, d2] }
  | _ => none }
def MatchAheadWrongFalsely : Prop := matchAheadRow.holds Tryd.pinned (OpenSpec.ofChange matchAheadWrong)

/-- 'joinerylaw14.ShapePrints': WHATEVER THE INPUT: true; the input reads as it did. -/
def shapePrintsSpec : ChangeSpec := { name := "shapePrints", fn := fun _ => fun
  | [d1, d2] => { results := [.lit (.bool true)], args := [d1, d2] }
  | _ => none }
def shapePrintsRow : OpenClaim := { program := "ytbcojbmalcghbaadoor", sum := "728475c579809ca610f26fa27501d80234ad30bc16480e9b8229fccd2def8956", func := "joinery/joinerylaw14.ShapePrints", spec := "shapePrints", unfollowed := true, recurses := true, named := ["joinery/ins.shapes", "joinery/value.open", "joinery/shape.kinds"], plainKeys := false, apart := false, laid := [("joinery/ins.shapes", laid_joinery_ins_shapes), ("joinery/shape.kinds", laid_joinery_shape_kinds), ("joinery/value.open", laid_joinery_value_open)] }
def ShapePrintsSaid : Prop := shapePrintsRow.holds Tryd.pinned (OpenSpec.ofChange shapePrintsSpec)

/-- ITS FALSE NEIGHBOUR: 'it returns false'. Refute it at one input. -/
def shapePrintsWrong : ChangeSpec := { name := "shapePrints", fn := fun _ => fun
  | [d1, d2] => { results := [.lit (.bool false)], args := [d1, d2] }
  | _ => none }
def ShapePrintsWrongFalsely : Prop := shapePrintsRow.holds Tryd.pinned (OpenSpec.ofChange shapePrintsWrong)

/-- 'joinerylaw14.ShapeParses': WHATEVER THE INPUT: true; the input reads as it did. -/
def shapeParsesSpec : ChangeSpec := { name := "shapeParses", fn := fun _ => fun
  | [d] => { results := [.lit (.bool true)], args := [d] }
  | _ => none }
def shapeParsesRow : OpenClaim := { program := "ytbcojbmalcghbaadoor", sum := "728475c579809ca610f26fa27501d80234ad30bc16480e9b8229fccd2def8956", func := "joinery/joinerylaw14.ShapeParses", spec := "shapeParses", unfollowed := true, recurses := true, named := ["joinery/ins.shapes", "joinery/value.open", "joinery/shape.kinds"], plainKeys := false, apart := false, laid := [("joinery/ins.shapes", laid_joinery_ins_shapes), ("joinery/shape.kinds", laid_joinery_shape_kinds), ("joinery/value.open", laid_joinery_value_open)] }
def ShapeParsesSaid : Prop := shapeParsesRow.holds Tryd.pinned (OpenSpec.ofChange shapeParsesSpec)

/-- ITS FALSE NEIGHBOUR: 'it returns false'. Refute it at one input. -/
def shapeParsesWrong : ChangeSpec := { name := "shapeParses", fn := fun _ => fun
  | [d] => { results := [.lit (.bool false)], args := [d] }
  | _ => none }
def ShapeParsesWrongFalsely : Prop := shapeParsesRow.holds Tryd.pinned (OpenSpec.ofChange shapeParsesWrong)

/-- 'joinerylaw14.ShapeBack': WHATEVER THE INPUT: true; the input reads as it did. -/
def shapeBackSpec : ChangeSpec := { name := "shapeBack", fn := fun _ => fun
  | [d] => { results := [.lit (.bool true)], args := [d] }
  | _ => none }
def shapeBackRow : OpenClaim := { program := "ytbcojbmalcghbaadoor", sum := "728475c579809ca610f26fa27501d80234ad30bc16480e9b8229fccd2def8956", func := "joinery/joinerylaw14.ShapeBack", spec := "shapeBack", unfollowed := true, recurses := true, named := ["joinery/ins.shapes", "joinery/value.open", "joinery/shape.kinds"], plainKeys := false, apart := false, laid := [("joinery/ins.shapes", laid_joinery_ins_shapes), ("joinery/shape.kinds", laid_joinery_shape_kinds), ("joinery/value.open", laid_joinery_value_open)] }
def ShapeBackSaid : Prop := shapeBackRow.holds Tryd.pinned (OpenSpec.ofChange shapeBackSpec)

/-- ITS FALSE NEIGHBOUR: 'it returns false'. Refute it at one input. -/
def shapeBackWrong : ChangeSpec := { name := "shapeBack", fn := fun _ => fun
  | [d] => { results := [.lit (.bool false)], args := [d] }
  | _ => none }
def ShapeBackWrongFalsely : Prop := shapeBackRow.holds Tryd.pinned (OpenSpec.ofChange shapeBackWrong)

/-- 'joinerylaw14.ShapeApart': WHATEVER THE INPUT: true; the input reads as it did. -/
def shapeApartSpec : ChangeSpec := { name := "shapeApart", fn := fun _ => fun
  | [d1, d2] => { results := [.lit (.bool true)], args := [d1, d2] }
  | _ => none }
def shapeApartRow : OpenClaim := { program := "ytbcojbmalcghbaadoor", sum := "728475c579809ca610f26fa27501d80234ad30bc16480e9b8229fccd2def8956", func := "joinery/joinerylaw14.ShapeApart", spec := "shapeApart", unfollowed := true, recurses := true, named := ["joinery/ins.shapes", "joinery/value.open", "joinery/shape.kinds"], plainKeys := false, apart := false, laid := [("joinery/ins.shapes", laid_joinery_ins_shapes), ("joinery/shape.kinds", laid_joinery_shape_kinds), ("joinery/value.open", laid_joinery_value_open)] }
def ShapeApartSaid : Prop := shapeApartRow.holds Tryd.pinned (OpenSpec.ofChange shapeApartSpec)

/-- ITS FALSE NEIGHBOUR: 'it returns false'. Refute it at one input. -/
def shapeApartWrong : ChangeSpec := { name := "shapeApart", fn := fun _ => fun
  | [d1, d2] => { results := [.lit (.bool false)], args := [d1, d2] }
  | _ => none }
def ShapeApartWrongFalsely : Prop := shapeApartRow.holds Tryd.pinned (OpenSpec.ofChange shapeApartWrong)

/-- 'joinerylaw14.ShapeCut': WHATEVER THE INPUT: true; the input reads as it did. -/
def shapeCutSpec : ChangeSpec := { name := "shapeCut", fn := fun _ => fun
  | [d] => { results := [.lit (.bool true)], args := [d] }
  | _ => none }
def shapeCutRow : OpenClaim := { program := "ytbcojbmalcghbaadoor", sum := "728475c579809ca610f26fa27501d80234ad30bc16480e9b8229fccd2def8956", func := "joinery/joinerylaw14.ShapeCut", spec := "shapeCut", unfollowed := true, recurses := true, named := ["joinery/ins.shapes", "joinery/value.open", "joinery/shape.kinds"], plainKeys := false, apart := false, laid := [("joinery/ins.shapes", laid_joinery_ins_shapes), ("joinery/shape.kinds", laid_joinery_shape_kinds), ("joinery/value.open", laid_joinery_value_open)] }
def ShapeCutSaid : Prop := shapeCutRow.holds Tryd.pinned (OpenSpec.ofChange shapeCutSpec)

/-- ITS FALSE NEIGHBOUR: 'it returns false'. Refute it at one input. -/
def shapeCutWrong : ChangeSpec := { name := "shapeCut", fn := fun _ => fun
  | [d] => { results := [.lit (.bool false)], args := [d] }
  | _ => none }
def ShapeCutWrongFalsely : Prop := shapeCutRow.holds Tryd.pinned (OpenSpec.ofChange shapeCutWrong)

/-- 'joinerylaw14.ShapeWays': WHATEVER THE INPUT: true; the input reads as it did. -/
def shapeWaysSpec : ChangeSpec := { name := "shapeWays", fn := fun _ => fun
  | [d] => { results := [.lit (.bool true)], args := [d] }
  | _ => none }
def shapeWaysRow : OpenClaim := { program := "ytbcojbmalcghbaadoor", sum := "728475c579809ca610f26fa27501d80234ad30bc16480e9b8229fccd2def8956", func := "joinery/joinerylaw14.ShapeWays", spec := "shapeWays", unfollowed := true, recurses := true, named := ["joinery/ins.shapes", "joinery/value.open", "joinery/shape.kinds"], plainKeys := false, apart := false, laid := [("joinery/ins.shapes", laid_joinery_ins_shapes), ("joinery/shape.kinds", laid_joinery_shape_kinds), ("joinery/value.open", laid_joinery_value_open)] }
def ShapeWaysSaid : Prop := shapeWaysRow.holds Tryd.pinned (OpenSpec.ofChange shapeWaysSpec)

/-- ITS FALSE NEIGHBOUR: 'it returns false'. Refute it at one input. -/
def shapeWaysWrong : ChangeSpec := { name := "shapeWays", fn := fun _ => fun
  | [d] => { results := [.lit (.bool false)], args := [d] }
  | _ => none }
def ShapeWaysWrongFalsely : Prop := shapeWaysRow.holds Tryd.pinned (OpenSpec.ofChange shapeWaysWrong)

/- THE SECOND FORM. 'bulk': how many values and letters a reading holds, each counted each time it is reached (what is shared counts as often as it is met; a slice's spare places count too). A statement '..UptoSaid' is the law's where the arguments, and the package variables that the reading takes, are together of bulk at most 1048576: NARROWER than '..Said'. Prove '..Said' where nothing that the law and all that it calls make is longer than what came in: it says more and counts as full. Else prove '..UptoSaid'. A law counts once. -/
mutual
def uptoBulk {H : Type} : DataW H → Nat
  | .lit (.string bytes) => bytes.length + 1
  | .lit _ => 1
  | .nil => 1
  | .ptr d => uptoBulk d + 1
  | .slice elems spare => uptoBulkAll elems + uptoBulkAll spare + 1
  | .agg parts => uptoBulkAll parts + 1
  | .iface _ d => uptoBulk d + 1
  | .map entries => uptoBulkEntries entries + 1
  | .held _ => 1
def uptoBulkAll {H : Type} : List (DataW H) → Nat
  | [] => 0
  | d :: r => uptoBulk d + uptoBulkAll r
def uptoBulkEntries {H : Type} : List (Lit × DataW H) → Nat
  | [] => 0
  | x :: r => uptoBulkEntry x + uptoBulkEntries r
def uptoBulkEntry {H : Type} : Lit × DataW H → Nat
  | (.string bytes, d) => bytes.length + uptoBulk d + 1
  | (_, d) => uptoBulk d + 1
 end
def uptoSmall : (H : Type) → List (DataW H) → Bool := fun _ ds => decide (uptoBulkAll ds ≤ 1048576)
def OpenSpec.upto (s : _root_.Go.ChangeSpec) : _root_.Go.OpenSpec := { _root_.Go.OpenSpec.ofChange s with cond := some uptoSmall }

/-- 'joinerylaw16.MatchFirst', WHERE WHAT IT READS IS OF BULK AT MOST 1048576: true; the input reads as it did. -/
def matchFirstUptoRow : OpenClaim := { program := "ytbcojbmalcghbaadoor", sum := "728475c579809ca610f26fa27501d80234ad30bc16480e9b8229fccd2def8956", func := "joinery/joinerylaw16.MatchFirst", spec := "matchFirst", unfollowed := true, recurses := true, named := ["joinery/ins.shapes", "joinery/value.open", "joinery/shape.kinds"], plainKeys := false, apart := false, laid := [("joinery/ins.shapes", laid_joinery_ins_shapes), ("joinery/shape.kinds", laid_joinery_shape_kinds), ("joinery/value.open", laid_joinery_value_open)], narrowed := true }
def MatchFirstUptoSaid : Prop := matchFirstUptoRow.holds Tryd.pinned (OpenSpec.upto matchFirstSpec)

/-- 'joinerylaw16.MatchNone', WHERE WHAT IT READS IS OF BULK AT MOST 1048576: true; the input reads as it did. -/
def matchNoneUptoRow : OpenClaim := { program := "ytbcojbmalcghbaadoor", sum := "728475c579809ca610f26fa27501d80234ad30bc16480e9b8229fccd2def8956", func := "joinery/joinerylaw16.MatchNone", spec := "matchNone", unfollowed := true, recurses := true, named := ["joinery/ins.shapes", "joinery/value.open", "joinery/shape.kinds"], plainKeys := false, apart := false, laid := [("joinery/ins.shapes", laid_joinery_ins_shapes), ("joinery/shape.kinds", laid_joinery_shape_kinds), ("joinery/value.open", laid_joinery_value_open)], narrowed := true }
def MatchNoneUptoSaid : Prop := matchNoneUptoRow.holds Tryd.pinned (OpenSpec.upto matchNoneSpec)

/-- 'joinerylaw16.MatchAlike', WHERE WHAT IT READS IS OF BULK AT MOST 1048576: true; the input reads as it did. -/
def matchAlikeUptoRow : OpenClaim := { program := "ytbcojbmalcghbaadoor", sum := "728475c579809ca610f26fa27501d80234ad30bc16480e9b8229fccd2def8956", func := "joinery/joinerylaw16.MatchAlike", spec := "matchAlike", unfollowed := true, recurses := true, named := ["joinery/ins.shapes", "joinery/value.open", "joinery/shape.kinds"], plainKeys := false, apart := false, laid := [("joinery/ins.shapes", laid_joinery_ins_shapes), ("joinery/shape.kinds", laid_joinery_shape_kinds), ("joinery/value.open", laid_joinery_value_open)], narrowed := true }
def MatchAlikeUptoSaid : Prop := matchAlikeUptoRow.holds Tryd.pinned (OpenSpec.upto matchAlikeSpec)

/-- 'joinerylaw16.MatchSelf', WHERE WHAT IT READS IS OF BULK AT MOST 1048576: true; the input reads as it did. -/
def matchSelfUptoRow : OpenClaim := { program := "ytbcojbmalcghbaadoor", sum := "728475c579809ca610f26fa27501d80234ad30bc16480e9b8229fccd2def8956", func := "joinery/joinerylaw16.MatchSelf", spec := "matchSelf", unfollowed := true, recurses := true, named := ["joinery/ins.shapes", "joinery/value.open", "joinery/shape.kinds"], plainKeys := false, apart := false, laid := [("joinery/ins.shapes", laid_joinery_ins_shapes), ("joinery/shape.kinds", laid_joinery_shape_kinds), ("joinery/value.open", laid_joinery_value_open)], narrowed := true }
def MatchSelfUptoSaid : Prop := matchSelfUptoRow.holds Tryd.pinned (OpenSpec.upto matchSelfSpec)

/-- 'joinerylaw16.MatchAhead', WHERE WHAT IT READS IS OF BULK AT MOST 1048576: true; the input reads as it did. -/
def matchAheadUptoRow : OpenClaim := { program := "ytbcojbmalcghbaadoor", sum := "728475c579809ca610f26fa27501d80234ad30bc16480e9b8229fccd2def8956", func := "joinery/joinerylaw16.MatchAhead", spec := "matchAhead", unfollowed := true, recurses := true, named := ["joinery/ins.shapes", "joinery/value.open", "joinery/shape.kinds"], plainKeys := false, apart := false, laid := [("joinery/ins.shapes", laid_joinery_ins_shapes), ("joinery/shape.kinds", laid_joinery_shape_kinds), ("joinery/value.open", laid_joinery_value_open)], narrowed := true }
def MatchAheadUptoSaid : Prop := matchAheadUptoRow.holds Tryd.pinned (OpenSpec.upto matchAheadSpec)

/-- 'joinerylaw14.ShapePrints', WHERE WHAT IT READS IS OF BULK AT MOST 1048576: true; the input reads as it did. -/
def shapePrintsUptoRow : OpenClaim := { program := "ytbcojbmalcghbaadoor", sum := "728475c579809ca610f26fa27501d80234ad30bc16480e9b8229fccd2def8956", func := "joinery/joinerylaw14.ShapePrints", spec := "shapePrints", unfollowed := true, recurses := true, named := ["joinery/ins.shapes", "joinery/value.open", "joinery/shape.kinds"], plainKeys := false, apart := false, laid := [("joinery/ins.shapes", laid_joinery_ins_shapes), ("joinery/shape.kinds", laid_joinery_shape_kinds), ("joinery/value.open", laid_joinery_value_open)], narrowed := true }
def ShapePrintsUptoSaid : Prop := shapePrintsUptoRow.holds Tryd.pinned (OpenSpec.upto shapePrintsSpec)

/-- 'joinerylaw14.ShapeParses', WHERE WHAT IT READS IS OF BULK AT MOST 1048576: true; the input reads as it did. -/
def shapeParsesUptoRow : OpenClaim := { program := "ytbcojbmalcghbaadoor", sum := "728475c579809ca610f26fa27501d80234ad30bc16480e9b8229fccd2def8956", func := "joinery/joinerylaw14.ShapeParses", spec := "shapeParses", unfollowed := true, recurses := true, named := ["joinery/ins.shapes", "joinery/value.open", "joinery/shape.kinds"], plainKeys := false, apart := false, laid := [("joinery/ins.shapes", laid_joinery_ins_shapes), ("joinery/shape.kinds", laid_joinery_shape_kinds), ("joinery/value.open", laid_joinery_value_open)], narrowed := true }
def ShapeParsesUptoSaid : Prop := shapeParsesUptoRow.holds Tryd.pinned (OpenSpec.upto shapeParsesSpec)

/-- 'joinerylaw14.ShapeBack', WHERE WHAT IT READS IS OF BULK AT MOST 1048576: true; the input reads as it did. -/
def shapeBackUptoRow : OpenClaim := { program := "ytbcojbmalcghbaadoor", sum := "728475c579809ca610f26fa27501d80234ad30bc16480e9b8229fccd2def8956", func := "joinery/joinerylaw14.ShapeBack", spec := "shapeBack", unfollowed := true, recurses := true, named := ["joinery/ins.shapes", "joinery/value.open", "joinery/shape.kinds"], plainKeys := false, apart := false, laid := [("joinery/ins.shapes", laid_joinery_ins_shapes), ("joinery/shape.kinds", laid_joinery_shape_kinds), ("joinery/value.open", laid_joinery_value_open)], narrowed := true }
def ShapeBackUptoSaid : Prop := shapeBackUptoRow.holds Tryd.pinned (OpenSpec.upto shapeBackSpec)

/-- 'joinerylaw14.ShapeApart', WHERE WHAT IT READS IS OF BULK AT MOST 1048576: true; the input reads as it did. -/
def shapeApartUptoRow : OpenClaim := { program := "ytbcojbmalcghbaadoor", sum := "728475c579809ca610f26fa27501d80234ad30bc16480e9b8229fccd2def8956", func := "joinery/joinerylaw14.ShapeApart", spec := "shapeApart", unfollowed := true, recurses := true, named := ["joinery/ins.shapes", "joinery/value.open", "joinery/shape.kinds"], plainKeys := false, apart := false, laid := [("joinery/ins.shapes", laid_joinery_ins_shapes), ("joinery/shape.kinds", laid_joinery_shape_kinds), ("joinery/value.open", laid_joinery_value_open)], narrowed := true }
def ShapeApartUptoSaid : Prop := shapeApartUptoRow.holds Tryd.pinned (OpenSpec.upto shapeApartSpec)

/-- 'joinerylaw14.ShapeCut', WHERE WHAT IT READS IS OF BULK AT MOST 1048576: true; the input reads as it did. -/
def shapeCutUptoRow : OpenClaim := { program := "ytbcojbmalcghbaadoor", sum := "728475c579809ca610f26fa27501d80234ad30bc16480e9b8229fccd2def8956", func := "joinery/joinerylaw14.ShapeCut", spec := "shapeCut", unfollowed := true, recurses := true, named := ["joinery/ins.shapes", "joinery/value.open", "joinery/shape.kinds"], plainKeys := false, apart := false, laid := [("joinery/ins.shapes", laid_joinery_ins_shapes), ("joinery/shape.kinds", laid_joinery_shape_kinds), ("joinery/value.open", laid_joinery_value_open)], narrowed := true }
def ShapeCutUptoSaid : Prop := shapeCutUptoRow.holds Tryd.pinned (OpenSpec.upto shapeCutSpec)

/-- 'joinerylaw14.ShapeWays', WHERE WHAT IT READS IS OF BULK AT MOST 1048576: true; the input reads as it did. -/
def shapeWaysUptoRow : OpenClaim := { program := "ytbcojbmalcghbaadoor", sum := "728475c579809ca610f26fa27501d80234ad30bc16480e9b8229fccd2def8956", func := "joinery/joinerylaw14.ShapeWays", spec := "shapeWays", unfollowed := true, recurses := true, named := ["joinery/ins.shapes", "joinery/value.open", "joinery/shape.kinds"], plainKeys := false, apart := false, laid := [("joinery/ins.shapes", laid_joinery_ins_shapes), ("joinery/shape.kinds", laid_joinery_shape_kinds), ("joinery/value.open", laid_joinery_value_open)], narrowed := true }
def ShapeWaysUptoSaid : Prop := shapeWaysUptoRow.holds Tryd.pinned (OpenSpec.upto shapeWaysSpec)

end Rows
end Go.Proofs.YtbcojbmalcghbaaDoor
