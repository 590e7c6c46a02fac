/-
  NARROWER THAN 'FOR EVERY INPUT', by the rows' own cells (each row's printed sentence says how): ValueAll: laid · ValueFacts: laid · ValueCuts: laid · ValueKinds: laid · ValueNone: laid · ValueTells: laid.
  DERIVED. THE GIVEN ROWS OF THIS SEAT. 6 by the template 'for every input the law returns true; each argument reads behind the call as it read before'; 0 by the template 'total and deterministic' (their statements: YtcehbpimdngjfaaDoorTotals.lean).
  GIVEN WITH THE SEED: the statements are not yours to turn. If you find one false, say at which input.
  Laid BY PROGRAM, IN A SANDBOX (cutbox-rows.mjs): the forced cells as the released guide's own fill.sh prints them over the translation 634e6b4da24539a2… (all of the seat's roots in one cut). By AI agents, Wed Nov 11 2026. No macro, syntax, notation, axiom, sorry.
-/
import Derived.Test.YtcehbpimdngjfaaDoorChecked
import GoSem.Claim
import GoSem.ClaimJoined
import GoSem.ClaimMapViews
import Derived.JoinedTies
import Derived.KernelRfl
namespace Go.Proofs.YtcehbpimdngjfaaDoor
/- THE CELL 'sum', in the pinned program and in every row, IS THE sha256 OF THE DUMP (.gsa) THAT YtcehbpimdngjfaaDoorProg.lean LOADS. Nothing in Lean hashes anything: it is a label: what it is worth is what the hold of that sum in a sandbox is worth. -/
noncomputable def Tryd.pinned : Pinned := { name := "ytcehbpimdngjfaadoor", sum := "634e6b4da24539a269e3bd99d9c535860d50aba8c10b46bd2f38bfe3e3a5faea", checked := Tryd.checked }
namespace Rows
def none {H : Type} : Left H := { results := [], args := [] }

/- WHAT THE LISTED PACKAGE-LEVEL VARIABLES READ AS WHEN THE CALL BEGINS. Each datum BY PROGRAM (the guide's laid-datum.mjs) off the statement by which the dump's own 'gosem.cut.vars' lays the variable. In a bare row this is a premise. The card (YtcehbpimdngjfaaDoorCards.lean) ties it to the program's text. -/
def laid_joinery_ins_shapes {H : Type} : DataW H := .agg [.agg [.lit (.string [99, 111, 110, 115, 116]), .lit (.string [100, 78])], .agg [.lit (.string [109, 111, 118]), .lit (.string [100, 97])], .agg [.lit (.string [115, 119, 97, 112]), .lit (.string [100, 97])], .agg [.lit (.string [97, 100, 100]), .lit (.string [68, 65, 66])], .agg [.lit (.string [115, 117, 98]), .lit (.string [68, 65, 66])], .agg [.lit (.string [109, 117, 108]), .lit (.string [68, 65, 66])], .agg [.lit (.string [100, 105, 118]), .lit (.string [68, 65, 66])], .agg [.lit (.string [97, 110, 100]), .lit (.string [68, 65, 66])], .agg [.lit (.string [111, 114]), .lit (.string [68, 65, 66])], .agg [.lit (.string [120, 111, 114]), .lit (.string [68, 65, 66])], .agg [.lit (.string [108, 101, 115, 115]), .lit (.string [68, 65, 66])], .agg [.lit (.string [115, 97, 109, 101]), .lit (.string [68, 65, 66])], .agg [.lit (.string [108, 111, 97, 100]), .lit (.string [68, 65])], .agg [.lit (.string [115, 116, 111, 114, 101]), .lit (.string [65, 66])], .agg [.lit (.string [99, 97, 108, 108]), .lit (.string [68, 65, 78])], .agg [.lit (.string [106, 117, 109, 112]), .lit (.string [84])], .agg [.lit (.string [122, 101, 114, 111]), .lit (.string [65, 84])], .agg [.lit (.string [114, 101, 116]), .lit (.string [65])]]
def laid_joinery_value_open {H : Type} : DataW H := .agg [.lit (.int .i64 (-1)), .lit (.int .i64 0)]

/-- 'joinerylaw11.ValueAll': WHATEVER THE INPUT: true; the input reads as it did. -/
def valueAllSpec : ChangeSpec := { name := "valueAll", fn := fun _ => fun
  | [d1, d2] => { results := [.lit (.bool true)], args := [d1, d2] }
  | _ => none }
def valueAllRow : OpenClaim := { program := "ytcehbpimdngjfaadoor", sum := "634e6b4da24539a269e3bd99d9c535860d50aba8c10b46bd2f38bfe3e3a5faea", func := "joinery/joinerylaw11.ValueAll", spec := "valueAll", unfollowed := true, recurses := true, named := ["joinery/ins.shapes", "joinery/value.open"], apart := false, laid := [("joinery/ins.shapes", laid_joinery_ins_shapes), ("joinery/value.open", laid_joinery_value_open)] }
def ValueAllSaid : Prop := valueAllRow.holds Tryd.pinned (OpenSpec.ofChange valueAllSpec)

/-- ITS FALSE NEIGHBOUR: 'it returns false'. Refute it at one input. -/
def valueAllWrong : ChangeSpec := { name := "valueAll", fn := fun _ => fun
  | [d1, d2] => { results := [.lit (.bool false)], args := [d1, d2] }
  | _ => none }
def ValueAllWrongFalsely : Prop := valueAllRow.holds Tryd.pinned (OpenSpec.ofChange valueAllWrong)

/-- 'joinerylaw11.ValueFacts': WHATEVER THE INPUT: true; the input reads as it did. -/
def valueFactsSpec : ChangeSpec := { name := "valueFacts", fn := fun _ => fun
  | [d1, d2] => { results := [.lit (.bool true)], args := [d1, d2] }
  | _ => none }
def valueFactsRow : OpenClaim := { program := "ytcehbpimdngjfaadoor", sum := "634e6b4da24539a269e3bd99d9c535860d50aba8c10b46bd2f38bfe3e3a5faea", func := "joinery/joinerylaw11.ValueFacts", spec := "valueFacts", unfollowed := true, recurses := true, named := ["joinery/ins.shapes", "joinery/value.open"], apart := false, laid := [("joinery/ins.shapes", laid_joinery_ins_shapes), ("joinery/value.open", laid_joinery_value_open)] }
def ValueFactsSaid : Prop := valueFactsRow.holds Tryd.pinned (OpenSpec.ofChange valueFactsSpec)

/-- ITS FALSE NEIGHBOUR: 'it returns false'. Refute it at one input. -/
def valueFactsWrong : ChangeSpec := { name := "valueFacts", fn := fun _ => fun
  | [d1, d2] => { results := [.lit (.bool false)], args := [d1, d2] }
  | _ => none }
def ValueFactsWrongFalsely : Prop := valueFactsRow.holds Tryd.pinned (OpenSpec.ofChange valueFactsWrong)

/-- 'joinerylaw11.ValueCuts': WHATEVER THE INPUT: true; the input reads as it did. -/
def valueCutsSpec : ChangeSpec := { name := "valueCuts", fn := fun _ => fun
  | [d] => { results := [.lit (.bool true)], args := [d] }
  | _ => none }
def valueCutsRow : OpenClaim := { program := "ytcehbpimdngjfaadoor", sum := "634e6b4da24539a269e3bd99d9c535860d50aba8c10b46bd2f38bfe3e3a5faea", func := "joinery/joinerylaw11.ValueCuts", spec := "valueCuts", unfollowed := true, recurses := true, named := ["joinery/ins.shapes", "joinery/value.open"], apart := false, laid := [("joinery/ins.shapes", laid_joinery_ins_shapes), ("joinery/value.open", laid_joinery_value_open)] }
def ValueCutsSaid : Prop := valueCutsRow.holds Tryd.pinned (OpenSpec.ofChange valueCutsSpec)

/-- ITS FALSE NEIGHBOUR: 'it returns false'. Refute it at one input. -/
def valueCutsWrong : ChangeSpec := { name := "valueCuts", fn := fun _ => fun
  | [d] => { results := [.lit (.bool false)], args := [d] }
  | _ => none }
def ValueCutsWrongFalsely : Prop := valueCutsRow.holds Tryd.pinned (OpenSpec.ofChange valueCutsWrong)

/-- 'joinerylaw11.ValueKinds': WHATEVER THE INPUT: true; the input reads as it did. -/
def valueKindsSpec : ChangeSpec := { name := "valueKinds", fn := fun _ => fun
  | [d1, d2] => { results := [.lit (.bool true)], args := [d1, d2] }
  | _ => none }
def valueKindsRow : OpenClaim := { program := "ytcehbpimdngjfaadoor", sum := "634e6b4da24539a269e3bd99d9c535860d50aba8c10b46bd2f38bfe3e3a5faea", func := "joinery/joinerylaw11.ValueKinds", spec := "valueKinds", unfollowed := true, recurses := true, named := ["joinery/ins.shapes", "joinery/value.open"], apart := false, laid := [("joinery/ins.shapes", laid_joinery_ins_shapes), ("joinery/value.open", laid_joinery_value_open)] }
def ValueKindsSaid : Prop := valueKindsRow.holds Tryd.pinned (OpenSpec.ofChange valueKindsSpec)

/-- ITS FALSE NEIGHBOUR: 'it returns false'. Refute it at one input. -/
def valueKindsWrong : ChangeSpec := { name := "valueKinds", fn := fun _ => fun
  | [d1, d2] => { results := [.lit (.bool false)], args := [d1, d2] }
  | _ => none }
def ValueKindsWrongFalsely : Prop := valueKindsRow.holds Tryd.pinned (OpenSpec.ofChange valueKindsWrong)

/-- 'joinerylaw11.ValueNone': WHATEVER THE INPUT: true; the input reads as it did. -/
def valueNoneSpec : ChangeSpec := { name := "valueNone", fn := fun _ => fun
  | [d] => { results := [.lit (.bool true)], args := [d] }
  | _ => none }
def valueNoneRow : OpenClaim := { program := "ytcehbpimdngjfaadoor", sum := "634e6b4da24539a269e3bd99d9c535860d50aba8c10b46bd2f38bfe3e3a5faea", func := "joinery/joinerylaw11.ValueNone", spec := "valueNone", unfollowed := true, recurses := true, named := ["joinery/ins.shapes", "joinery/value.open"], apart := false, laid := [("joinery/ins.shapes", laid_joinery_ins_shapes), ("joinery/value.open", laid_joinery_value_open)] }
def ValueNoneSaid : Prop := valueNoneRow.holds Tryd.pinned (OpenSpec.ofChange valueNoneSpec)

/-- ITS FALSE NEIGHBOUR: 'it returns false'. Refute it at one input. -/
def valueNoneWrong : ChangeSpec := { name := "valueNone", fn := fun _ => fun
  | [d] => { results := [.lit (.bool false)], args := [d] }
  | _ => none }
def ValueNoneWrongFalsely : Prop := valueNoneRow.holds Tryd.pinned (OpenSpec.ofChange valueNoneWrong)

/-- 'joinerylaw11.ValueTells': WHATEVER THE INPUT: true; the input reads as it did. -/
def valueTellsSpec : ChangeSpec := { name := "valueTells", fn := fun _ => fun
  | [d1, d2] => { results := [.lit (.bool true)], args := [d1, d2] }
  | _ => none }
def valueTellsRow : OpenClaim := { program := "ytcehbpimdngjfaadoor", sum := "634e6b4da24539a269e3bd99d9c535860d50aba8c10b46bd2f38bfe3e3a5faea", func := "joinery/joinerylaw11.ValueTells", spec := "valueTells", unfollowed := true, recurses := true, named := ["joinery/ins.shapes", "joinery/value.open"], apart := false, laid := [("joinery/ins.shapes", laid_joinery_ins_shapes), ("joinery/value.open", laid_joinery_value_open)] }
def ValueTellsSaid : Prop := valueTellsRow.holds Tryd.pinned (OpenSpec.ofChange valueTellsSpec)

/-- ITS FALSE NEIGHBOUR: 'it returns false'. Refute it at one input. -/
def valueTellsWrong : ChangeSpec := { name := "valueTells", fn := fun _ => fun
  | [d1, d2] => { results := [.lit (.bool false)], args := [d1, d2] }
  | _ => none }
def ValueTellsWrongFalsely : Prop := valueTellsRow.holds Tryd.pinned (OpenSpec.ofChange valueTellsWrong)

/- THE SECOND FORM. 'bulk': how many values and letters a reading holds, each counted each time it is reached (what is shared counts as often as it is met; a slice's spare places count too). A statement '..UptoSaid' is the law's where the arguments, and the package variables that the reading takes, are together of bulk at most 1048576: NARROWER than '..Said'. Prove '..Said' where nothing that the law and all that it calls make is longer than what came in: it says more and counts as full. Else prove '..UptoSaid'. A law counts once. -/
mutual
def uptoBulk {H : Type} : DataW H → Nat
  | .lit (.string bytes) => bytes.length + 1
  | .lit _ => 1
  | .nil => 1
  | .ptr d => uptoBulk d + 1
  | .slice elems spare => uptoBulkAll elems + uptoBulkAll spare + 1
  | .agg parts => uptoBulkAll parts + 1
  | .iface _ d => uptoBulk d + 1
  | .map entries => uptoBulkEntries entries + 1
  | .held _ => 1
def uptoBulkAll {H : Type} : List (DataW H) → Nat
  | [] => 0
  | d :: r => uptoBulk d + uptoBulkAll r
def uptoBulkEntries {H : Type} : List (Lit × DataW H) → Nat
  | [] => 0
  | x :: r => uptoBulkEntry x + uptoBulkEntries r
def uptoBulkEntry {H : Type} : Lit × DataW H → Nat
  | (.string bytes, d) => bytes.length + uptoBulk d + 1
  | (_, d) => uptoBulk d + 1
 end
def uptoSmall : (H : Type) → List (DataW H) → Bool := fun _ ds => decide (uptoBulkAll ds ≤ 1048576)
def OpenSpec.upto (s : _root_.Go.ChangeSpec) : _root_.Go.OpenSpec := { _root_.Go.OpenSpec.ofChange s with cond := some uptoSmall }

/-- 'joinerylaw11.ValueAll', WHERE WHAT IT READS IS OF BULK AT MOST 1048576: true; the input reads as it did. -/
def valueAllUptoRow : OpenClaim := { program := "ytcehbpimdngjfaadoor", sum := "634e6b4da24539a269e3bd99d9c535860d50aba8c10b46bd2f38bfe3e3a5faea", func := "joinery/joinerylaw11.ValueAll", spec := "valueAll", unfollowed := true, recurses := true, named := ["joinery/ins.shapes", "joinery/value.open"], apart := false, laid := [("joinery/ins.shapes", laid_joinery_ins_shapes), ("joinery/value.open", laid_joinery_value_open)], narrowed := true }
def ValueAllUptoSaid : Prop := valueAllUptoRow.holds Tryd.pinned (OpenSpec.upto valueAllSpec)

/-- 'joinerylaw11.ValueFacts', WHERE WHAT IT READS IS OF BULK AT MOST 1048576: true; the input reads as it did. -/
def valueFactsUptoRow : OpenClaim := { program := "ytcehbpimdngjfaadoor", sum := "634e6b4da24539a269e3bd99d9c535860d50aba8c10b46bd2f38bfe3e3a5faea", func := "joinery/joinerylaw11.ValueFacts", spec := "valueFacts", unfollowed := true, recurses := true, named := ["joinery/ins.shapes", "joinery/value.open"], apart := false, laid := [("joinery/ins.shapes", laid_joinery_ins_shapes), ("joinery/value.open", laid_joinery_value_open)], narrowed := true }
def ValueFactsUptoSaid : Prop := valueFactsUptoRow.holds Tryd.pinned (OpenSpec.upto valueFactsSpec)

/-- 'joinerylaw11.ValueCuts', WHERE WHAT IT READS IS OF BULK AT MOST 1048576: true; the input reads as it did. -/
def valueCutsUptoRow : OpenClaim := { program := "ytcehbpimdngjfaadoor", sum := "634e6b4da24539a269e3bd99d9c535860d50aba8c10b46bd2f38bfe3e3a5faea", func := "joinery/joinerylaw11.ValueCuts", spec := "valueCuts", unfollowed := true, recurses := true, named := ["joinery/ins.shapes", "joinery/value.open"], apart := false, laid := [("joinery/ins.shapes", laid_joinery_ins_shapes), ("joinery/value.open", laid_joinery_value_open)], narrowed := true }
def ValueCutsUptoSaid : Prop := valueCutsUptoRow.holds Tryd.pinned (OpenSpec.upto valueCutsSpec)

/-- 'joinerylaw11.ValueKinds', WHERE WHAT IT READS IS OF BULK AT MOST 1048576: true; the input reads as it did. -/
def valueKindsUptoRow : OpenClaim := { program := "ytcehbpimdngjfaadoor", sum := "634e6b4da24539a269e3bd99d9c535860d50aba8c10b46bd2f38bfe3e3a5faea", func := "joinery/joinerylaw11.ValueKinds", spec := "valueKinds", unfollowed := true, recurses := true, named := ["joinery/ins.shapes", "joinery/value.open"], apart := false, laid := [("joinery/ins.shapes", laid_joinery_ins_shapes), ("joinery/value.open", laid_joinery_value_open)], narrowed := true }
def ValueKindsUptoSaid : Prop := valueKindsUptoRow.holds Tryd.pinned (OpenSpec.upto valueKindsSpec)

/-- 'joinerylaw11.ValueNone', WHERE WHAT IT READS IS OF BULK AT MOST 1048576: true; the input reads as it did. -/
def valueNoneUptoRow : OpenClaim := { program := "ytcehbpimdngjfaadoor", sum := "634e6b4da24539a269e3bd99d9c535860d50aba8c10b46bd2f38bfe3e3a5faea", func := "joinery/joinerylaw11.ValueNone", spec := "valueNone", unfollowed := true, recurses := true, named := ["joinery/ins.shapes", "joinery/value.open"], apart := false, laid := [("joinery/ins.shapes", laid_joinery_ins_shapes), ("joinery/value.open", laid_joinery_value_open)], narrowed := true }
def ValueNoneUptoSaid : Prop := valueNoneUptoRow.holds Tryd.pinned (OpenSpec.upto valueNoneSpec)

/-- 'joinerylaw11.ValueTells', WHERE WHAT IT READS IS OF BULK AT MOST 1048576: true; the input reads as it did. -/
def valueTellsUptoRow : OpenClaim := { program := "ytcehbpimdngjfaadoor", sum := "634e6b4da24539a269e3bd99d9c535860d50aba8c10b46bd2f38bfe3e3a5faea", func := "joinery/joinerylaw11.ValueTells", spec := "valueTells", unfollowed := true, recurses := true, named := ["joinery/ins.shapes", "joinery/value.open"], apart := false, laid := [("joinery/ins.shapes", laid_joinery_ins_shapes), ("joinery/value.open", laid_joinery_value_open)], narrowed := true }
def ValueTellsUptoSaid : Prop := valueTellsUptoRow.holds Tryd.pinned (OpenSpec.upto valueTellsSpec)

end Rows
end Go.Proofs.YtcehbpimdngjfaaDoor
