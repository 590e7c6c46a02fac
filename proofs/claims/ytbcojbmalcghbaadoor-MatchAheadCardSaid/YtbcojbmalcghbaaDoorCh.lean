/- What the law of chapter 16 knows: its examples, run in the kernel, one function at a time. -/
import Derived.Test.YtbcojbmalcghbaaDoorCg
set_option linter.unusedSimpArgs false
set_option linter.unusedVariables false
set_option linter.unusedSectionVars false
namespace Go.Proofs.YtbcojbmalcghbaaDoor.M2
open Go
def insR (r : Int) : U := .sl true [[i64 18, i64 0, i64 r, i64 0, i64 0, i64 0]]
def slots : List U := (List.range 24).map fun (n : Nat) => .iface 167 (.agg [i64 (n : Int)])
def skR : U := .agg ([i64 0] ++ slots ++ [.sl true [[i64 0, .sl true []]]])
def row24 (k : Int) : U := .sl true ((List.range 24).map fun (l : Nat) => if l < 8 then [i64 k, i64 (l : Int)] else [i64 0, i64 0])
def factsR : U := .sl true [[row24 4]]
def allR : U := .sl true [[.sl true [[row24 1]]]]
def waysR : U := .sl true [[.sl true [[i64 (-1), i64 0]]]]
def buildR : U := .tup [skR, i64 0]
def cutV (p : Bool) : U := .sl p [[.bool false]]
def cutR : U := .tup [cutV true, i64 0]
def formR (r : Int) : FForm := ⟨0, [⟨18, 0, [(4, 0)], []⟩], [⟨0, [(1, r)]⟩]⟩
def normR (r : Int) : U := .tup [formU (formR r), i64 0]
set_option maxRecDepth 100000 in
theorem facts0_run : isU (M2.call T 60 n_value_Facts [insR 0, skR] []) factsR = true := by kernel_rfl
theorem facts0_brw (st : List Ob) : allM (brwA frzD st) [insR 0, skR] = some [insR 0, skR] := rfl
theorem facts0 : Told T n_value_Facts [insR 0, skR] factsR := told facts0_run rfl facts0_brw
set_option maxRecDepth 100000 in
theorem all0_run : isU (M2.call T 60 n_value_All [insR 0, skR] []) allR = true := by kernel_rfl
theorem all0_brw (st : List Ob) : allM (brwA frzD st) [insR 0, skR] = some [insR 0, skR] := rfl
theorem all0 : Told T n_value_All [insR 0, skR] allR := told all0_run rfl all0_brw
set_option maxRecDepth 100000 in
theorem build0t_run : isU (M2.call T 60 n_skel_Build [insR 0, cutV true] []) buildR = true := by kernel_rfl
theorem build0t_brw (st : List Ob) : allM (brwA frzD st) [insR 0, cutV true] = some [insR 0, cutV true] := rfl
theorem build0t : Told T n_skel_Build [insR 0, cutV true] buildR := told build0t_run rfl build0t_brw
set_option maxRecDepth 100000 in
theorem build0f_run : isU (M2.call T 60 n_skel_Build [insR 0, cutV false] []) buildR = true := by kernel_rfl
theorem build0f_brw (st : List Ob) : allM (brwA frzD st) [insR 0, cutV false] = some [insR 0, cutV false] := rfl
theorem build0f : Told T n_skel_Build [insR 0, cutV false] buildR := told build0f_run rfl build0f_brw
set_option maxRecDepth 100000 in
theorem facts1_run : isU (M2.call T 60 n_value_Facts [insR 1, skR] []) factsR = true := by kernel_rfl
theorem facts1_brw (st : List Ob) : allM (brwA frzD st) [insR 1, skR] = some [insR 1, skR] := rfl
theorem facts1 : Told T n_value_Facts [insR 1, skR] factsR := told facts1_run rfl facts1_brw
set_option maxRecDepth 100000 in
theorem all1_run : isU (M2.call T 60 n_value_All [insR 1, skR] []) allR = true := by kernel_rfl
theorem all1_brw (st : List Ob) : allM (brwA frzD st) [insR 1, skR] = some [insR 1, skR] := rfl
theorem all1 : Told T n_value_All [insR 1, skR] allR := told all1_run rfl all1_brw
set_option maxRecDepth 100000 in
theorem build1t_run : isU (M2.call T 60 n_skel_Build [insR 1, cutV true] []) buildR = true := by kernel_rfl
theorem build1t_brw (st : List Ob) : allM (brwA frzD st) [insR 1, cutV true] = some [insR 1, cutV true] := rfl
theorem build1t : Told T n_skel_Build [insR 1, cutV true] buildR := told build1t_run rfl build1t_brw
set_option maxRecDepth 100000 in
theorem build1f_run : isU (M2.call T 60 n_skel_Build [insR 1, cutV false] []) buildR = true := by kernel_rfl
theorem build1f_brw (st : List Ob) : allM (brwA frzD st) [insR 1, cutV false] = some [insR 1, cutV false] := rfl
theorem build1f : Told T n_skel_Build [insR 1, cutV false] buildR := told build1f_run rfl build1f_brw
set_option maxRecDepth 100000 in
theorem waysR0_run : isU (M2.call T 60 n_skel_Ways [skR] []) waysR = true := by kernel_rfl
theorem waysR0_brw (st : List Ob) : allM (brwA frzD st) [skR] = some [skR] := rfl
theorem waysR0 : Told T n_skel_Ways [skR] waysR := told waysR0_run rfl waysR0_brw
def qA (r : Int) : Orc := qor (qor (tl n_skel_Build [insR r, cutV true] buildR) (tl n_skel_Build [insR r, cutV false] buildR)) (tl n_value_Facts [insR r, skR] factsR)
theorem qA0 : Orcs T (qA 0) := orcs_or (orcs_or (orcs_tl build0t rfl build0t_brw) (orcs_tl build0f rfl build0f_brw)) (orcs_tl facts0 rfl facts0_brw)
set_option maxRecDepth 100000 in
theorem cut0_run : isU (callQ T (qA 0) 60 n_value_Cut [insR 0] []) cutR = true := by kernel_rfl
theorem cut0_brw (st : List Ob) : allM (brwA frzD st) [insR 0] = some [insR 0] := rfl
theorem cut0 : Told T n_value_Cut [insR 0] cutR := toldQ qA0 cut0_run rfl cut0_brw
theorem qA1 : Orcs T (qA 1) := orcs_or (orcs_or (orcs_tl build1t rfl build1t_brw) (orcs_tl build1f rfl build1f_brw)) (orcs_tl facts1 rfl facts1_brw)
set_option maxRecDepth 100000 in
theorem cut1_run : isU (callQ T (qA 1) 60 n_value_Cut [insR 1] []) cutR = true := by kernel_rfl
theorem cut1_brw (st : List Ob) : allM (brwA frzD st) [insR 1] = some [insR 1] := rfl
theorem cut1 : Told T n_value_Cut [insR 1] cutR := toldQ qA1 cut1_run rfl cut1_brw
def qB (r : Int) : Orc := qor (qA r) (qor (tl n_value_Cut [insR r] cutR) (qor (tl n_value_All [insR r, skR] allR) (tl n_skel_Ways [skR] waysR)))
theorem qB0 : Orcs T (qB 0) := orcs_or qA0 (orcs_or (orcs_tl cut0 rfl cut0_brw) (orcs_or (orcs_tl all0 rfl all0_brw) (orcs_tl waysR0 rfl waysR0_brw)))
set_option maxRecDepth 100000 in
theorem norm0_run : isU (callQ T (qB 0) 60 n_norm_Of [insR 0] []) (normR 0) = true := by kernel_rfl
theorem norm0_brw (st : List Ob) : allM (brwA frzD st) [insR 0] = some [insR 0] := rfl
theorem norm0 : Told T n_norm_Of [insR 0] (normR 0) := toldQ qB0 norm0_run rfl norm0_brw
theorem qB1 : Orcs T (qB 1) := orcs_or qA1 (orcs_or (orcs_tl cut1 rfl cut1_brw) (orcs_or (orcs_tl all1 rfl all1_brw) (orcs_tl waysR0 rfl waysR0_brw)))
set_option maxRecDepth 100000 in
theorem norm1_run : isU (callQ T (qB 1) 60 n_norm_Of [insR 1] []) (normR 1) = true := by kernel_rfl
theorem norm1_brw (st : List Ob) : allM (brwA frzD st) [insR 1] = some [insR 1] := rfl
theorem norm1 : Told T n_norm_Of [insR 1] (normR 1) := toldQ qB1 norm1_run rfl norm1_brw
set_option maxRecDepth 100000 in
theorem parse0_run : isU (M2.call T 60 n_asm_Parse [.str [114, 101, 116, 32, 114, 48, 10]] []) (.tup [insR 0, i64 0, i64 0]) = true := by kernel_rfl
theorem parse0_brw (st : List Ob) : allM (brwA frzD st) [.str [114, 101, 116, 32, 114, 48, 10]] = some [.str [114, 101, 116, 32, 114, 48, 10]] := rfl
theorem parse0 : Told T n_asm_Parse [.str [114, 101, 116, 32, 114, 48, 10]] (.tup [insR 0, i64 0, i64 0]) := told parse0_run rfl parse0_brw
set_option maxRecDepth 100000 in
theorem parse1_run : isU (M2.call T 60 n_asm_Parse [.str [114, 101, 116, 32, 114, 49, 10]] []) (.tup [insR 1, i64 0, i64 0]) = true := by kernel_rfl
theorem parse1_brw (st : List Ob) : allM (brwA frzD st) [.str [114, 101, 116, 32, 114, 49, 10]] = some [.str [114, 101, 116, 32, 114, 49, 10]] := rfl
theorem parse1 : Told T n_asm_Parse [.str [114, 101, 116, 32, 114, 49, 10]] (.tup [insR 1, i64 0, i64 0]) := told parse1_run rfl parse1_brw
def qC : Orc := qor (qor (tl n_norm_Of [insR 0] (normR 0)) (tl n_norm_Of [insR 1] (normR 1))) (qor (tl n_asm_Parse [.str [114, 101, 116, 32, 114, 48, 10]] (.tup [insR 0, i64 0, i64 0])) (tl n_asm_Parse [.str [114, 101, 116, 32, 114, 49, 10]] (.tup [insR 1, i64 0, i64 0])))
theorem qC0 : Orcs T qC := orcs_or (orcs_or (orcs_tl norm0 rfl norm0_brw) (orcs_tl norm1 rfl norm1_brw)) (orcs_or (orcs_tl parse0 rfl parse0_brw) (orcs_tl parse1 rfl parse1_brw))
set_option maxRecDepth 100000 in
theorem knows16_run : isU (callQ T qC 60 n_joinerylaw16_knows [] []) (.bool true) = true := by kernel_rfl
theorem knows16_told : Told T n_joinerylaw16_knows [] (.bool true) := toldQ qC0 knows16_run rfl (fun _ => rfl)
theorem knows16_call (st : List Ob) : Cl T n_joinerylaw16_knows [] st (.bool true) st := knows16_told.call st
end Go.Proofs.YtbcojbmalcghbaaDoor.M2
