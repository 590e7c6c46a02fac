/- What the law of chapter 14 knows: its examples, run in the kernel, one function at a time. -/
import Derived.Test.YtbcojbmalcghbaaDoorCg
set_option linter.unusedSimpArgs false
set_option linter.unusedVariables false
set_option linter.unusedSectionVars false
namespace Go.Proofs.YtbcojbmalcghbaaDoor.M2
open Go
def kv0 : U := .str [109, 111, 118, 32, 115, 48, 32, 114, 48, 10, 99, 97, 108, 108, 32, 114, 49, 32, 114, 48, 32, 55, 10, 109, 111, 118, 32, 114, 50, 32, 115, 48, 10, 114, 101, 116, 32, 114, 50, 10]
def kv1 : U := .tup [.sl true [[i64 (2), i64 (8), i64 (0), i64 (0), i64 (0), i64 (0)], [i64 (15), i64 (1), i64 (0), i64 (0), i64 (7), i64 (0)], [i64 (2), i64 (2), i64 (8), i64 (0), i64 (0), i64 (0)], [i64 (18), i64 (0), i64 (2), i64 (0), i64 (0), i64 (0)]], i64 (0), i64 (0)]
set_option maxRecDepth 100000 in
theorem k0_run : isU (callQ T (fun _ _ => none) 80 n_asm_Parse [kv0] []) kv1 = true := by kernel_rfl
theorem k0_brw (st : List Ob) : allM (brwA frzD st) [kv0] = some [kv0] := rfl
theorem k0_told : Told T n_asm_Parse [kv0] kv1 := toldQ ⟨0, orc_nil⟩ k0_run rfl k0_brw
def kq0 : Orc := tl n_asm_Parse [kv0] kv1
theorem kq0_ok : Orcs T kq0 := orcs_tl k0_told rfl k0_brw
def kv2 : U := .sl true [[i64 (2), i64 (8), i64 (0), i64 (0), i64 (0), i64 (0)], [i64 (15), i64 (1), i64 (0), i64 (0), i64 (7), i64 (0)], [i64 (2), i64 (2), i64 (8), i64 (0), i64 (0), i64 (0)], [i64 (18), i64 (0), i64 (2), i64 (0), i64 (0), i64 (0)]]
set_option maxRecDepth 100000 in
theorem k1_run : isU (callQ T kq0 80 n_asm_Right [kv2] []) (.bool true) = true := by kernel_rfl
theorem k1_brw (st : List Ob) : allM (brwA frzD st) [kv2] = some [kv2] := rfl
theorem k1_told : Told T n_asm_Right [kv2] (.bool true) := toldQ kq0_ok k1_run rfl k1_brw
def kq1 : Orc := qor (tl n_asm_Right [kv2] (.bool true)) kq0
theorem kq1_ok : Orcs T kq1 := orcs_or (orcs_tl k1_told rfl k1_brw) kq0_ok
def kv3 : U := .sl false [[.bool false], [.bool false], [.bool false], [.bool false]]
def kv4 : U := .tup [.agg [i64 (0), .iface 167 (.agg [i64 (0)]), .iface 167 (.agg [i64 (1)]), .iface 167 (.agg [i64 (2)]), .iface 167 (.agg [i64 (3)]), .iface 167 (.agg [i64 (4)]), .iface 167 (.agg [i64 (5)]), .iface 167 (.agg [i64 (6)]), .iface 167 (.agg [i64 (7)]), .iface 167 (.agg [i64 (0)]), .iface 167 (.agg [i64 (9)]), .iface 167 (.agg [i64 (10)]), .iface 167 (.agg [i64 (11)]), .iface 167 (.agg [i64 (12)]), .iface 167 (.agg [i64 (13)]), .iface 167 (.agg [i64 (14)]), .iface 167 (.agg [i64 (15)]), .iface 167 (.agg [i64 (16)]), .iface 167 (.agg [i64 (17)]), .iface 167 (.agg [i64 (18)]), .iface 167 (.agg [i64 (19)]), .iface 167 (.agg [i64 (20)]), .iface 167 (.agg [i64 (21)]), .iface 167 (.agg [i64 (22)]), .iface 167 (.agg [i64 (23)]), .sl true [[i64 (1), .sl true [[i64 (1), .iface 167 (.agg [i64 (0)]), .iface 167 (.agg [i64 (1)]), .iface 167 (.agg [i64 (8)]), .iface 167 (.agg [i64 (3)]), .iface 167 (.agg [i64 (4)]), .iface 167 (.agg [i64 (5)]), .iface 167 (.agg [i64 (6)]), .iface 167 (.agg [i64 (7)]), .iface 167 (.agg [i64 (8)]), .iface 167 (.agg [i64 (9)]), .iface 167 (.agg [i64 (10)]), .iface 167 (.agg [i64 (11)]), .iface 167 (.agg [i64 (12)]), .iface 167 (.agg [i64 (13)]), .iface 167 (.agg [i64 (14)]), .iface 167 (.agg [i64 (15)]), .iface 167 (.agg [i64 (16)]), .iface 167 (.agg [i64 (17)]), .iface 167 (.agg [i64 (18)]), .iface 167 (.agg [i64 (19)]), .iface 167 (.agg [i64 (20)]), .iface 167 (.agg [i64 (21)]), .iface 167 (.agg [i64 (22)]), .iface 167 (.agg [i64 (23)])]]], [i64 (3), .sl true []]]], i64 (0)]
set_option maxRecDepth 100000 in
theorem k2_run : isU (callQ T kq1 80 n_skel_Build [kv2, kv3] []) kv4 = true := by kernel_rfl
theorem k2_brw (st : List Ob) : allM (brwA frzD st) [kv2, kv3] = some [kv2, kv3] := rfl
theorem k2_told : Told T n_skel_Build [kv2, kv3] kv4 := toldQ kq1_ok k2_run rfl k2_brw
def kq2 : Orc := qor (tl n_skel_Build [kv2, kv3] kv4) kq1
theorem kq2_ok : Orcs T kq2 := orcs_or (orcs_tl k2_told rfl k2_brw) kq1_ok
def kv5 : U := .sl false [[.bool false], [.bool false], [.bool false], [.bool true]]
set_option maxRecDepth 100000 in
theorem k3_run : isU (callQ T kq2 80 n_skel_Build [kv2, kv5] []) kv4 = true := by kernel_rfl
theorem k3_brw (st : List Ob) : allM (brwA frzD st) [kv2, kv5] = some [kv2, kv5] := rfl
theorem k3_told : Told T n_skel_Build [kv2, kv5] kv4 := toldQ kq2_ok k3_run rfl k3_brw
def kq3 : Orc := qor (tl n_skel_Build [kv2, kv5] kv4) kq2
theorem kq3_ok : Orcs T kq3 := orcs_or (orcs_tl k3_told rfl k3_brw) kq2_ok
def kv6 : U := .agg [i64 (0), .iface 167 (.agg [i64 (0)]), .iface 167 (.agg [i64 (1)]), .iface 167 (.agg [i64 (2)]), .iface 167 (.agg [i64 (3)]), .iface 167 (.agg [i64 (4)]), .iface 167 (.agg [i64 (5)]), .iface 167 (.agg [i64 (6)]), .iface 167 (.agg [i64 (7)]), .iface 167 (.agg [i64 (0)]), .iface 167 (.agg [i64 (9)]), .iface 167 (.agg [i64 (10)]), .iface 167 (.agg [i64 (11)]), .iface 167 (.agg [i64 (12)]), .iface 167 (.agg [i64 (13)]), .iface 167 (.agg [i64 (14)]), .iface 167 (.agg [i64 (15)]), .iface 167 (.agg [i64 (16)]), .iface 167 (.agg [i64 (17)]), .iface 167 (.agg [i64 (18)]), .iface 167 (.agg [i64 (19)]), .iface 167 (.agg [i64 (20)]), .iface 167 (.agg [i64 (21)]), .iface 167 (.agg [i64 (22)]), .iface 167 (.agg [i64 (23)]), .sl true [[i64 (1), .sl true [[i64 (1), .iface 167 (.agg [i64 (0)]), .iface 167 (.agg [i64 (1)]), .iface 167 (.agg [i64 (8)]), .iface 167 (.agg [i64 (3)]), .iface 167 (.agg [i64 (4)]), .iface 167 (.agg [i64 (5)]), .iface 167 (.agg [i64 (6)]), .iface 167 (.agg [i64 (7)]), .iface 167 (.agg [i64 (8)]), .iface 167 (.agg [i64 (9)]), .iface 167 (.agg [i64 (10)]), .iface 167 (.agg [i64 (11)]), .iface 167 (.agg [i64 (12)]), .iface 167 (.agg [i64 (13)]), .iface 167 (.agg [i64 (14)]), .iface 167 (.agg [i64 (15)]), .iface 167 (.agg [i64 (16)]), .iface 167 (.agg [i64 (17)]), .iface 167 (.agg [i64 (18)]), .iface 167 (.agg [i64 (19)]), .iface 167 (.agg [i64 (20)]), .iface 167 (.agg [i64 (21)]), .iface 167 (.agg [i64 (22)]), .iface 167 (.agg [i64 (23)])]]], [i64 (3), .sl true []]]]
set_option maxRecDepth 100000 in
theorem k4_run : isU (callQ T kq3 80 n_value_built [kv2, kv6] []) (.bool true) = true := by kernel_rfl
theorem k4_brw (st : List Ob) : allM (brwA frzD st) [kv2, kv6] = some [kv2, kv6] := rfl
theorem k4_told : Told T n_value_built [kv2, kv6] (.bool true) := toldQ kq3_ok k4_run rfl k4_brw
def kq4 : Orc := qor (tl n_value_built [kv2, kv6] (.bool true)) kq3
theorem kq4_ok : Orcs T kq4 := orcs_or (orcs_tl k4_told rfl k4_brw) kq3_ok
def kv7 : U := .sl true [[.sl true [[i64 (-1), i64 (0)]]], [.sl true [[i64 (0), i64 (0)]]]]
set_option maxRecDepth 100000 in
theorem k5_run : isU (callQ T kq4 80 n_skel_Ways [kv6] []) kv7 = true := by kernel_rfl
theorem k5_brw (st : List Ob) : allM (brwA frzD st) [kv6] = some [kv6] := rfl
theorem k5_told : Told T n_skel_Ways [kv6] kv7 := toldQ kq4_ok k5_run rfl k5_brw
def kq5 : Orc := qor (tl n_skel_Ways [kv6] kv7) kq4
theorem kq5_ok : Orcs T kq5 := orcs_or (orcs_tl k5_told rfl k5_brw) kq4_ok
def kv8 : U := .sl true [[.sl true [[.sl true [[i64 (1), i64 (0)], [i64 (1), i64 (1)], [i64 (1), i64 (2)], [i64 (1), i64 (3)], [i64 (1), i64 (4)], [i64 (1), i64 (5)], [i64 (1), i64 (6)], [i64 (1), i64 (7)], [i64 (1), i64 (0)], [i64 (0), i64 (0)], [i64 (0), i64 (0)], [i64 (0), i64 (0)], [i64 (0), i64 (0)], [i64 (0), i64 (0)], [i64 (0), i64 (0)], [i64 (0), i64 (0)], [i64 (0), i64 (0)], [i64 (0), i64 (0)], [i64 (0), i64 (0)], [i64 (0), i64 (0)], [i64 (0), i64 (0)], [i64 (0), i64 (0)], [i64 (0), i64 (0)], [i64 (0), i64 (0)]]]]], [.sl true [[.sl true [[i64 (4), i64 (0)], [i64 (3), i64 (0)], [i64 (4), i64 (8)], [i64 (4), i64 (3)], [i64 (4), i64 (4)], [i64 (4), i64 (5)], [i64 (4), i64 (6)], [i64 (4), i64 (7)], [i64 (4), i64 (8)], [i64 (4), i64 (9)], [i64 (4), i64 (10)], [i64 (4), i64 (11)], [i64 (4), i64 (12)], [i64 (4), i64 (13)], [i64 (4), i64 (14)], [i64 (4), i64 (15)], [i64 (4), i64 (16)], [i64 (4), i64 (17)], [i64 (4), i64 (18)], [i64 (4), i64 (19)], [i64 (4), i64 (20)], [i64 (4), i64 (21)], [i64 (4), i64 (22)], [i64 (4), i64 (23)]]]]]]
set_option maxRecDepth 100000 in
theorem k6_run : isU (callQ T kq5 80 n_value_All [kv2, kv6] []) kv8 = true := by kernel_rfl
theorem k6_brw (st : List Ob) : allM (brwA frzD st) [kv2, kv6] = some [kv2, kv6] := rfl
theorem k6_told : Told T n_value_All [kv2, kv6] kv8 := toldQ kq5_ok k6_run rfl k6_brw
def kq6 : Orc := qor (tl n_value_All [kv2, kv6] kv8) kq5
theorem kq6_ok : Orcs T kq6 := orcs_or (orcs_tl k6_told rfl k6_brw) kq5_ok
def kv9 : U := .sl true [[.sl true [[i64 (4), i64 (0)], [i64 (4), i64 (1)], [i64 (4), i64 (2)], [i64 (4), i64 (3)], [i64 (4), i64 (4)], [i64 (4), i64 (5)], [i64 (4), i64 (6)], [i64 (4), i64 (7)], [i64 (4), i64 (8)], [i64 (0), i64 (0)], [i64 (0), i64 (0)], [i64 (0), i64 (0)], [i64 (0), i64 (0)], [i64 (0), i64 (0)], [i64 (0), i64 (0)], [i64 (0), i64 (0)], [i64 (0), i64 (0)], [i64 (0), i64 (0)], [i64 (0), i64 (0)], [i64 (0), i64 (0)], [i64 (0), i64 (0)], [i64 (0), i64 (0)], [i64 (0), i64 (0)], [i64 (0), i64 (0)]]], [.sl true [[i64 (4), i64 (0)], [i64 (4), i64 (1)], [i64 (4), i64 (2)], [i64 (4), i64 (3)], [i64 (4), i64 (4)], [i64 (4), i64 (5)], [i64 (4), i64 (6)], [i64 (4), i64 (7)], [i64 (4), i64 (8)], [i64 (0), i64 (0)], [i64 (0), i64 (0)], [i64 (0), i64 (0)], [i64 (0), i64 (0)], [i64 (0), i64 (0)], [i64 (0), i64 (0)], [i64 (0), i64 (0)], [i64 (0), i64 (0)], [i64 (0), i64 (0)], [i64 (0), i64 (0)], [i64 (0), i64 (0)], [i64 (0), i64 (0)], [i64 (0), i64 (0)], [i64 (0), i64 (0)], [i64 (0), i64 (0)]]]]
set_option maxRecDepth 100000 in
theorem k7_run : isU (callQ T kq6 80 n_value_Facts [kv2, kv6] []) kv9 = true := by kernel_rfl
theorem k7_brw (st : List Ob) : allM (brwA frzD st) [kv2, kv6] = some [kv2, kv6] := rfl
theorem k7_told : Told T n_value_Facts [kv2, kv6] kv9 := toldQ kq6_ok k7_run rfl k7_brw
def kq7 : Orc := qor (tl n_value_Facts [kv2, kv6] kv9) kq6
theorem kq7_ok : Orcs T kq7 := orcs_or (orcs_tl k7_told rfl k7_brw) kq6_ok
def kv10 : U := .tup [.sl true [[.bool false], [.bool false], [.bool false], [.bool false]], i64 (0)]
set_option maxRecDepth 100000 in
theorem k8_run : isU (callQ T kq7 80 n_value_Cut [kv2] []) kv10 = true := by kernel_rfl
theorem k8_brw (st : List Ob) : allM (brwA frzD st) [kv2] = some [kv2] := rfl
theorem k8_told : Told T n_value_Cut [kv2] kv10 := toldQ kq7_ok k8_run rfl k8_brw
def kq8 : Orc := qor (tl n_value_Cut [kv2] kv10) kq7
theorem kq8_ok : Orcs T kq8 := orcs_or (orcs_tl k8_told rfl k8_brw) kq7_ok
def kv11 : U := .sl true [[.bool false], [.bool false], [.bool false], [.bool false]]
set_option maxRecDepth 100000 in
theorem k9_run : isU (callQ T kq8 80 n_skel_Build [kv2, kv11] []) kv4 = true := by kernel_rfl
theorem k9_brw (st : List Ob) : allM (brwA frzD st) [kv2, kv11] = some [kv2, kv11] := rfl
theorem k9_told : Told T n_skel_Build [kv2, kv11] kv4 := toldQ kq8_ok k9_run rfl k9_brw
def kq9 : Orc := qor (tl n_skel_Build [kv2, kv11] kv4) kq8
theorem kq9_ok : Orcs T kq9 := orcs_or (orcs_tl k9_told rfl k9_brw) kq8_ok
def kv12 : U := .sl false [[i64 (0), .sl true [[i64 (2), i64 (0)]]], [i64 (0), .sl true [[i64 (2), i64 (1)]]], [i64 (0), .sl true [[i64 (2), i64 (2)]]], [i64 (0), .sl true [[i64 (2), i64 (3)]]], [i64 (0), .sl true [[i64 (2), i64 (4)]]], [i64 (0), .sl true [[i64 (2), i64 (5)]]], [i64 (0), .sl true [[i64 (2), i64 (6)]]], [i64 (0), .sl true [[i64 (2), i64 (7)]]], [i64 (0), .sl true [[i64 (2), i64 (0)]]], [i64 (-1), .sl true []], [i64 (-1), .sl true []], [i64 (-1), .sl true []], [i64 (-1), .sl true []], [i64 (-1), .sl true []], [i64 (-1), .sl true []], [i64 (-1), .sl true []], [i64 (-1), .sl true []], [i64 (-1), .sl true []], [i64 (-1), .sl true []], [i64 (-1), .sl true []], [i64 (-1), .sl true []], [i64 (-1), .sl true []], [i64 (-1), .sl true []], [i64 (-1), .sl true []], [i64 (1), .sl true [[i64 (0), i64 (0)]]], [i64 (1), .sl true [[i64 (4), i64 (0)]]], [i64 (1), .sl true [[i64 (0), i64 (8)]]], [i64 (1), .sl true [[i64 (0), i64 (3)]]], [i64 (1), .sl true [[i64 (0), i64 (4)]]], [i64 (1), .sl true [[i64 (0), i64 (5)]]], [i64 (1), .sl true [[i64 (0), i64 (6)]]], [i64 (1), .sl true [[i64 (0), i64 (7)]]], [i64 (1), .sl true [[i64 (0), i64 (8)]]], [i64 (-1), .sl true []], [i64 (-1), .sl true []], [i64 (-1), .sl true []], [i64 (-1), .sl true []], [i64 (-1), .sl true []], [i64 (-1), .sl true []], [i64 (-1), .sl true []], [i64 (-1), .sl true []], [i64 (-1), .sl true []], [i64 (-1), .sl true []], [i64 (-1), .sl true []], [i64 (-1), .sl true []], [i64 (-1), .sl true []], [i64 (-1), .sl true []], [i64 (-1), .sl true []]]
def kv13 : U := .sl true [[i64 (0)], [i64 (1)], [i64 (2)], [i64 (3)], [i64 (4)], [i64 (5)], [i64 (6)], [i64 (7)], [i64 (0)], [i64 (8)], [i64 (8)], [i64 (8)], [i64 (8)], [i64 (8)], [i64 (8)], [i64 (8)], [i64 (8)], [i64 (8)], [i64 (8)], [i64 (8)], [i64 (8)], [i64 (8)], [i64 (8)], [i64 (8)], [i64 (9)], [i64 (10)], [i64 (9)], [i64 (11)], [i64 (12)], [i64 (13)], [i64 (14)], [i64 (15)], [i64 (9)], [i64 (8)], [i64 (8)], [i64 (8)], [i64 (8)], [i64 (8)], [i64 (8)], [i64 (8)], [i64 (8)], [i64 (8)], [i64 (8)], [i64 (8)], [i64 (8)], [i64 (8)], [i64 (8)], [i64 (8)]]
set_option maxRecDepth 100000 in
theorem k10_run : isU (callQ T kq9 80 n_refine_Classes [kv12] []) kv13 = true := by kernel_rfl
theorem k10_brw (st : List Ob) : allM (brwA frzD st) [kv12] = some [kv12] := rfl
theorem k10_told : Told T n_refine_Classes [kv12] kv13 := toldQ kq9_ok k10_run rfl k10_brw
def kq10 : Orc := qor (tl n_refine_Classes [kv12] kv13) kq9
theorem kq10_ok : Orcs T kq10 := orcs_or (orcs_tl k10_told rfl k10_brw) kq9_ok
def kv14 : U := .tup [.agg [i64 (0), .sl true [[i64 (15), i64 (7), .sl true [[i64 (4), i64 (0)]], .sl true [[i64 (1)]]], [i64 (18), i64 (0), .sl true [[i64 (4), i64 (1)]], .sl true []]], .sl true [[i64 (0), .sl true [[i64 (1), i64 (0)]]], [i64 (1), .sl true [[i64 (4), i64 (0)]]]]], i64 (0)]
set_option maxRecDepth 100000 in
theorem k11_run : isU (callQ T kq10 80 n_norm_Of [kv2] []) kv14 = true := by kernel_rfl
theorem k11_brw (st : List Ob) : allM (brwA frzD st) [kv2] = some [kv2] := rfl
theorem k11_told : Told T n_norm_Of [kv2] kv14 := toldQ kq10_ok k11_run rfl k11_brw
def kq11 : Orc := qor (tl n_norm_Of [kv2] kv14) kq10
theorem kq11_ok : Orcs T kq11 := orcs_or (orcs_tl k11_told rfl k11_brw) kq10_ok
def kv15 : U := .agg [i64 (0), .sl true [[i64 (15), i64 (7), .sl true [[i64 (4), i64 (0)]], .sl true [[i64 (1)]]], [i64 (18), i64 (0), .sl true [[i64 (4), i64 (1)]], .sl true []]], .sl true [[i64 (0), .sl true [[i64 (1), i64 (0)]]], [i64 (1), .sl true [[i64 (4), i64 (0)]]]]]
def kv16 : U := .sl true [[i64 (-1), i64 (0)]]
set_option maxRecDepth 100000 in
theorem k12_run : isU (callQ T kq11 80 n_shape_Ways [kv15, (i64 (0))] []) kv16 = true := by kernel_rfl
theorem k12_brw (st : List Ob) : allM (brwA frzD st) [kv15, (i64 (0))] = some [kv15, (i64 (0))] := rfl
theorem k12_told : Told T n_shape_Ways [kv15, (i64 (0))] kv16 := toldQ kq11_ok k12_run rfl k12_brw
def kq12 : Orc := qor (tl n_shape_Ways [kv15, (i64 (0))] kv16) kq11
theorem kq12_ok : Orcs T kq12 := orcs_or (orcs_tl k12_told rfl k12_brw) kq11_ok
set_option maxRecDepth 100000 in
theorem k13_run : isU (callQ T kq12 80 n_shape_Ways [kv15, (i64 (1))] []) (.sl true [[i64 (0), i64 (0)]]) = true := by kernel_rfl
theorem k13_brw (st : List Ob) : allM (brwA frzD st) [kv15, (i64 (1))] = some [kv15, (i64 (1))] := rfl
theorem k13_told : Told T n_shape_Ways [kv15, (i64 (1))] (.sl true [[i64 (0), i64 (0)]]) := toldQ kq12_ok k13_run rfl k13_brw
def kq13 : Orc := qor (tl n_shape_Ways [kv15, (i64 (1))] (.sl true [[i64 (0), i64 (0)]])) kq12
theorem kq13_ok : Orcs T kq13 := orcs_or (orcs_tl k13_told rfl k13_brw) kq12_ok
set_option maxRecDepth 100000 in
theorem k14_run : isU (callQ T kq13 80 n_shape_Right [kv15] []) (.bool true) = true := by kernel_rfl
theorem k14_brw (st : List Ob) : allM (brwA frzD st) [kv15] = some [kv15] := rfl
theorem k14_told : Told T n_shape_Right [kv15] (.bool true) := toldQ kq13_ok k14_run rfl k14_brw
def kq14 : Orc := qor (tl n_shape_Right [kv15] (.bool true)) kq13
theorem kq14_ok : Orcs T kq14 := orcs_or (orcs_tl k14_told rfl k14_brw) kq13_ok
def kv17 : U := .tup [.str [101, 110, 116, 114, 121, 32, 48, 10, 99, 97, 108, 108, 32, 55, 32, 118, 48, 32, 62, 32, 49, 10, 114, 101, 116, 32, 118, 49, 10, 118, 97, 108, 117, 101, 32, 48, 32, 114, 48, 10, 118, 97, 108, 117, 101, 32, 49, 32, 118, 48, 10], i64 (0)]
set_option maxRecDepth 100000 in
theorem k15_run : isU (callQ T kq14 80 n_shape_Print [kv15] []) kv17 = true := by kernel_rfl
theorem k15_brw (st : List Ob) : allM (brwA frzD st) [kv15] = some [kv15] := rfl
theorem k15_told : Told T n_shape_Print [kv15] kv17 := toldQ kq14_ok k15_run rfl k15_brw
def kq15 : Orc := qor (tl n_shape_Print [kv15] kv17) kq14
theorem kq15_ok : Orcs T kq15 := orcs_or (orcs_tl k15_told rfl k15_brw) kq14_ok
def kv18 : U := .agg [i64 (0), .sl false [[i64 (15), i64 (7), .sl true [[i64 (4), i64 (0)]], .sl true [[i64 (1)]]], [i64 (18), i64 (0), .sl true [[i64 (4), i64 (1)]], .sl true []]], .sl false [[i64 (0), .sl true [[i64 (1), i64 (0)]]], [i64 (1), .sl true [[i64 (4), i64 (0)]]]]]
set_option maxRecDepth 100000 in
theorem k16_run : isU (callQ T kq15 80 n_shape_Ways [kv18, (i64 (0))] []) kv16 = true := by kernel_rfl
theorem k16_brw (st : List Ob) : allM (brwA frzD st) [kv18, (i64 (0))] = some [kv18, (i64 (0))] := rfl
theorem k16_told : Told T n_shape_Ways [kv18, (i64 (0))] kv16 := toldQ kq15_ok k16_run rfl k16_brw
def kq16 : Orc := qor (tl n_shape_Ways [kv18, (i64 (0))] kv16) kq15
theorem kq16_ok : Orcs T kq16 := orcs_or (orcs_tl k16_told rfl k16_brw) kq15_ok
set_option maxRecDepth 100000 in
theorem k17_run : isU (callQ T kq16 80 n_shape_Ways [kv18, (i64 (1))] []) (.sl true [[i64 (0), i64 (0)]]) = true := by kernel_rfl
theorem k17_brw (st : List Ob) : allM (brwA frzD st) [kv18, (i64 (1))] = some [kv18, (i64 (1))] := rfl
theorem k17_told : Told T n_shape_Ways [kv18, (i64 (1))] (.sl true [[i64 (0), i64 (0)]]) := toldQ kq16_ok k17_run rfl k17_brw
def kq17 : Orc := qor (tl n_shape_Ways [kv18, (i64 (1))] (.sl true [[i64 (0), i64 (0)]])) kq16
theorem kq17_ok : Orcs T kq17 := orcs_or (orcs_tl k17_told rfl k17_brw) kq16_ok
set_option maxRecDepth 100000 in
theorem k18_run : isU (callQ T kq17 80 n_shape_Right [kv18] []) (.bool true) = true := by kernel_rfl
theorem k18_brw (st : List Ob) : allM (brwA frzD st) [kv18] = some [kv18] := rfl
theorem k18_told : Told T n_shape_Right [kv18] (.bool true) := toldQ kq17_ok k18_run rfl k18_brw
def kq18 : Orc := qor (tl n_shape_Right [kv18] (.bool true)) kq17
theorem kq18_ok : Orcs T kq18 := orcs_or (orcs_tl k18_told rfl k18_brw) kq17_ok
def kv19 : U := .str [101, 110, 116, 114, 121, 32, 48, 10, 99, 97, 108, 108, 32, 55, 32, 118, 48, 32, 62, 32, 49, 10, 114, 101, 116, 32, 118, 49, 10, 118, 97, 108, 117, 101, 32, 48, 32, 114, 48, 10, 118, 97, 108, 117, 101, 32, 49, 32, 118, 48, 10]
set_option maxRecDepth 100000 in
theorem k19_run : isU (callQ T kq18 80 n_shape_Parse [kv19] []) kv14 = true := by kernel_rfl
theorem k19_brw (st : List Ob) : allM (brwA frzD st) [kv19] = some [kv19] := rfl
theorem k19_told : Told T n_shape_Parse [kv19] kv14 := toldQ kq18_ok k19_run rfl k19_brw
def kq19 : Orc := qor (tl n_shape_Parse [kv19] kv14) kq18
theorem kq19_ok : Orcs T kq19 := orcs_or (orcs_tl k19_told rfl k19_brw) kq18_ok
def kv20 : U := .agg [i64 (0), .sl true [], .sl true []]
set_option maxRecDepth 100000 in
theorem k20_run : isU (callQ T kq19 80 n_shape_Right [kv20] []) (.bool false) = true := by kernel_rfl
theorem k20_brw (st : List Ob) : allM (brwA frzD st) [kv20] = some [kv20] := rfl
theorem k20_told : Told T n_shape_Right [kv20] (.bool false) := toldQ kq19_ok k20_run rfl k20_brw
def kq20 : Orc := qor (tl n_shape_Right [kv20] (.bool false)) kq19
theorem kq20_ok : Orcs T kq20 := orcs_or (orcs_tl k20_told rfl k20_brw) kq19_ok
def kv21 : U := .str [101, 110, 116, 114, 121, 32, 48, 10]
def kv22 : U := .tup [.agg [i64 (0), .sl true [], .sl true []], i64 (2)]
set_option maxRecDepth 100000 in
theorem k21_run : isU (callQ T kq20 80 n_shape_Parse [kv21] []) kv22 = true := by kernel_rfl
theorem k21_brw (st : List Ob) : allM (brwA frzD st) [kv21] = some [kv21] := rfl
theorem k21_told : Told T n_shape_Parse [kv21] kv22 := toldQ kq20_ok k21_run rfl k21_brw
def kq21 : Orc := qor (tl n_shape_Parse [kv21] kv22) kq20
theorem kq21_ok : Orcs T kq21 := orcs_or (orcs_tl k21_told rfl k21_brw) kq20_ok
set_option maxRecDepth 100000 in
theorem knows14_run : isU (callQ T kq21 80 n_joinerylaw14_knows [] []) (.bool true) = true := by kernel_rfl
theorem knows14_told : Told T n_joinerylaw14_knows [] (.bool true) := toldQ kq21_ok knows14_run rfl (fun _ => rfl)
theorem knows14_call (st : List Ob) : Cl T n_joinerylaw14_knows [] st (.bool true) st := knows14_told.call st
end Go.Proofs.YtbcojbmalcghbaaDoor.M2
