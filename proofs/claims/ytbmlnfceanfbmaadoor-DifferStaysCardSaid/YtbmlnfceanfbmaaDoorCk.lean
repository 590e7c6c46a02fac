/- From M2's law to the row: what all laws of this seat share. -/
import Derived.Test.YtbmlnfceanfbmaaDoorRows
import Derived.Test.YtbmlnfceanfbmaaDoorCc
import Derived.Test.YtbmlnfceanfbmaaDoorCd
import Derived.LaidMore
import Derived.OpenShut
import Derived.Stop.Joined
set_option linter.unusedSimpArgs false
set_option linter.unusedVariables false
set_option linter.unusedSectionVars false
/- M2's code is what the program compiles to. Printed by wip/gen. -/
namespace Go.Proofs.YtbmlnfceanfbmaaDoor.M2
open Go
noncomputable def E0 : En := ⟨Tryd.prog, [164, 161], [(1, gl_1)]⟩
def h_joinerylaw18_DifferStays : List (Nat × RH) := [(0, ⟨[0, 1, 3, 4, 7], []⟩), (1, ⟨[0, 1, 3, 4, 7, 35], []⟩), (2, ⟨[10], []⟩), (3, ⟨[0, 1, 3, 4, 7, 11, 12], []⟩), (4, ⟨[0, 1, 4, 7, 11, 12], []⟩), (5, ⟨[0, 1, 7, 11, 12], []⟩), (6, ⟨[11, 12, 13, 14], []⟩), (7, ⟨[10], []⟩)]
def h_joinerylaw18_DifferBoth : List (Nat × RH) := [(0, ⟨[0, 1, 5], []⟩), (1, ⟨[0, 1, 5, 28], []⟩), (2, ⟨[6], []⟩), (3, ⟨[0, 1, 5, 7, 8], []⟩), (4, ⟨[0, 1, 5, 7, 8, 9, 10], []⟩), (5, ⟨[7, 8, 9, 10, 11, 12], []⟩), (6, ⟨[6], []⟩)]
def h_joinerylaw18_DifferFuel : List (Nat × RH) := [(0, ⟨[0, 1, 5], []⟩), (1, ⟨[0, 1, 5], []⟩), (2, ⟨[0, 1, 5, 25], []⟩), (3, ⟨[6], []⟩), (4, ⟨[7, 8], []⟩), (5, ⟨[6], []⟩)]
def h_joineryref04_Right : List (Nat × RH) := [(0, ⟨[0], []⟩), (1, ⟨[4], []⟩), (2, ⟨[2], []⟩)]
def h_joinerylaw18_great : List (Nat × RH) := [(0, ⟨[0, 1, 5], []⟩), (1, ⟨[6], []⟩)]
def h_joinerylaw18_knows : List (Nat × RH) := [(0, ⟨[], []⟩), (1, ⟨[1], []⟩), (2, ⟨[1, 4], []⟩), (3, ⟨[1, 4, 7], []⟩), (4, ⟨[1, 4, 7, 10], []⟩), (5, ⟨[1, 4, 7, 10, 13], []⟩), (6, ⟨[1, 4, 7, 10, 13], []⟩), (7, ⟨[1, 7, 10, 13, 14, 15], []⟩), (8, ⟨[1, 10, 13, 14, 15, 16, 17], []⟩), (9, ⟨[1, 13, 14, 15, 16, 17, 18, 19], []⟩), (10, ⟨[14, 15, 16, 17, 18, 19, 20, 21], []⟩), (11, ⟨[0], []⟩)]
def h_differ_Tell : List (Nat × RH) := [(0, ⟨[0, 1, 5], []⟩), (1, ⟨[1, 5, 8, 9], []⟩), (2, ⟨[8, 9, 10, 11], []⟩), (3, ⟨[8, 10, 32], []⟩), (4, ⟨[6, 7], []⟩), (5, ⟨[12], []⟩), (6, ⟨[86, 87, 88], []⟩), (7, ⟨[86, 87, 88, 89], []⟩), (8, ⟨[13, 14, 86, 87, 88], []⟩), (9, ⟨[13, 86, 87, 88, 93], []⟩), (10, ⟨[6, 7], []⟩), (11, ⟨[86, 87, 88], []⟩), (12, ⟨[6, 7], []⟩)]
def h_differ_Begins : List (Nat × RH) := [(0, ⟨[0, 1], []⟩), (1, ⟨[0, 1, 11], []⟩), (2, ⟨[4], []⟩), (3, ⟨[1, 12, 13, 14], []⟩), (4, ⟨[1, 12, 13, 14, 15], []⟩), (5, ⟨[1, 5, 6, 12, 13, 14], []⟩), (6, ⟨[1, 12, 13, 14, 24], []⟩), (7, ⟨[4], []⟩), (8, ⟨[1, 12, 13, 14], []⟩), (9, ⟨[4], []⟩)]
def h_differ_Halted : List (Nat × RH) := [(0, ⟨[1], []⟩), (1, ⟨[5], []⟩), (2, ⟨[5, 6], []⟩), (3, ⟨[5, 6], []⟩), (4, ⟨[5, 6], []⟩), (5, ⟨[6], []⟩), (6, ⟨[2], []⟩), (7, ⟨[2], []⟩)]
def h_joineryref08_Fair : List (Nat × RH) := [(0, ⟨[0, 3], []⟩), (1, ⟨[4], []⟩)]
def h_run_Begin : List (Nat × RH) := [(0, ⟨[1, 2], []⟩), (1, ⟨[1, 2, 3], []⟩), (2, ⟨[1, 2, 3, 10], []⟩), (3, ⟨[1, 2, 3, 10, 11], []⟩), (4, ⟨[1, 2, 3, 4, 10], []⟩), (5, ⟨[1, 2, 3, 10], []⟩), (6, ⟨[1, 2, 3, 10], []⟩), (7, ⟨[2], []⟩)]
def h_joineryref03_Moves : List (Nat × RH) := [(0, ⟨[1], []⟩), (1, ⟨[2], []⟩)]
def h_step_Do : List (Nat × RH) := [(0, ⟨[0, 2, 4, 6, 8], []⟩), (1, ⟨[0, 2, 4, 6, 8, 17], []⟩), (2, ⟨[6, 7, 8, 9], []⟩), (3, ⟨[4, 6, 8, 10], []⟩), (4, ⟨[4, 6, 8, 10, 34, 35, 36], []⟩), (5, ⟨[4, 6, 8, 10, 34, 35, 36, 37], []⟩), (6, ⟨[4, 6, 8, 10, 12, 34, 35, 36], []⟩), (7, ⟨[4, 6, 8, 10, 34, 35, 36, 45], []⟩), (8, ⟨[6, 7, 8, 9], []⟩), (9, ⟨[4, 6, 8, 10, 34, 35, 36], []⟩), (10, ⟨[6, 8, 10], []⟩), (11, ⟨[6, 8, 10, 13], []⟩), (12, ⟨[6, 8, 10, 13, 67], []⟩), (13, ⟨[6, 8, 10, 13], []⟩), (14, ⟨[6, 7, 8, 9], []⟩)]
def h_joineryref04_Check : List (Nat × RH) := [(0, ⟨[0], []⟩), (1, ⟨[0, 9], []⟩), (2, ⟨[2, 3], []⟩), (3, ⟨[0, 12], []⟩), (4, ⟨[2, 3], []⟩), (5, ⟨[0, 4], []⟩), (6, ⟨[0, 4, 16], []⟩), (8, ⟨[0, 4, 5], []⟩), (9, ⟨[0, 4, 5, 27], []⟩), (10, ⟨[2, 3], []⟩), (7, ⟨[0, 4], []⟩), (11, ⟨[0, 6], []⟩), (12, ⟨[0, 42], []⟩), (13, ⟨[2, 3], []⟩), (14, ⟨[2, 3], []⟩)]
def h_asm_Parse : List (Nat × RH) := [(0, ⟨[1], []⟩), (1, ⟨[1, 15], []⟩), (2, ⟨[2, 3, 4], []⟩), (3, ⟨[1, 5], []⟩), (4, ⟨[1, 5, 6], []⟩), (5, ⟨[1, 5, 6, 7], []⟩), (6, ⟨[1, 5, 6, 7, 8], []⟩), (7, ⟨[1, 5, 6, 7, 8, 18], []⟩), (8, ⟨[1, 5, 6, 7, 8, 18, 19, 20], []⟩), (9, ⟨[1, 5, 6, 7, 8, 9, 10, 18], []⟩), (10, ⟨[1, 5, 6, 7, 8, 9, 18, 24], []⟩), (11, ⟨[1, 5, 6, 7, 8, 9, 18, 28], []⟩), (12, ⟨[2, 3, 4], []⟩), (13, ⟨[1, 5, 6, 7, 8, 18], []⟩), (14, ⟨[5, 6, 7, 35], []⟩), (15, ⟨[2, 3, 4], []⟩), (16, ⟨[5, 6, 11, 12], []⟩), (17, ⟨[5, 6, 11, 12, 43], []⟩), (18, ⟨[2, 3, 4], []⟩), (19, ⟨[6, 11, 12, 48], []⟩), (20, ⟨[11, 12], []⟩), (21, ⟨[2, 3, 4], []⟩)]
def h_asm_Right : List (Nat × RH) := [(0, ⟨[0], []⟩), (1, ⟨[4], []⟩), (2, ⟨[2], []⟩)]
def h_path_From : List (Nat × RH) := [(0, ⟨[1, 2, 4], []⟩), (1, ⟨[1, 2, 4, 21], []⟩), (2, ⟨[4, 5], []⟩), (3, ⟨[1, 2, 4, 6], []⟩), (4, ⟨[2, 4, 6, 7], []⟩), (5, ⟨[4, 6, 7, 8], []⟩), (6, ⟨[4, 6, 7, 8, 28], []⟩), (7, ⟨[4, 7, 32], []⟩), (8, ⟨[4, 5], []⟩), (9, ⟨[4, 5], []⟩)]
def h_ins_Uses : List (Nat × RH) := [(0, ⟨[1], []⟩), (1, ⟨[1, 3, 4], []⟩), (2, ⟨[1, 3, 19], []⟩), (3, ⟨[2], []⟩), (4, ⟨[1, 3, 5], [(0, ⟨false, (some (3, 1, false)), []⟩)]⟩), (5, ⟨[1, 5, 22], []⟩), (6, ⟨[1, 5, 22, 23, 24], []⟩), (7, ⟨[1, 5, 7, 22], []⟩), (8, ⟨[1, 5, 7, 22, 31], []⟩), (9, ⟨[1, 5, 22], []⟩), (10, ⟨[2], []⟩)]
def h_joinerylaw08_Great : List (Nat × RH) := [(0, ⟨[0, 3], []⟩), (1, ⟨[4], []⟩)]
def h_differ_of : List (Nat × RH) := [(0, ⟨[0, 3, 4], []⟩), (1, ⟨[0, 4, 6, 7, 8], []⟩), (2, ⟨[0, 4, 6, 7, 8, 19], []⟩), (3, ⟨[4, 5], []⟩), (4, ⟨[4, 6, 9], []⟩), (5, ⟨[4, 5], []⟩)]
def h_differ_either : List (Nat × RH) := [(0, ⟨[2, 3, 4], []⟩), (1, ⟨[6], []⟩)]
def h_differ_Tell_1 : List (Nat × RH) := [(0, ⟨[2, 3], []⟩), (1, ⟨[4], []⟩)]
def h_differ_Tell_2 : List (Nat × RH) := [(0, ⟨[2, 3], []⟩), (1, ⟨[4], []⟩)]
def h_heap_Same : List (Nat × RH) := [(0, ⟨[0, 1], []⟩), (1, ⟨[0, 1, 10], []⟩), (2, ⟨[4], []⟩), (3, ⟨[0, 1, 12, 13], []⟩), (4, ⟨[0, 1, 12, 13, 14], []⟩), (5, ⟨[0, 1, 5, 12, 13], []⟩), (6, ⟨[0, 1, 12, 13, 24], []⟩), (7, ⟨[4], []⟩), (8, ⟨[0, 1, 12, 13], []⟩), (9, ⟨[4], []⟩)]
def h_differ_Tell_3 : List (Nat × RH) := [(0, ⟨[2, 3], []⟩), (1, ⟨[4], []⟩)]
def h_joineryref08_Right : List (Nat × RH) := [(0, ⟨[1], []⟩), (1, ⟨[2], []⟩)]
def h_step_Right : List (Nat × RH) := [(0, ⟨[0, 3], []⟩), (1, ⟨[3, 32], []⟩), (2, ⟨[4], []⟩), (3, ⟨[34, 35], []⟩), (4, ⟨[34, 35, 36], []⟩), (5, ⟨[6, 34, 35], []⟩), (6, ⟨[34, 35, 45], []⟩), (7, ⟨[4], []⟩), (8, ⟨[34, 35], []⟩), (9, ⟨[4], []⟩)]
def h_step_own : List (Nat × RH) := [(0, ⟨[1, 2], []⟩), (1, ⟨[1, 2], []⟩), (2, ⟨[2], []⟩)]
def h_step_work_do : List (Nat × RH) := [(0, ⟨[0, 2, 3], []⟩), (1, ⟨[0, 2, 3, 4], []⟩), (2, ⟨[0, 2, 3, 4, 31], []⟩), (3, ⟨[0, 2, 3, 4, 31, 32], []⟩), (4, ⟨[0, 2, 3, 4, 31, 34], []⟩), (5, ⟨[0, 2, 3, 4, 31, 36], []⟩), (6, ⟨[0, 2, 3, 4, 31, 38], []⟩), (7, ⟨[0, 2, 3, 4, 31, 40], []⟩), (8, ⟨[0, 2, 3, 4, 42], []⟩), (9, ⟨[0, 4], []⟩), (10, ⟨[0, 4, 5, 6], []⟩), (11, ⟨[0, 4, 5, 6], []⟩), (12, ⟨[0, 4, 5, 71], []⟩), (13, ⟨[0, 4], []⟩), (14, ⟨[0, 4], []⟩), (15, ⟨[0, 4], []⟩), (16, ⟨[0, 4, 88], []⟩), (17, ⟨[0, 4], []⟩), (18, ⟨[0, 2, 3, 4, 99], []⟩), (19, ⟨[0, 4], []⟩), (20, ⟨[0, 4], []⟩), (21, ⟨[0, 4, 118], []⟩), (22, ⟨[], []⟩)]
def h_joineryref03_Check : List (Nat × RH) := [(0, ⟨[1, 2], []⟩), (1, ⟨[1, 2, 33], []⟩), (2, ⟨[4], []⟩), (3, ⟨[1, 2, 36], []⟩), (4, ⟨[1, 2, 46], []⟩), (5, ⟨[4], []⟩), (6, ⟨[1, 2, 62], []⟩), (7, ⟨[4], []⟩), (8, ⟨[81], []⟩), (9, ⟨[4], []⟩), (10, ⟨[4], []⟩)]
def h_asm_Parse_1 : List (Nat × RH) := [(0, ⟨[0, 1, 2, 3, 4], []⟩), (1, ⟨[2, 3, 4, 7, 8], []⟩), (2, ⟨[8], []⟩), (3, ⟨[6], []⟩)]
def h_ins_Parse : List (Nat × RH) := [(0, ⟨[0, 2], []⟩), (1, ⟨[2, 4], []⟩), (2, ⟨[2, 4, 13, 14], []⟩), (3, ⟨[2, 4, 13, 14, 15], []⟩), (4, ⟨[2, 4, 5, 6, 13, 14], []⟩), (5, ⟨[2, 4, 5, 6, 13, 14, 32], []⟩), (6, ⟨[2, 4, 6, 7], []⟩), (7, ⟨[2, 4, 7, 38], []⟩), (8, ⟨[2, 4, 7, 38, 39, 40], []⟩), (9, ⟨[2, 4, 7, 8, 9, 38], []⟩), (10, ⟨[2, 4, 7, 10, 38], []⟩), (11, ⟨[2, 4, 7, 38, 51], []⟩), (12, ⟨[2, 3], []⟩), (13, ⟨[2, 7, 55], []⟩), (14, ⟨[2, 3], []⟩), (15, ⟨[2, 4, 13, 14], []⟩), (16, ⟨[2, 3], []⟩)]
def h_asm_Check : List (Nat × RH) := [(0, ⟨[0], []⟩), (1, ⟨[0, 8], []⟩), (2, ⟨[2, 3], []⟩), (3, ⟨[0, 12], []⟩), (4, ⟨[2, 3], []⟩), (5, ⟨[0, 16, 17, 18], []⟩), (6, ⟨[0, 16, 17, 18, 19], []⟩), (7, ⟨[0, 4, 5, 16, 17, 18], []⟩), (8, ⟨[0, 4, 6, 16, 17, 18], []⟩), (9, ⟨[0, 4, 6, 16, 17, 18, 28], []⟩), (10, ⟨[2, 3], []⟩), (11, ⟨[0, 16, 17, 18], []⟩), (12, ⟨[0, 7], []⟩), (13, ⟨[7, 48], []⟩), (14, ⟨[2, 3], []⟩), (15, ⟨[2, 3], []⟩)]
def h_loc_Right : List (Nat × RH) := [(0, ⟨[0], []⟩), (1, ⟨[2], []⟩)]
def h_env_New : List (Nat × RH) := [(0, ⟨[0], []⟩), (1, ⟨[0, 1], []⟩), (2, ⟨[0, 1, 3], []⟩), (3, ⟨[0, 1, 3, 4], []⟩), (4, ⟨[0, 1, 2, 3], []⟩), (5, ⟨[0, 1, 3], []⟩), (6, ⟨[0, 1, 3], []⟩), (7, ⟨[0], []⟩)]
def h_path_From_1 : List (Nat × RH) := [(0, ⟨[0, 1, 2], []⟩), (1, ⟨[1, 2, 4], []⟩), (2, ⟨[1, 2, 4, 18], []⟩), (3, ⟨[3], []⟩), (4, ⟨[1, 4], []⟩), (5, ⟨[1, 4], []⟩), (6, ⟨[1, 4], []⟩), (7, ⟨[1, 4], []⟩), (8, ⟨[1, 4, 37], []⟩), (9, ⟨[], []⟩), (10, ⟨[3], []⟩)]
def h_ins_Moves : List (Nat × RH) := [(0, ⟨[1], []⟩), (1, ⟨[2], []⟩)]
def h_env_After : List (Nat × RH) := [(0, ⟨[2, 3, 4], []⟩), (1, ⟨[2, 3, 4], []⟩), (2, ⟨[2, 3, 4, 21], []⟩), (3, ⟨[4], []⟩), (4, ⟨[2, 3, 4, 24], []⟩), (5, ⟨[2, 3, 4, 24, 25], []⟩), (6, ⟨[2, 4], []⟩), (7, ⟨[2, 3, 4, 24, 34], []⟩), (8, ⟨[2, 4], []⟩), (9, ⟨[2, 3, 4, 43], []⟩), (10, ⟨[2, 4], []⟩), (11, ⟨[4], []⟩)]
def h_loc_Reg : List (Nat × RH) := [(0, ⟨[0], []⟩), (1, ⟨[2], []⟩)]
def h_joineryref09_From : List (Nat × RH) := [(0, ⟨[0, 1, 4], []⟩), (1, ⟨[0, 4, 5], []⟩), (2, ⟨[0, 4, 5, 6], []⟩), (3, ⟨[0, 4, 5, 6, 15], []⟩), (5, ⟨[0, 4, 5, 6, 7], []⟩), (6, ⟨[0, 4, 5, 6, 7, 25], []⟩), (7, ⟨[4], []⟩), (8, ⟨[0, 4, 5, 6, 7, 8], []⟩), (9, ⟨[0, 4, 5, 6, 7, 8, 32], []⟩), (10, ⟨[0, 4, 5, 6, 7, 8], []⟩), (11, ⟨[0, 4, 5, 6], []⟩), (4, ⟨[0, 4, 5, 6], []⟩), (12, ⟨[4], []⟩)]
def h_ins_of : List (Nat × RH) := [(0, ⟨[0, 2], []⟩), (1, ⟨[0, 2, 9], []⟩), (2, ⟨[2, 3], []⟩), (3, ⟨[2, 3], []⟩)]
def h_ins_field : List (Nat × RH) := [(0, ⟨[0, 1], []⟩), (1, ⟨[0, 5], []⟩), (2, ⟨[0, 5, 6], []⟩), (3, ⟨[0, 5, 6], []⟩), (4, ⟨[4], []⟩), (5, ⟨[0, 5, 12], []⟩), (6, ⟨[0, 12], []⟩), (7, ⟨[4], []⟩), (8, ⟨[4], []⟩)]
def h_run_Run : List (Nat × RH) := [(0, ⟨[0, 3, 4, 5], []⟩), (1, ⟨[0, 3, 4, 5, 20], []⟩), (2, ⟨[4, 5, 6], []⟩), (3, ⟨[0, 3, 4, 5, 7], [(0, ⟨false, none, [(0, 140, 3, false)]⟩)]⟩), (4, ⟨[0, 3, 4, 5, 7, 8], []⟩), (5, ⟨[0, 3, 4, 5, 7, 8, 26, 27], []⟩), (6, ⟨[0, 3, 4, 5, 7, 8, 26, 27, 28], []⟩), (7, ⟨[0, 3, 4, 5, 7, 8, 26, 27, 35], []⟩), (8, ⟨[0, 3, 4, 5, 7, 8, 26, 27], []⟩), (9, ⟨[0, 3, 4, 5, 7, 8, 26, 27], []⟩), (10, ⟨[0, 3, 4, 5, 7, 8, 9, 10, 11, 26, 27], []⟩), (11, ⟨[0, 3, 4, 5, 7, 8, 9, 11, 26, 27], []⟩), (12, ⟨[0, 3, 4, 5, 7, 8, 11, 26, 27], []⟩), (13, ⟨[0, 3, 4, 5, 7, 8, 26, 27, 64], []⟩), (14, ⟨[0, 3, 4, 5, 7, 8, 26, 27], []⟩), (15, ⟨[4, 5, 6], []⟩)]
def h_heap_Right : List (Nat × RH) := [(0, ⟨[0], []⟩), (1, ⟨[2], []⟩)]
def h_step_work_number : List (Nat × RH) := [(0, ⟨[0, 1], []⟩), (1, ⟨[4], []⟩)]
def h_step_work_set : List (Nat × RH) := [(0, ⟨[0, 1, 2], []⟩), (1, ⟨[0, 1, 11], []⟩), (2, ⟨[], []⟩)]
def h_heap_Load : List (Nat × RH) := [(0, ⟨[0, 1], []⟩), (1, ⟨[0, 1, 9], []⟩), (2, ⟨[4, 5], []⟩), (3, ⟨[4, 5], []⟩)]
def h_heap_Store : List (Nat × RH) := [(0, ⟨[0, 1, 2], []⟩), (1, ⟨[0, 1, 2, 12], []⟩), (2, ⟨[6, 7], []⟩), (3, ⟨[0, 1, 2, 8], []⟩), (4, ⟨[1, 2, 8], []⟩), (5, ⟨[8], []⟩), (6, ⟨[6, 7], []⟩)]
def h_step_work_call : List (Nat × RH) := [(0, ⟨[0, 1, 15], []⟩), (1, ⟨[], []⟩), (2, ⟨[0, 1, 4], []⟩), (3, ⟨[0, 4], []⟩), (4, ⟨[0, 4], []⟩), (5, ⟨[], []⟩)]
def h_num_Do : List (Nat × RH) := [(0, ⟨[0, 1, 2], []⟩), (1, ⟨[0, 1, 2, 8], []⟩), (2, ⟨[0, 1, 2, 8, 12], []⟩), (3, ⟨[6, 7], []⟩), (4, ⟨[1, 2, 8, 15], []⟩), (5, ⟨[6, 7], []⟩), (6, ⟨[6, 7], []⟩)]
def h_step_work_move : List (Nat × RH) := [(0, ⟨[0, 2], []⟩), (1, ⟨[0, 2, 11], []⟩), (2, ⟨[0, 2, 11, 12], []⟩), (3, ⟨[], []⟩), (4, ⟨[0, 2, 11, 28], []⟩), (5, ⟨[], []⟩), (6, ⟨[0, 2, 47], []⟩), (7, ⟨[], []⟩)]
def h_joineryref03_only : List (Nat × RH) := [(0, ⟨[1, 2], []⟩), (1, ⟨[1, 2, 3], []⟩), (2, ⟨[1, 2, 3, 14], []⟩), (3, ⟨[1, 2, 3], []⟩), (4, ⟨[1, 2, 3, 25], []⟩), (5, ⟨[1, 2, 3], []⟩), (6, ⟨[1, 2, 3, 36], []⟩), (7, ⟨[1, 2, 3], []⟩), (8, ⟨[1, 2, 3, 47], []⟩), (9, ⟨[1, 2, 3], []⟩), (10, ⟨[1, 2, 3, 63], []⟩), (11, ⟨[2, 3], []⟩), (12, ⟨[2], []⟩)]
def h_joineryref03_place : List (Nat × RH) := [(0, ⟨[0], []⟩), (1, ⟨[2], []⟩)]
def h_joineryref03_reg : List (Nat × RH) := [(0, ⟨[0], []⟩), (1, ⟨[2], []⟩)]
def h_ins_words : List (Nat × RH) := [(0, ⟨[0], []⟩), (1, ⟨[0, 3], [(0, ⟨false, (some (9, 1, false)), []⟩)]⟩), (2, ⟨[0, 3, 4], []⟩), (3, ⟨[0, 3, 4, 8], []⟩), (4, ⟨[0, 3, 4, 8, 9, 10], []⟩), (5, ⟨[0, 3, 4, 5, 6, 8], []⟩), (6, ⟨[0, 3, 4, 5, 8, 14], []⟩), (7, ⟨[0, 3, 5, 8], []⟩), (8, ⟨[0, 3, 4, 8], []⟩), (9, ⟨[2], []⟩)]
def h_ins_fill : List (Nat × RH) := [(0, ⟨[0, 1, 2], []⟩), (1, ⟨[0, 1, 2, 11], []⟩), (2, ⟨[0, 1, 2, 11, 12], []⟩), (3, ⟨[0, 1, 2, 12], []⟩), (4, ⟨[0, 1, 7, 8], []⟩), (5, ⟨[0, 7, 8, 21], []⟩), (6, ⟨[8], []⟩), (7, ⟨[8], []⟩), (8, ⟨[6], []⟩), (9, ⟨[0, 1, 9, 10], []⟩), (10, ⟨[10], []⟩), (11, ⟨[6], []⟩)]
def h_ins_Check : List (Nat × RH) := [(0, ⟨[1, 2], []⟩), (1, ⟨[1, 2, 5, 6], []⟩), (2, ⟨[1, 2, 5, 39], []⟩), (3, ⟨[4], []⟩), (4, ⟨[1, 2, 5, 7], []⟩), (5, ⟨[1, 2, 7, 42], []⟩), (6, ⟨[1, 2, 7, 42, 43, 44], []⟩), (7, ⟨[1, 2, 7, 9, 42], []⟩), (8, ⟨[1, 2, 7, 9, 42, 46], []⟩), (9, ⟨[1, 2, 7, 9, 42, 49], []⟩), (10, ⟨[1, 2, 7, 42], []⟩), (11, ⟨[1, 2, 7, 9, 42, 61], []⟩), (12, ⟨[1, 2, 7, 42, 61], []⟩), (13, ⟨[4], []⟩), (14, ⟨[82], []⟩), (15, ⟨[4], []⟩), (16, ⟨[4], []⟩)]
def h_env_good : List (Nat × RH) := [(0, ⟨[1, 2], []⟩), (1, ⟨[1, 2, 4], []⟩), (2, ⟨[2], []⟩), (3, ⟨[2], []⟩)]
def h_joineryref05_New : List (Nat × RH) := [(0, ⟨[], []⟩), (1, ⟨[1], [(0, ⟨false, (some (124, 2, false)), []⟩)]⟩), (2, ⟨[1, 2], []⟩), (3, ⟨[1, 2, 4], []⟩), (5, ⟨[1, 2], []⟩), (4, ⟨[1, 2], []⟩), (6, ⟨[0], []⟩)]
def h_joineryref05_After : List (Nat × RH) := [(0, ⟨[0, 3], []⟩), (1, ⟨[3, 5], []⟩), (2, ⟨[3, 5, 21], []⟩), (3, ⟨[4], []⟩), (4, ⟨[3, 5, 6, 7], []⟩), (5, ⟨[3, 5, 6, 7, 35], []⟩), (6, ⟨[3, 5, 6, 7], []⟩), (7, ⟨[3, 5, 6, 7, 50], []⟩), (8, ⟨[3, 5, 6], []⟩), (9, ⟨[3, 5, 6, 58], []⟩), (10, ⟨[5], []⟩), (11, ⟨[4], []⟩)]
def h_run_Right : List (Nat × RH) := [(0, ⟨[1], []⟩), (1, ⟨[2], []⟩)]
def h_heap_in : List (Nat × RH) := [(0, ⟨[0, 1], []⟩), (1, ⟨[4], []⟩)]
def h_num_deeds : List (Nat × RH) := [(0, ⟨[], []⟩), (1, ⟨[0], []⟩)]
def h_num_Parse : List (Nat × RH) := [(0, ⟨[0], []⟩), (1, ⟨[0, 4, 5], []⟩), (2, ⟨[0, 4, 5, 18], []⟩), (3, ⟨[4, 5], []⟩), (4, ⟨[4, 5, 41], []⟩), (5, ⟨[2, 3], []⟩), (6, ⟨[4, 5, 6], []⟩), (7, ⟨[5, 6, 43], []⟩), (8, ⟨[5, 6, 43, 44, 45], []⟩), (9, ⟨[5, 6, 8, 43], []⟩), (10, ⟨[5, 6, 8, 43, 52], []⟩), (11, ⟨[2, 3], []⟩), (12, ⟨[5, 6, 43], []⟩), (13, ⟨[5, 6, 9], []⟩), (14, ⟨[6, 9, 59], []⟩), (15, ⟨[6, 9], []⟩), (16, ⟨[6, 9], []⟩), (17, ⟨[6, 68], []⟩), (18, ⟨[2, 3], []⟩), (19, ⟨[2, 3], []⟩), (20, ⟨[6, 73], []⟩), (21, ⟨[2, 3], []⟩), (22, ⟨[2, 3], []⟩)]
def h_loc_Parse : List (Nat × RH) := [(0, ⟨[0], []⟩), (1, ⟨[0, 4, 5, 6], []⟩), (2, ⟨[0, 4, 5, 6, 10], []⟩), (3, ⟨[0, 4, 5, 6, 10, 11, 12], []⟩), (4, ⟨[0, 4, 5, 6, 7, 8, 10], []⟩), (6, ⟨[0, 4, 5, 6, 7, 8, 10, 21], []⟩), (7, ⟨[0, 4, 5, 6, 10], []⟩), (8, ⟨[0, 4, 5, 6, 7, 8, 10, 28], []⟩), (9, ⟨[0, 4, 5, 6, 10], []⟩), (10, ⟨[0, 4, 5, 6, 8, 10, 35], []⟩), (11, ⟨[2, 3], []⟩), (5, ⟨[0, 4, 5, 6, 10], []⟩), (12, ⟨[4, 5, 65], []⟩), (13, ⟨[2, 3], []⟩), (14, ⟨[2, 3], []⟩)]
def h_ins_rest : List (Nat × RH) := [(0, ⟨[2, 3, 4], []⟩), (1, ⟨[2, 3, 4], []⟩), (2, ⟨[2, 4, 10], []⟩), (3, ⟨[2, 4, 10, 11, 12], []⟩), (4, ⟨[2, 4, 6, 10], []⟩), (5, ⟨[2, 4, 6, 10, 14], []⟩), (7, ⟨[2, 4, 6, 10, 14, 18], []⟩), (8, ⟨[2, 4, 10], []⟩), (9, ⟨[2, 4, 6, 10, 21], []⟩), (10, ⟨[2, 4, 10], []⟩), (6, ⟨[2, 4, 10], []⟩), (11, ⟨[4], []⟩)]
def h_env_Good : List (Nat × RH) := [(0, ⟨[1], []⟩), (1, ⟨[5, 6], []⟩), (2, ⟨[5, 6, 7], []⟩), (3, ⟨[4, 5, 6], []⟩), (4, ⟨[5, 6, 11], []⟩), (5, ⟨[2], []⟩), (6, ⟨[5, 6], []⟩), (7, ⟨[2], []⟩)]
def h_joineryref05_good : List (Nat × RH) := [(0, ⟨[0], []⟩), (1, ⟨[0, 4], []⟩), (2, ⟨[2], []⟩), (3, ⟨[2], []⟩)]
def h_joineryref05_place : List (Nat × RH) := [(0, ⟨[0], []⟩), (1, ⟨[2], []⟩)]
def h_num_deeds_1 : List (Nat × RH) := [(0, ⟨[0, 1], []⟩), (1, ⟨[4], []⟩)]
def h_num_deeds_2 : List (Nat × RH) := [(0, ⟨[0, 1], []⟩), (1, ⟨[4], []⟩)]
def h_num_deeds_3 : List (Nat × RH) := [(0, ⟨[0, 1], []⟩), (1, ⟨[4], []⟩)]
def h_num_deeds_4 : List (Nat × RH) := [(0, ⟨[0, 1], []⟩), (1, ⟨[4], []⟩)]
def h_num_deeds_5 : List (Nat × RH) := [(0, ⟨[0, 1], []⟩), (1, ⟨[4], []⟩)]
def h_num_deeds_6 : List (Nat × RH) := [(0, ⟨[0, 1], []⟩), (1, ⟨[4], []⟩)]
def h_num_deeds_7 : List (Nat × RH) := [(0, ⟨[0, 1], []⟩), (1, ⟨[4], []⟩)]
def h_num_deeds_8 : List (Nat × RH) := [(0, ⟨[0, 1], []⟩), (1, ⟨[4], []⟩)]
def h_num_flag : List (Nat × RH) := [(0, ⟨[0], []⟩), (1, ⟨[3], []⟩), (2, ⟨[2], []⟩), (3, ⟨[2], []⟩)]
def h_num_deeds_9 : List (Nat × RH) := [(0, ⟨[0, 1], []⟩), (1, ⟨[4], []⟩)]
def h_env_may : List (Nat × RH) := [(0, ⟨[0], []⟩), (1, ⟨[0, 3, 4], []⟩), (2, ⟨[0, 3, 12], []⟩), (3, ⟨[2], []⟩), (4, ⟨[6], []⟩), (5, ⟨[2], []⟩)]
def h_joineryref05_Good : List (Nat × RH) := [(0, ⟨[0], []⟩), (1, ⟨[0, 3], []⟩), (2, ⟨[0, 3, 7], []⟩), (4, ⟨[0, 3, 39], []⟩), (5, ⟨[2], []⟩), (3, ⟨[0, 3], []⟩), (6, ⟨[2], []⟩)]
theorem k_joinerylaw18_DifferStays : compF E0 true h_joinerylaw18_DifferStays Tryd.f9 = some c_joinerylaw18_DifferStays := by kernel_rfl
theorem n_ok_joinerylaw18_DifferStays : (Tryd.f9.name == "runtime.NumGoroutine") = false := by kernel_rfl
theorem k_joinerylaw18_DifferBoth : compF E0 true h_joinerylaw18_DifferBoth Tryd.f10 = some c_joinerylaw18_DifferBoth := by kernel_rfl
theorem n_ok_joinerylaw18_DifferBoth : (Tryd.f10.name == "runtime.NumGoroutine") = false := by kernel_rfl
theorem k_joinerylaw18_DifferFuel : compF E0 true h_joinerylaw18_DifferFuel Tryd.f12 = some c_joinerylaw18_DifferFuel := by kernel_rfl
theorem n_ok_joinerylaw18_DifferFuel : (Tryd.f12.name == "runtime.NumGoroutine") = false := by kernel_rfl
theorem k_joineryref04_Right : compF E0 true h_joineryref04_Right Tryd.f14 = some c_joineryref04_Right := by kernel_rfl
theorem n_ok_joineryref04_Right : (Tryd.f14.name == "runtime.NumGoroutine") = false := by kernel_rfl
theorem k_joinerylaw18_great : compF E0 true h_joinerylaw18_great Tryd.f27 = some c_joinerylaw18_great := by kernel_rfl
theorem n_ok_joinerylaw18_great : (Tryd.f27.name == "runtime.NumGoroutine") = false := by kernel_rfl
theorem k_joinerylaw18_knows : compF E0 true h_joinerylaw18_knows Tryd.f28 = some c_joinerylaw18_knows := by kernel_rfl
theorem n_ok_joinerylaw18_knows : (Tryd.f28.name == "runtime.NumGoroutine") = false := by kernel_rfl
theorem k_differ_Tell : compF E0 true h_differ_Tell Tryd.f29 = some c_differ_Tell := by kernel_rfl
theorem n_ok_differ_Tell : (Tryd.f29.name == "runtime.NumGoroutine") = false := by kernel_rfl
theorem k_differ_Begins : compF E0 true h_differ_Begins Tryd.f30 = some c_differ_Begins := by kernel_rfl
theorem n_ok_differ_Begins : (Tryd.f30.name == "runtime.NumGoroutine") = false := by kernel_rfl
theorem k_differ_Halted : compF E0 true h_differ_Halted Tryd.f32 = some c_differ_Halted := by kernel_rfl
theorem n_ok_differ_Halted : (Tryd.f32.name == "runtime.NumGoroutine") = false := by kernel_rfl
theorem k_joineryref08_Fair : compF E0 true h_joineryref08_Fair Tryd.f34 = some c_joineryref08_Fair := by kernel_rfl
theorem n_ok_joineryref08_Fair : (Tryd.f34.name == "runtime.NumGoroutine") = false := by kernel_rfl
theorem k_run_Begin : compF E0 true h_run_Begin Tryd.f39 = some c_run_Begin := by kernel_rfl
theorem n_ok_run_Begin : (Tryd.f39.name == "runtime.NumGoroutine") = false := by kernel_rfl
theorem k_joineryref03_Moves : compF E0 true h_joineryref03_Moves Tryd.f40 = some c_joineryref03_Moves := by kernel_rfl
theorem n_ok_joineryref03_Moves : (Tryd.f40.name == "runtime.NumGoroutine") = false := by kernel_rfl
theorem k_step_Do : compF E0 true h_step_Do Tryd.f41 = some c_step_Do := by kernel_rfl
theorem n_ok_step_Do : (Tryd.f41.name == "runtime.NumGoroutine") = false := by kernel_rfl
theorem k_joineryref04_Check : compF E0 true h_joineryref04_Check Tryd.f42 = some c_joineryref04_Check := by kernel_rfl
theorem n_ok_joineryref04_Check : (Tryd.f42.name == "runtime.NumGoroutine") = false := by kernel_rfl
theorem k_asm_Parse : compF E0 true h_asm_Parse Tryd.f43 = some c_asm_Parse := by kernel_rfl
theorem n_ok_asm_Parse : (Tryd.f43.name == "runtime.NumGoroutine") = false := by kernel_rfl
theorem k_asm_Right : compF E0 true h_asm_Right Tryd.f45 = some c_asm_Right := by kernel_rfl
theorem n_ok_asm_Right : (Tryd.f45.name == "runtime.NumGoroutine") = false := by kernel_rfl
theorem k_path_From : compF E0 true h_path_From Tryd.f47 = some c_path_From := by kernel_rfl
theorem n_ok_path_From : (Tryd.f47.name == "runtime.NumGoroutine") = false := by kernel_rfl
theorem k_ins_Uses : compF E0 true h_ins_Uses Tryd.f58 = some c_ins_Uses := by kernel_rfl
theorem n_ok_ins_Uses : (Tryd.f58.name == "runtime.NumGoroutine") = false := by kernel_rfl
theorem k_joinerylaw08_Great : compF E0 true h_joinerylaw08_Great Tryd.f61 = some c_joinerylaw08_Great := by kernel_rfl
theorem n_ok_joinerylaw08_Great : (Tryd.f61.name == "runtime.NumGoroutine") = false := by kernel_rfl
theorem k_differ_of : compF E0 true h_differ_of Tryd.f62 = some c_differ_of := by kernel_rfl
theorem n_ok_differ_of : (Tryd.f62.name == "runtime.NumGoroutine") = false := by kernel_rfl
theorem k_differ_either : compF E0 true h_differ_either Tryd.f63 = some c_differ_either := by kernel_rfl
theorem n_ok_differ_either : (Tryd.f63.name == "runtime.NumGoroutine") = false := by kernel_rfl
theorem k_differ_Tell_1 : compF E0 true h_differ_Tell_1 Tryd.f64 = some c_differ_Tell_1 := by kernel_rfl
theorem n_ok_differ_Tell_1 : (Tryd.f64.name == "runtime.NumGoroutine") = false := by kernel_rfl
theorem k_differ_Tell_2 : compF E0 true h_differ_Tell_2 Tryd.f65 = some c_differ_Tell_2 := by kernel_rfl
theorem n_ok_differ_Tell_2 : (Tryd.f65.name == "runtime.NumGoroutine") = false := by kernel_rfl
theorem k_heap_Same : compF E0 true h_heap_Same Tryd.f66 = some c_heap_Same := by kernel_rfl
theorem n_ok_heap_Same : (Tryd.f66.name == "runtime.NumGoroutine") = false := by kernel_rfl
theorem k_differ_Tell_3 : compF E0 true h_differ_Tell_3 Tryd.f67 = some c_differ_Tell_3 := by kernel_rfl
theorem n_ok_differ_Tell_3 : (Tryd.f67.name == "runtime.NumGoroutine") = false := by kernel_rfl
theorem k_joineryref08_Right : compF E0 true h_joineryref08_Right Tryd.f68 = some c_joineryref08_Right := by kernel_rfl
theorem n_ok_joineryref08_Right : (Tryd.f68.name == "runtime.NumGoroutine") = false := by kernel_rfl
theorem k_step_Right : compF E0 true h_step_Right Tryd.f73 = some c_step_Right := by kernel_rfl
theorem n_ok_step_Right : (Tryd.f73.name == "runtime.NumGoroutine") = false := by kernel_rfl
theorem k_step_own : compF E0 true h_step_own Tryd.f74 = some c_step_own := by kernel_rfl
theorem n_ok_step_own : (Tryd.f74.name == "runtime.NumGoroutine") = false := by kernel_rfl
theorem k_step_work_do : compF E0 false h_step_work_do Tryd.f75 = some c_step_work_do := by kernel_rfl
theorem n_ok_step_work_do : (Tryd.f75.name == "runtime.NumGoroutine") = false := by kernel_rfl
theorem k_joineryref03_Check : compF E0 true h_joineryref03_Check Tryd.f76 = some c_joineryref03_Check := by kernel_rfl
theorem n_ok_joineryref03_Check : (Tryd.f76.name == "runtime.NumGoroutine") = false := by kernel_rfl
theorem k_asm_Parse_1 : compF E0 false h_asm_Parse_1 Tryd.f77 = some c_asm_Parse_1 := by kernel_rfl
theorem n_ok_asm_Parse_1 : (Tryd.f77.name == "runtime.NumGoroutine") = false := by kernel_rfl
theorem k_ins_Parse : compF E0 true h_ins_Parse Tryd.f78 = some c_ins_Parse := by kernel_rfl
theorem n_ok_ins_Parse : (Tryd.f78.name == "runtime.NumGoroutine") = false := by kernel_rfl
theorem k_asm_Check : compF E0 true h_asm_Check Tryd.f79 = some c_asm_Check := by kernel_rfl
theorem n_ok_asm_Check : (Tryd.f79.name == "runtime.NumGoroutine") = false := by kernel_rfl
theorem k_loc_Right : compF E0 true h_loc_Right Tryd.f81 = some c_loc_Right := by kernel_rfl
theorem n_ok_loc_Right : (Tryd.f81.name == "runtime.NumGoroutine") = false := by kernel_rfl
theorem k_env_New : compF E0 true h_env_New Tryd.f82 = some c_env_New := by kernel_rfl
theorem n_ok_env_New : (Tryd.f82.name == "runtime.NumGoroutine") = false := by kernel_rfl
theorem k_path_From_1 : compF E0 false h_path_From_1 Tryd.f83 = some c_path_From_1 := by kernel_rfl
theorem n_ok_path_From_1 : (Tryd.f83.name == "runtime.NumGoroutine") = false := by kernel_rfl
theorem k_ins_Moves : compF E0 true h_ins_Moves Tryd.f84 = some c_ins_Moves := by kernel_rfl
theorem n_ok_ins_Moves : (Tryd.f84.name == "runtime.NumGoroutine") = false := by kernel_rfl
theorem k_env_After : compF E0 true h_env_After Tryd.f85 = some c_env_After := by kernel_rfl
theorem n_ok_env_After : (Tryd.f85.name == "runtime.NumGoroutine") = false := by kernel_rfl
theorem k_loc_Reg : compF E0 true h_loc_Reg Tryd.f86 = some c_loc_Reg := by kernel_rfl
theorem n_ok_loc_Reg : (Tryd.f86.name == "runtime.NumGoroutine") = false := by kernel_rfl
theorem k_joineryref09_From : compF E0 true h_joineryref09_From Tryd.f88 = some c_joineryref09_From := by kernel_rfl
theorem n_ok_joineryref09_From : (Tryd.f88.name == "runtime.NumGoroutine") = false := by kernel_rfl
theorem k_ins_of : compF E0 true h_ins_of Tryd.f91 = some c_ins_of := by kernel_rfl
theorem n_ok_ins_of : (Tryd.f91.name == "runtime.NumGoroutine") = false := by kernel_rfl
theorem k_ins_field : compF E0 false h_ins_field Tryd.f92 = some c_ins_field := by kernel_rfl
theorem n_ok_ins_field : (Tryd.f92.name == "runtime.NumGoroutine") = false := by kernel_rfl
theorem k_run_Run : compF E0 true h_run_Run Tryd.f93 = some c_run_Run := by kernel_rfl
theorem n_ok_run_Run : (Tryd.f93.name == "runtime.NumGoroutine") = false := by kernel_rfl
theorem k_heap_Right : compF E0 true h_heap_Right Tryd.f95 = some c_heap_Right := by kernel_rfl
theorem n_ok_heap_Right : (Tryd.f95.name == "runtime.NumGoroutine") = false := by kernel_rfl
theorem k_step_work_number : compF E0 true h_step_work_number Tryd.f96 = some c_step_work_number := by kernel_rfl
theorem n_ok_step_work_number : (Tryd.f96.name == "runtime.NumGoroutine") = false := by kernel_rfl
theorem k_step_work_set : compF E0 false h_step_work_set Tryd.f97 = some c_step_work_set := by kernel_rfl
theorem n_ok_step_work_set : (Tryd.f97.name == "runtime.NumGoroutine") = false := by kernel_rfl
theorem k_heap_Load : compF E0 true h_heap_Load Tryd.f98 = some c_heap_Load := by kernel_rfl
theorem n_ok_heap_Load : (Tryd.f98.name == "runtime.NumGoroutine") = false := by kernel_rfl
theorem k_heap_Store : compF E0 true h_heap_Store Tryd.f99 = some c_heap_Store := by kernel_rfl
theorem n_ok_heap_Store : (Tryd.f99.name == "runtime.NumGoroutine") = false := by kernel_rfl
theorem k_step_work_call : compF E0 false h_step_work_call Tryd.f100 = some c_step_work_call := by kernel_rfl
theorem n_ok_step_work_call : (Tryd.f100.name == "runtime.NumGoroutine") = false := by kernel_rfl
theorem k_num_Do : compF E0 true h_num_Do Tryd.f101 = some c_num_Do := by kernel_rfl
theorem n_ok_num_Do : (Tryd.f101.name == "runtime.NumGoroutine") = false := by kernel_rfl
theorem k_step_work_move : compF E0 false h_step_work_move Tryd.f102 = some c_step_work_move := by kernel_rfl
theorem n_ok_step_work_move : (Tryd.f102.name == "runtime.NumGoroutine") = false := by kernel_rfl
theorem k_joineryref03_only : compF E0 true h_joineryref03_only Tryd.f103 = some c_joineryref03_only := by kernel_rfl
theorem n_ok_joineryref03_only : (Tryd.f103.name == "runtime.NumGoroutine") = false := by kernel_rfl
theorem k_joineryref03_place : compF E0 true h_joineryref03_place Tryd.f104 = some c_joineryref03_place := by kernel_rfl
theorem n_ok_joineryref03_place : (Tryd.f104.name == "runtime.NumGoroutine") = false := by kernel_rfl
theorem k_joineryref03_reg : compF E0 true h_joineryref03_reg Tryd.f105 = some c_joineryref03_reg := by kernel_rfl
theorem n_ok_joineryref03_reg : (Tryd.f105.name == "runtime.NumGoroutine") = false := by kernel_rfl
theorem k_ins_words : compF E0 true h_ins_words Tryd.f106 = some c_ins_words := by kernel_rfl
theorem n_ok_ins_words : (Tryd.f106.name == "runtime.NumGoroutine") = false := by kernel_rfl
theorem k_ins_fill : compF E0 false h_ins_fill Tryd.f107 = some c_ins_fill := by kernel_rfl
theorem n_ok_ins_fill : (Tryd.f107.name == "runtime.NumGoroutine") = false := by kernel_rfl
theorem k_ins_Check : compF E0 true h_ins_Check Tryd.f108 = some c_ins_Check := by kernel_rfl
theorem n_ok_ins_Check : (Tryd.f108.name == "runtime.NumGoroutine") = false := by kernel_rfl
theorem k_env_good : compF E0 true h_env_good Tryd.f109 = some c_env_good := by kernel_rfl
theorem n_ok_env_good : (Tryd.f109.name == "runtime.NumGoroutine") = false := by kernel_rfl
theorem k_joineryref05_New : compF E0 true h_joineryref05_New Tryd.f110 = some c_joineryref05_New := by kernel_rfl
theorem n_ok_joineryref05_New : (Tryd.f110.name == "runtime.NumGoroutine") = false := by kernel_rfl
theorem k_joineryref05_After : compF E0 true h_joineryref05_After Tryd.f111 = some c_joineryref05_After := by kernel_rfl
theorem n_ok_joineryref05_After : (Tryd.f111.name == "runtime.NumGoroutine") = false := by kernel_rfl
theorem k_run_Right : compF E0 true h_run_Right Tryd.f112 = some c_run_Right := by kernel_rfl
theorem n_ok_run_Right : (Tryd.f112.name == "runtime.NumGoroutine") = false := by kernel_rfl
theorem k_heap_in : compF E0 true h_heap_in Tryd.f117 = some c_heap_in := by kernel_rfl
theorem n_ok_heap_in : (Tryd.f117.name == "runtime.NumGoroutine") = false := by kernel_rfl
theorem k_num_deeds : compF E0 false h_num_deeds Tryd.f118 = some c_num_deeds := by kernel_rfl
theorem n_ok_num_deeds : (Tryd.f118.name == "runtime.NumGoroutine") = false := by kernel_rfl
theorem k_num_Parse : compF E0 true h_num_Parse Tryd.f119 = some c_num_Parse := by kernel_rfl
theorem n_ok_num_Parse : (Tryd.f119.name == "runtime.NumGoroutine") = false := by kernel_rfl
theorem k_loc_Parse : compF E0 true h_loc_Parse Tryd.f120 = some c_loc_Parse := by kernel_rfl
theorem n_ok_loc_Parse : (Tryd.f120.name == "runtime.NumGoroutine") = false := by kernel_rfl
theorem k_ins_rest : compF E0 true h_ins_rest Tryd.f121 = some c_ins_rest := by kernel_rfl
theorem n_ok_ins_rest : (Tryd.f121.name == "runtime.NumGoroutine") = false := by kernel_rfl
theorem k_env_Good : compF E0 true h_env_Good Tryd.f122 = some c_env_Good := by kernel_rfl
theorem n_ok_env_Good : (Tryd.f122.name == "runtime.NumGoroutine") = false := by kernel_rfl
theorem k_joineryref05_good : compF E0 true h_joineryref05_good Tryd.f123 = some c_joineryref05_good := by kernel_rfl
theorem n_ok_joineryref05_good : (Tryd.f123.name == "runtime.NumGoroutine") = false := by kernel_rfl
theorem k_joineryref05_place : compF E0 true h_joineryref05_place Tryd.f124 = some c_joineryref05_place := by kernel_rfl
theorem n_ok_joineryref05_place : (Tryd.f124.name == "runtime.NumGoroutine") = false := by kernel_rfl
theorem k_num_deeds_1 : compF E0 true h_num_deeds_1 Tryd.f125 = some c_num_deeds_1 := by kernel_rfl
theorem n_ok_num_deeds_1 : (Tryd.f125.name == "runtime.NumGoroutine") = false := by kernel_rfl
theorem k_num_deeds_2 : compF E0 true h_num_deeds_2 Tryd.f126 = some c_num_deeds_2 := by kernel_rfl
theorem n_ok_num_deeds_2 : (Tryd.f126.name == "runtime.NumGoroutine") = false := by kernel_rfl
theorem k_num_deeds_3 : compF E0 true h_num_deeds_3 Tryd.f127 = some c_num_deeds_3 := by kernel_rfl
theorem n_ok_num_deeds_3 : (Tryd.f127.name == "runtime.NumGoroutine") = false := by kernel_rfl
theorem k_num_deeds_4 : compF E0 true h_num_deeds_4 Tryd.f128 = some c_num_deeds_4 := by kernel_rfl
theorem n_ok_num_deeds_4 : (Tryd.f128.name == "runtime.NumGoroutine") = false := by kernel_rfl
theorem k_num_deeds_5 : compF E0 true h_num_deeds_5 Tryd.f129 = some c_num_deeds_5 := by kernel_rfl
theorem n_ok_num_deeds_5 : (Tryd.f129.name == "runtime.NumGoroutine") = false := by kernel_rfl
theorem k_num_deeds_6 : compF E0 true h_num_deeds_6 Tryd.f130 = some c_num_deeds_6 := by kernel_rfl
theorem n_ok_num_deeds_6 : (Tryd.f130.name == "runtime.NumGoroutine") = false := by kernel_rfl
theorem k_num_deeds_7 : compF E0 true h_num_deeds_7 Tryd.f131 = some c_num_deeds_7 := by kernel_rfl
theorem n_ok_num_deeds_7 : (Tryd.f131.name == "runtime.NumGoroutine") = false := by kernel_rfl
theorem k_num_deeds_8 : compF E0 true h_num_deeds_8 Tryd.f132 = some c_num_deeds_8 := by kernel_rfl
theorem n_ok_num_deeds_8 : (Tryd.f132.name == "runtime.NumGoroutine") = false := by kernel_rfl
theorem k_num_flag : compF E0 true h_num_flag Tryd.f133 = some c_num_flag := by kernel_rfl
theorem n_ok_num_flag : (Tryd.f133.name == "runtime.NumGoroutine") = false := by kernel_rfl
theorem k_num_deeds_9 : compF E0 true h_num_deeds_9 Tryd.f134 = some c_num_deeds_9 := by kernel_rfl
theorem n_ok_num_deeds_9 : (Tryd.f134.name == "runtime.NumGoroutine") = false := by kernel_rfl
theorem k_env_may : compF E0 true h_env_may Tryd.f135 = some c_env_may := by kernel_rfl
theorem n_ok_env_may : (Tryd.f135.name == "runtime.NumGoroutine") = false := by kernel_rfl
theorem k_joineryref05_Good : compF E0 true h_joineryref05_Good Tryd.f136 = some c_joineryref05_Good := by kernel_rfl
theorem n_ok_joineryref05_Good : (Tryd.f136.name == "runtime.NumGoroutine") = false := by kernel_rfl
theorem tabOK : TabOK E0 T := by
  intro f fn h
  unfold T at h
  split at h
  · cases h; exact ⟨_, _, Tryd.func9, k_joinerylaw18_DifferStays, n_ok_joinerylaw18_DifferStays⟩
  · cases h; exact ⟨_, _, Tryd.func10, k_joinerylaw18_DifferBoth, n_ok_joinerylaw18_DifferBoth⟩
  · cases h; exact ⟨_, _, Tryd.func12, k_joinerylaw18_DifferFuel, n_ok_joinerylaw18_DifferFuel⟩
  · cases h; exact ⟨_, _, Tryd.func14, k_joineryref04_Right, n_ok_joineryref04_Right⟩
  · cases h; exact ⟨_, _, Tryd.func27, k_joinerylaw18_great, n_ok_joinerylaw18_great⟩
  · cases h; exact ⟨_, _, Tryd.func28, k_joinerylaw18_knows, n_ok_joinerylaw18_knows⟩
  · cases h; exact ⟨_, _, Tryd.func29, k_differ_Tell, n_ok_differ_Tell⟩
  · cases h; exact ⟨_, _, Tryd.func30, k_differ_Begins, n_ok_differ_Begins⟩
  · cases h; exact ⟨_, _, Tryd.func32, k_differ_Halted, n_ok_differ_Halted⟩
  · cases h; exact ⟨_, _, Tryd.func34, k_joineryref08_Fair, n_ok_joineryref08_Fair⟩
  · cases h; exact ⟨_, _, Tryd.func39, k_run_Begin, n_ok_run_Begin⟩
  · cases h; exact ⟨_, _, Tryd.func40, k_joineryref03_Moves, n_ok_joineryref03_Moves⟩
  · cases h; exact ⟨_, _, Tryd.func41, k_step_Do, n_ok_step_Do⟩
  · cases h; exact ⟨_, _, Tryd.func42, k_joineryref04_Check, n_ok_joineryref04_Check⟩
  · cases h; exact ⟨_, _, Tryd.func43, k_asm_Parse, n_ok_asm_Parse⟩
  · cases h; exact ⟨_, _, Tryd.func45, k_asm_Right, n_ok_asm_Right⟩
  · cases h; exact ⟨_, _, Tryd.func47, k_path_From, n_ok_path_From⟩
  · cases h; exact ⟨_, _, Tryd.func58, k_ins_Uses, n_ok_ins_Uses⟩
  · cases h; exact ⟨_, _, Tryd.func61, k_joinerylaw08_Great, n_ok_joinerylaw08_Great⟩
  · cases h; exact ⟨_, _, Tryd.func62, k_differ_of, n_ok_differ_of⟩
  · cases h; exact ⟨_, _, Tryd.func63, k_differ_either, n_ok_differ_either⟩
  · cases h; exact ⟨_, _, Tryd.func64, k_differ_Tell_1, n_ok_differ_Tell_1⟩
  · cases h; exact ⟨_, _, Tryd.func65, k_differ_Tell_2, n_ok_differ_Tell_2⟩
  · cases h; exact ⟨_, _, Tryd.func66, k_heap_Same, n_ok_heap_Same⟩
  · cases h; exact ⟨_, _, Tryd.func67, k_differ_Tell_3, n_ok_differ_Tell_3⟩
  · cases h; exact ⟨_, _, Tryd.func68, k_joineryref08_Right, n_ok_joineryref08_Right⟩
  · cases h; exact ⟨_, _, Tryd.func73, k_step_Right, n_ok_step_Right⟩
  · cases h; exact ⟨_, _, Tryd.func74, k_step_own, n_ok_step_own⟩
  · cases h; exact ⟨_, _, Tryd.func75, k_step_work_do, n_ok_step_work_do⟩
  · cases h; exact ⟨_, _, Tryd.func76, k_joineryref03_Check, n_ok_joineryref03_Check⟩
  · cases h; exact ⟨_, _, Tryd.func77, k_asm_Parse_1, n_ok_asm_Parse_1⟩
  · cases h; exact ⟨_, _, Tryd.func78, k_ins_Parse, n_ok_ins_Parse⟩
  · cases h; exact ⟨_, _, Tryd.func79, k_asm_Check, n_ok_asm_Check⟩
  · cases h; exact ⟨_, _, Tryd.func81, k_loc_Right, n_ok_loc_Right⟩
  · cases h; exact ⟨_, _, Tryd.func82, k_env_New, n_ok_env_New⟩
  · cases h; exact ⟨_, _, Tryd.func83, k_path_From_1, n_ok_path_From_1⟩
  · cases h; exact ⟨_, _, Tryd.func84, k_ins_Moves, n_ok_ins_Moves⟩
  · cases h; exact ⟨_, _, Tryd.func85, k_env_After, n_ok_env_After⟩
  · cases h; exact ⟨_, _, Tryd.func86, k_loc_Reg, n_ok_loc_Reg⟩
  · cases h; exact ⟨_, _, Tryd.func88, k_joineryref09_From, n_ok_joineryref09_From⟩
  · cases h; exact ⟨_, _, Tryd.func91, k_ins_of, n_ok_ins_of⟩
  · cases h; exact ⟨_, _, Tryd.func92, k_ins_field, n_ok_ins_field⟩
  · cases h; exact ⟨_, _, Tryd.func93, k_run_Run, n_ok_run_Run⟩
  · cases h; exact ⟨_, _, Tryd.func95, k_heap_Right, n_ok_heap_Right⟩
  · cases h; exact ⟨_, _, Tryd.func96, k_step_work_number, n_ok_step_work_number⟩
  · cases h; exact ⟨_, _, Tryd.func97, k_step_work_set, n_ok_step_work_set⟩
  · cases h; exact ⟨_, _, Tryd.func98, k_heap_Load, n_ok_heap_Load⟩
  · cases h; exact ⟨_, _, Tryd.func99, k_heap_Store, n_ok_heap_Store⟩
  · cases h; exact ⟨_, _, Tryd.func100, k_step_work_call, n_ok_step_work_call⟩
  · cases h; exact ⟨_, _, Tryd.func101, k_num_Do, n_ok_num_Do⟩
  · cases h; exact ⟨_, _, Tryd.func102, k_step_work_move, n_ok_step_work_move⟩
  · cases h; exact ⟨_, _, Tryd.func103, k_joineryref03_only, n_ok_joineryref03_only⟩
  · cases h; exact ⟨_, _, Tryd.func104, k_joineryref03_place, n_ok_joineryref03_place⟩
  · cases h; exact ⟨_, _, Tryd.func105, k_joineryref03_reg, n_ok_joineryref03_reg⟩
  · cases h; exact ⟨_, _, Tryd.func106, k_ins_words, n_ok_ins_words⟩
  · cases h; exact ⟨_, _, Tryd.func107, k_ins_fill, n_ok_ins_fill⟩
  · cases h; exact ⟨_, _, Tryd.func108, k_ins_Check, n_ok_ins_Check⟩
  · cases h; exact ⟨_, _, Tryd.func109, k_env_good, n_ok_env_good⟩
  · cases h; exact ⟨_, _, Tryd.func110, k_joineryref05_New, n_ok_joineryref05_New⟩
  · cases h; exact ⟨_, _, Tryd.func111, k_joineryref05_After, n_ok_joineryref05_After⟩
  · cases h; exact ⟨_, _, Tryd.func112, k_run_Right, n_ok_run_Right⟩
  · cases h; exact ⟨_, _, Tryd.func117, k_heap_in, n_ok_heap_in⟩
  · cases h; exact ⟨_, _, Tryd.func118, k_num_deeds, n_ok_num_deeds⟩
  · cases h; exact ⟨_, _, Tryd.func119, k_num_Parse, n_ok_num_Parse⟩
  · cases h; exact ⟨_, _, Tryd.func120, k_loc_Parse, n_ok_loc_Parse⟩
  · cases h; exact ⟨_, _, Tryd.func121, k_ins_rest, n_ok_ins_rest⟩
  · cases h; exact ⟨_, _, Tryd.func122, k_env_Good, n_ok_env_Good⟩
  · cases h; exact ⟨_, _, Tryd.func123, k_joineryref05_good, n_ok_joineryref05_good⟩
  · cases h; exact ⟨_, _, Tryd.func124, k_joineryref05_place, n_ok_joineryref05_place⟩
  · cases h; exact ⟨_, _, Tryd.func125, k_num_deeds_1, n_ok_num_deeds_1⟩
  · cases h; exact ⟨_, _, Tryd.func126, k_num_deeds_2, n_ok_num_deeds_2⟩
  · cases h; exact ⟨_, _, Tryd.func127, k_num_deeds_3, n_ok_num_deeds_3⟩
  · cases h; exact ⟨_, _, Tryd.func128, k_num_deeds_4, n_ok_num_deeds_4⟩
  · cases h; exact ⟨_, _, Tryd.func129, k_num_deeds_5, n_ok_num_deeds_5⟩
  · cases h; exact ⟨_, _, Tryd.func130, k_num_deeds_6, n_ok_num_deeds_6⟩
  · cases h; exact ⟨_, _, Tryd.func131, k_num_deeds_7, n_ok_num_deeds_7⟩
  · cases h; exact ⟨_, _, Tryd.func132, k_num_deeds_8, n_ok_num_deeds_8⟩
  · cases h; exact ⟨_, _, Tryd.func133, k_num_flag, n_ok_num_flag⟩
  · cases h; exact ⟨_, _, Tryd.func134, k_num_deeds_9, n_ok_num_deeds_9⟩
  · cases h; exact ⟨_, _, Tryd.func135, k_env_may, n_ok_env_may⟩
  · cases h; exact ⟨_, _, Tryd.func136, k_joineryref05_Good, n_ok_joineryref05_Good⟩
  · cases h
end Go.Proofs.YtbmlnfceanfbmaaDoor.M2
/- From M2's law to the row: what all laws of this seat share. -/
namespace Go.Proofs.YtbmlnfceanfbmaaDoor.M2
open Go Go.ChangeShapes Go.WideShapes Go.ChangeAt Go.RowKit
theorem own0 : ownKnob Tryd.prog.godebug = none := by kernel_rfl
theorem laidOut0 : laidOutB Tryd.prog = true := by kernel_rfl
theorem gShapes : Tryd.prog.globalNamed "joinery/ins.shapes" = some 1 := by kernel_rfl
abbrev laid1 {H : Type} : List (String × DataW H) := [("joinery/ins.shapes", Rows.laid_joinery_ins_shapes)]
theorem door_met (os : Go.Os) (args : Array Value) : laidMetH Tryd.prog laid1 ((World.doorLaid Tryd.prog 400 os).forCall (fun _ _ => 0) ⟨#[], args, []⟩).memory :=
  laidMetH_of_parts3 (fuel := 8) (laidMet_of_run' 8 (by kernel_rfl) (by kernel_rfl)) (by kernel_rfl) (by kernel_rfl)
theorem tShapes : (Tryd.prog.globals[1]?).map (·.type) = some 194 := by kernel_rfl
theorem c140 : Tryd.prog.cellsOf 172 = 2 := by kernel_rfl
theorem c156 : Tryd.prog.cellsOf 194 = 36 := by kernel_rfl
theorem c9 : Tryd.prog.cellsOf 9 = 1 := by kernel_rfl
def words : List (List UInt8 × List UInt8) := [([99, 111, 110, 115, 116], [100, 78]), ([109, 111, 118], [100, 97]), ([115, 119, 97, 112], [100, 97]), ([97, 100, 100], [68, 65, 66]), ([115, 117, 98], [68, 65, 66]), ([109, 117, 108], [68, 65, 66]), ([100, 105, 118], [68, 65, 66]), ([97, 110, 100], [68, 65, 66]), ([111, 114], [68, 65, 66]), ([120, 111, 114], [68, 65, 66]), ([108, 101, 115, 115], [68, 65, 66]), ([115, 97, 109, 101], [68, 65, 66]), ([108, 111, 97, 100], [68, 65]), ([115, 116, 111, 114, 101], [65, 66]), ([99, 97, 108, 108], [68, 65, 78]), ([106, 117, 109, 112], [84]), ([122, 101, 114, 111], [65, 84]), ([114, 101, 116], [65])]
theorem gl_words : gl_1 = words.flatMap fun p => [.str p.1, .str p.2] := rfl
theorem tab_ok {E : En} {g : G} : ∀ (ds : List (List UInt8 × List UInt8)) (cs : List Value), cs.length = 2 * ds.length → (∀ (i : Nat) (p : List UInt8 × List UInt8), ds[i]? = some p → ∃ x y : ByteArray, (cs.drop (i * 2)).take 2 = [.string x, .string y] ∧ x.data.toList = p.1 ∧ y.data.toList = p.2) →
    VRs E g (ds.flatMap fun p => [.str p.1, .str p.2]) cs ∧ One cs
  | [], cs, hl, _ => by
    have : cs = [] := List.eq_nil_of_length_eq_zero (by simpa using hl)
    subst this
    exact ⟨by simp [VRs], by simp [One]⟩
  | p :: ds, cs, hl, h => by
    obtain ⟨x, y, h1, h2, h3⟩ := h 0 p rfl
    match cs, hl with
    | c1 :: c2 :: cs, hl =>
      simp only [Nat.zero_mul, List.drop_zero, List.take_succ_cons, List.take_zero, List.cons.injEq, and_true] at h1
      obtain ⟨rfl, rfl⟩ := h1
      obtain ⟨ih1, ih2⟩ := tab_ok (E := E) (g := g) ds cs (by simp at hl; omega) (fun i q hq => by
        obtain ⟨x', y', k1, k2, k3⟩ := h (i + 1) q (by simpa using hq)
        rw [show (i + 1) * 2 = i * 2 + 1 + 1 by omega, List.drop_succ_cons, List.drop_succ_cons] at k1
        exact ⟨x', y', k1, k2, k3⟩)
      refine ⟨?_, ?_⟩
      · simp only [List.flatMap_cons, List.cons_append, List.nil_append, VRs, VR]
        exact ⟨_, _, rfl, ⟨x, rfl, h2⟩, _, _, rfl, ⟨y, rfl, h3⟩, ih1⟩
      · intro v hv
        simp only [List.mem_cons] at hv
        rcases hv with rfl | rfl | hv
        · rfl
        · rfl
        · exact ih2 v hv
    | [], hl => simp at hl
    | [_], hl => simp at hl; omega
set_option maxRecDepth 100000 in
theorem glob_laid {W : World} (h : laidMetH Tryd.prog laid1 W) : GlobOK E0 (g0 W) := by
  rw [MakeChecks.laidMetH_plain _ _ _ (by kernel_rfl)] at h
  obtain ⟨ps, ⟨g, t, cs, f, p, q, hg, ht, hv, hd, _, _⟩, _, _⟩ := h
  obtain rfl := Option.some.inj (gShapes.symm.trans hg)
  obtain rfl := Option.some.inj (tShapes.symm.trans ht)
  obtain ⟨xs, m1, rfl, hx1, hlen, hn, hel⟩ := DataW.trod_array Tryd.underlying194 hd
  simp only [Prod.mk.injEq] at hx1
  have hx2 : xs.map (·.1) = words.map fun p => .agg [.lit (.string p.1), .lit (.string p.2)] := by
    have := hx1.1
    injection this with this
    exact this.symm
  have key := tab_ok (E := E0) (g := g0 W) words cs.toList (by rw [hlen, c156]; rfl) (fun i p hp => by
    have hi : i < 18 := (List.getElem?_eq_some_iff.1 hp).1
    have h1 := hel i hi
    rw [c140] at h1
    have h2 : (xs.map (·.1))[i]? = some (.agg [.lit (.string p.1), .lit (.string p.2)]) := by rw [hx2, List.getElem?_map, hp]; rfl
    rw [List.getElem?_map] at h2
    obtain ⟨x, hx, hx'⟩ := Option.map_eq_some_iff.1 h2
    rw [hx] at h1
    obtain ⟨ys, m2, rfl, hy, hyl, hyn, hf⟩ := DataW.trod_struct Tryd.underlying172 h1
    subst hy
    have hx' : DataW.agg (ys.map (·.1)) = DataW.agg [.lit (.string p.1), .lit (.string p.2)] := hx'
    injection hx' with hx'
    have f0 := hf 0 _ rfl
    have f1 := hf 1 _ rfl
    have f0 : DataW.trod (fun _ => ()) Tryd.prog W 0 (fun _ => true) false m2 9 ((((cs.toList.drop (i * 2)).take 2).drop 0).take (Tryd.prog.cellsOf 9)) = ys[0]? := f0
    have f1 : DataW.trod (fun _ => ()) Tryd.prog W 0 (fun _ => true) false m2 9 ((((cs.toList.drop (i * 2)).take 2).drop 1).take (Tryd.prog.cellsOf 9)) = ys[1]? := f1
    rw [c9] at f0 f1
    match ys, hyn, hx' with
    | [y0, y1], _, hx' =>
      simp only [List.map_cons, List.map_nil, List.cons.injEq, and_true] at hx'
      obtain ⟨s0, a1, a2, _⟩ := DataW.trod_string Tryd.underlying9 f0
      obtain ⟨s1, b1, b2, _⟩ := DataW.trod_string Tryd.underlying9 f1
      rw [c140] at hyl
      refine ⟨s0, s1, ?_, ?_, ?_⟩
      · match hc : (cs.toList.drop (i * 2)).take 2, hyl with
        | [u, v], _ =>
          rw [hc] at a1 b1
          simp at a1 b1
          rw [a1, b1]
      · rw [a2] at hx'
        simpa using hx'.1
      · rw [b2] at hx'
        simpa using hx'.2)
  intro n us hn'
  have hcell : ∀ (k : Nat) v, cs.toList[k]? = some v → W.cell? ⟨1, 0 + k, none⟩ = some v := fun k v hk => by
    rw [Nat.zero_add, World.var?_cell hg hv k]
    simpa using hk
  simp only [E0] at hn'
  have : n = 1 ∧ us = gl_1 := by
    by_cases hn0 : n = 1
    · subst hn0
      simp at hn'
      exact ⟨rfl, hn'.symm⟩
    · have hb : (n == 1) = false := by simpa using hn0
      simp only [List.lookup, hb] at hn'
      cases hn'
  obtain ⟨rfl, rfl⟩ := this
  simp only [VR]
  refine ⟨?_, 1, 0, cs.toList, rfl, ⟨.inr ⟨rfl, ?_⟩, key.2, hcell⟩, by rw [gl_words]; exact key.1⟩
  · rw [gl_words, Clos_iff]
    intro u hu
    obtain ⟨p, _, hp⟩ := List.mem_flatMap.1 hu
    simp at hp
    rcases hp with rfl | rfl <;> simp [Clo]
  · have hl : cs.toList.length = 36 := by rw [hlen, c156]
    have h0 := hcell 0 (cs.toList[0]'(by omega)) (by rw [List.getElem?_eq_getElem])
    exact (cell_spot h0).2
def Law (f : Nat) (ts : List TypeId) : Prop := ∀ us, us.length = ts.length → (∀ (j : Nat) t u, ts[j]? = some t → us[j]? = some u → TypedA Tryd.prog 8 t u) → ∃ n, M2.call T n f us [] = some (.bool true, [])
set_option maxRecDepth 100000 in
theorem lifted {f : Nat} {fn : Func} {s : ChangeSpec} {tb : TypeId} (law : Law f fn.params.toList) (os : Go.Os) (started : os.Started) {H : Type} (enc : TypeId × Value → H)
    (hinit : Tryd.prog.inits.idxOf? f = none) (hfn : Tryd.prog.funcs[f]? = some fn) (hvars : s.vars = []) (hps : fn.params.toList.all (fun t => paramT Tryd.prog 8 t && Tryd.prog.readableRec t && decide (t < Tryd.prog.types.size)) = true)
    (hr : fn.resultTypes = #[tb]) (htb : Tryd.prog.underlying tb = some .bool) (hs : ∀ ds : List (DataW H), ds.length = fn.params.toList.length → s.fn H ds = { results := [.lit (.bool true)], args := ds })
    (witness : ∃ (w : World) (tape : Tape) (i : Input), w.os = os ∧ (w.forCall tape i).Shaped Tryd.checked.prog ∧ i.vars = [] ∧ Input.okWide Tryd.checked.prog (w.forCall tape i) .any w.heap.size f i ∧
      ((s.pre enc Tryd.checked.prog fn [] false (w.forCall tape i).memory i.args ∧ laidMetH Tryd.prog laid1 (w.forCall tape i).memory) ∧ sizedMet enc Tryd.checked.prog fn (OpenSpec.ofChange s) false (w.forCall tape i).memory i.args) ∧ ({} : Assume).holds Tryd.checked.prog (lone (Frame.enter Tryd.checked.prog f i.args .normal) [] (w.forCall tape i))) :
    ReturnsInHanded {} Tryd.checked os f .any (fun w args => (s.pre enc Tryd.prog fn [] false w args ∧ laidMetH Tryd.prog laid1 w) ∧ sizedMet enc Tryd.prog fn (OpenSpec.ofChange s) false w args) (s.post enc Tryd.prog fn false true false false) := by
  refine returnsInHanded_of_change_and (C := Tryd.checked) (X := fun w _ => laidMetH Tryd.prog laid1 w) (fun _ _ _ hh h => h.of_heap hh) own0 started hinit hfn witness ?_
  intro W base args ds gs before hval hW _ _ hL _
  have hps' : ∀ t ∈ fn.params.toList, (paramT Tryd.prog 8 t = true ∧ Tryd.prog.readableRec t = true) ∧ t < Tryd.prog.types.size := by
    intro t ht
    have := List.all_eq_true.1 hps t ht
    simpa using this
  have hW' := hW
  obtain ⟨p, q, hA, hV, rfl, _, _⟩ := hW
  rw [hvars] at hV
  obtain ⟨rfl, rfl⟩ := trodVars_none hV
  have hlen : ∀ (ts : List TypeId) (vs : List Value) (ds : List (DataW H)) (ps : List MemPlace), DataW.TrodAll enc Tryd.prog W 0 (fun _ => true) true ts vs ds ps → ds.length = ts.length := by
    intro ts
    induction ts with
    | nil => intro vs ds ps h; cases vs <;> cases ds <;> first | rfl | exact h.elim
    | cons t ts ih =>
      intro vs ds ps h
      cases vs with
      | nil => exact h.elim
      | cons v vs => cases ds with
        | nil => exact h.elim
        | cons d ds => obtain ⟨_, _, _, h2, _⟩ := h; simp [ih _ _ _ h2]
  have hc := law_calls (E := E0) tabOK (f := f) (d := 8) (W := W) (base := base) (ts := fn.params.toList) (args := args) (glob_laid hL) (fun t ht => (hps' t ht).1.1)
    (fun j t v ht hv => hval j t v (by simpa using ht) hv) hA law
  refine hc.mono fun e W' ⟨he, hb⟩ => ?_
  subst he
  exact ⟨_, rfl, post_below laidOut0 hvars (fun t ht => ⟨(hps' t ht).1.2, (hps' t ht).2⟩) hW' hb hr htb (by rw [List.append_nil]; exact hs ds (hlen _ _ _ _ hA))⟩
end Go.Proofs.YtbmlnfceanfbmaaDoor.M2
