/- A row, and its card, from the law in M2. -/
import Derived.Test.YtapibckmdpdljaaDoorRows
import Derived.Test.YtapibckmdpdljaaDoorCc
import Derived.Test.YtapibckmdpdljaaDoorCd
import Derived.LaidMore
import Derived.OpenShut
import Derived.Stop.Joined
import Derived.Test.YtapibckmdpdljaaDoorCards
import Derived.Test.YtapibckmdpdljaaDoorTie
import Derived.SevenTiedAt
set_option linter.unusedSimpArgs false
set_option linter.unusedVariables false
set_option linter.unusedSectionVars false
/- M2's code is what the program compiles to. Printed by wip/gen. -/
namespace Go.Proofs.YtapibckmdpdljaaDoor.M2
open Go

noncomputable def E0 : En := ⟨Tryd.prog, [102, 106], [(0, gl_0)]⟩
def h_joinerylaw09_PathEndless : List (Nat × RH) := [(0, ⟨[0, 3], []⟩), (1, ⟨[0, 3, 27], []⟩), (2, ⟨[4], []⟩), (3, ⟨[0, 3, 5, 6], []⟩), (4, ⟨[0, 3, 5, 37], []⟩), (5, ⟨[4], []⟩), (6, ⟨[0, 3, 5, 40], []⟩), (7, ⟨[4], []⟩), (8, ⟨[0, 3, 7], []⟩), (9, ⟨[0, 3, 7, 61], []⟩), (11, ⟨[0, 3, 7, 82], []⟩), (12, ⟨[4], []⟩), (13, ⟨[0, 3, 7, 8, 9, 10, 11], []⟩), (14, ⟨[0, 3, 7, 8, 102], []⟩), (15, ⟨[4], []⟩), (16, ⟨[0, 3, 7], []⟩), (10, ⟨[0, 3, 7], []⟩), (17, ⟨[4], []⟩)]
def h_joinerylaw09_PathRuns : List (Nat × RH) := [(0, ⟨[0, 3], []⟩), (1, ⟨[0, 3, 28], []⟩), (2, ⟨[4], []⟩), (3, ⟨[0, 3, 5, 6], []⟩), (4, ⟨[0, 3, 5, 38], []⟩), (5, ⟨[4], []⟩), (6, ⟨[0, 3, 5, 7], []⟩), (7, ⟨[0, 3, 5, 7, 8], []⟩), (8, ⟨[0, 3, 5, 7, 8, 43], []⟩), (10, ⟨[0, 3, 5, 7, 8, 9, 10, 11, 12], []⟩), (11, ⟨[0, 3, 5, 7, 8, 9, 65], []⟩), (12, ⟨[4], []⟩), (13, ⟨[0, 3, 5, 7, 8], []⟩), (9, ⟨[0, 3, 5, 7, 8], []⟩), (14, ⟨[0, 3, 5, 7, 69], []⟩), (15, ⟨[4], []⟩), (16, ⟨[4], []⟩)]
def h_joinerylaw09_knows : List (Nat × RH) := [(0, ⟨[], []⟩), (1, ⟨[1, 3], []⟩), (2, ⟨[3, 4, 5], []⟩), (3, ⟨[3, 4, 5, 6], []⟩), (4, ⟨[3, 4, 5, 9, 10], []⟩), (5, ⟨[0], []⟩)]
def h_path_From : List (Nat × RH) := [(0, ⟨[1, 2, 4], []⟩), (1, ⟨[1, 2, 4, 21], []⟩), (2, ⟨[4, 5], []⟩), (3, ⟨[1, 2, 4, 6], []⟩), (4, ⟨[2, 4, 6, 7], []⟩), (5, ⟨[4, 6, 7, 8], []⟩), (6, ⟨[4, 6, 7, 8, 28], []⟩), (7, ⟨[4, 7, 32], []⟩), (8, ⟨[4, 5], []⟩), (9, ⟨[4, 5], []⟩)]
def h_joineryref09_Fair : List (Nat × RH) := [(0, ⟨[0, 1], []⟩), (1, ⟨[4], []⟩)]
def h_joineryref09_From : List (Nat × RH) := [(0, ⟨[0, 1, 4], []⟩), (1, ⟨[0, 4, 5], []⟩), (2, ⟨[0, 4, 5, 6], []⟩), (3, ⟨[0, 4, 5, 6, 15], []⟩), (5, ⟨[0, 4, 5, 6, 7], []⟩), (6, ⟨[0, 4, 5, 6, 7, 25], []⟩), (7, ⟨[4], []⟩), (8, ⟨[0, 4, 5, 6, 7, 8], []⟩), (9, ⟨[0, 4, 5, 6, 7, 8, 32], []⟩), (10, ⟨[0, 4, 5, 6, 7, 8], []⟩), (11, ⟨[0, 4, 5, 6], []⟩), (4, ⟨[0, 4, 5, 6], []⟩), (12, ⟨[4], []⟩)]
def h_joineryref05_Same : List (Nat × RH) := [(0, ⟨[0, 1], []⟩), (1, ⟨[0, 1, 10], []⟩), (2, ⟨[4], []⟩), (3, ⟨[0, 1, 5], []⟩), (4, ⟨[0, 1, 5, 14], []⟩), (6, ⟨[0, 1, 5, 25], []⟩), (7, ⟨[4], []⟩), (5, ⟨[0, 1, 5], []⟩), (8, ⟨[4], []⟩)]
def h_joinerylaw05_As : List (Nat × RH) := [(0, ⟨[1], []⟩), (1, ⟨[1, 3], [(0, ⟨false, (some (96, 2, false)), []⟩)]⟩), (2, ⟨[1, 3, 4], []⟩), (3, ⟨[1, 3, 4, 6], []⟩), (5, ⟨[1, 3, 4], []⟩), (4, ⟨[1, 3, 4], []⟩), (6, ⟨[2], []⟩)]
def h_env_New : List (Nat × RH) := [(0, ⟨[0], []⟩), (1, ⟨[0, 1], []⟩), (2, ⟨[0, 1, 3], []⟩), (3, ⟨[0, 1, 3, 4], []⟩), (4, ⟨[0, 1, 2, 3], []⟩), (5, ⟨[0, 1, 3], []⟩), (6, ⟨[0, 1, 3], []⟩), (7, ⟨[0], []⟩)]
def h_joineryref03_Moves : List (Nat × RH) := [(0, ⟨[1], []⟩), (1, ⟨[2], []⟩)]
def h_env_Then : List (Nat × RH) := [(0, ⟨[2, 3, 4], []⟩), (1, ⟨[2, 3, 4], []⟩), (2, ⟨[2, 3, 4, 5], []⟩), (3, ⟨[2, 4, 5, 14, 15], []⟩), (4, ⟨[2, 4, 5, 14, 15, 16], []⟩), (5, ⟨[2, 4, 5, 6, 7, 14, 15], []⟩), (6, ⟨[2, 4, 5, 6, 14, 15, 19], []⟩), (7, ⟨[2, 4, 5, 6, 14, 15, 21, 22], []⟩), (8, ⟨[2, 4, 5, 6, 8, 14, 15], []⟩), (9, ⟨[2, 4, 5, 14, 15], []⟩), (10, ⟨[2, 4, 5, 14, 15], []⟩), (11, ⟨[4], []⟩)]
def h_env_After : List (Nat × RH) := [(0, ⟨[2, 3, 4], []⟩), (1, ⟨[2, 3, 4], []⟩), (2, ⟨[2, 3, 4, 21], []⟩), (3, ⟨[4], []⟩), (4, ⟨[2, 3, 4, 24], []⟩), (5, ⟨[2, 3, 4, 24, 25], []⟩), (6, ⟨[2, 4], []⟩), (7, ⟨[2, 3, 4, 24, 34], []⟩), (8, ⟨[2, 4], []⟩), (9, ⟨[2, 3, 4, 43], []⟩), (10, ⟨[2, 4], []⟩), (11, ⟨[4], []⟩)]
def h_joineryref04_Right : List (Nat × RH) := [(0, ⟨[0], []⟩), (1, ⟨[4], []⟩), (2, ⟨[2], []⟩)]
def h_joineryref07_Right : List (Nat × RH) := [(0, ⟨[0, 3], []⟩), (1, ⟨[3, 37], []⟩), (2, ⟨[4], []⟩), (3, ⟨[3, 5], []⟩), (4, ⟨[3, 5, 39], []⟩), (6, ⟨[3, 5, 57], []⟩), (7, ⟨[4], []⟩), (5, ⟨[3, 5], []⟩), (8, ⟨[4], []⟩)]
def h_joinerylaw07_As : List (Nat × RH) := [(0, ⟨[1, 2], []⟩), (1, ⟨[1, 2, 3], [(8, ⟨false, none, [(0, 75, 2, false)]⟩)]⟩), (2, ⟨[1, 2, 3, 4], []⟩), (3, ⟨[1, 2, 3, 4, 13], []⟩), (5, ⟨[1, 2, 3, 4], []⟩), (4, ⟨[1, 2, 3, 4], []⟩), (6, ⟨[2], []⟩)]
def h_step_Do : List (Nat × RH) := [(0, ⟨[0, 2, 4, 6, 8], []⟩), (1, ⟨[0, 2, 4, 6, 8, 17], []⟩), (2, ⟨[6, 7, 8, 9], []⟩), (3, ⟨[4, 6, 8, 10], []⟩), (4, ⟨[4, 6, 8, 10, 34, 35, 36], []⟩), (5, ⟨[4, 6, 8, 10, 34, 35, 36, 37], []⟩), (6, ⟨[4, 6, 8, 10, 12, 34, 35, 36], []⟩), (7, ⟨[4, 6, 8, 10, 34, 35, 36, 45], []⟩), (8, ⟨[6, 7, 8, 9], []⟩), (9, ⟨[4, 6, 8, 10, 34, 35, 36], []⟩), (10, ⟨[6, 8, 10], []⟩), (11, ⟨[6, 8, 10, 13], []⟩), (12, ⟨[6, 8, 10, 13, 67], []⟩), (13, ⟨[6, 8, 10, 13], []⟩), (14, ⟨[6, 7, 8, 9], []⟩)]
def h_env_Fill : List (Nat × RH) := [(0, ⟨[2, 3, 4], []⟩), (1, ⟨[2, 3, 4, 5], []⟩), (2, ⟨[3, 4, 5, 11, 12], []⟩), (3, ⟨[3, 4, 5, 11, 12, 13], []⟩), (4, ⟨[3, 4, 5, 6, 7, 11, 12], []⟩), (5, ⟨[3, 4, 5, 6, 11, 12, 16], []⟩), (6, ⟨[3, 4, 5, 6, 11, 12, 16, 18, 19], []⟩), (7, ⟨[3, 4, 5, 6, 8, 11, 12], []⟩), (8, ⟨[3, 4, 5, 11, 12], []⟩), (9, ⟨[3, 4, 5, 6, 11, 12, 27, 28], []⟩), (10, ⟨[3, 4, 5, 6, 9, 11, 12], []⟩), (11, ⟨[3, 4, 5, 11, 12], []⟩), (12, ⟨[3, 4, 5, 11, 12], []⟩), (13, ⟨[4], []⟩)]
def h_joineryref06_Same : List (Nat × RH) := [(0, ⟨[0, 1], []⟩), (1, ⟨[0, 1, 5], []⟩), (2, ⟨[0, 1, 5, 15], []⟩), (4, ⟨[0, 1, 5, 26], []⟩), (5, ⟨[4], []⟩), (3, ⟨[0, 1, 5], []⟩), (6, ⟨[4], []⟩)]
def h_asm_Parse : List (Nat × RH) := [(0, ⟨[1], []⟩), (1, ⟨[1, 15], []⟩), (2, ⟨[2, 3, 4], []⟩), (3, ⟨[1, 5], []⟩), (4, ⟨[1, 5, 6], []⟩), (5, ⟨[1, 5, 6, 7], []⟩), (6, ⟨[1, 5, 6, 7, 8], []⟩), (7, ⟨[1, 5, 6, 7, 8, 18], []⟩), (8, ⟨[1, 5, 6, 7, 8, 18, 19, 20], []⟩), (9, ⟨[1, 5, 6, 7, 8, 9, 10, 18], []⟩), (10, ⟨[1, 5, 6, 7, 8, 9, 18, 24], []⟩), (11, ⟨[1, 5, 6, 7, 8, 9, 18, 28], []⟩), (12, ⟨[2, 3, 4], []⟩), (13, ⟨[1, 5, 6, 7, 8, 18], []⟩), (14, ⟨[5, 6, 7, 35], []⟩), (15, ⟨[2, 3, 4], []⟩), (16, ⟨[5, 6, 11, 12], []⟩), (17, ⟨[5, 6, 11, 12, 43], []⟩), (18, ⟨[2, 3, 4], []⟩), (19, ⟨[6, 11, 12, 48], []⟩), (20, ⟨[11, 12], []⟩), (21, ⟨[2, 3, 4], []⟩)]
def h_joinerylaw05_AsSource : List (Nat × RH) := [(0, ⟨[0, 2], []⟩), (1, ⟨[0, 2, 3, 4], []⟩), (2, ⟨[0, 2, 3, 12], []⟩), (3, ⟨[2], []⟩), (4, ⟨[2, 5, 6], []⟩), (5, ⟨[2, 5, 21], []⟩), (6, ⟨[2], []⟩), (7, ⟨[2], []⟩)]
def h_asm_Right : List (Nat × RH) := [(0, ⟨[0], []⟩), (1, ⟨[4], []⟩), (2, ⟨[2], []⟩)]
def h_path_From_1 : List (Nat × RH) := [(0, ⟨[0, 1, 2], []⟩), (1, ⟨[1, 2, 4], []⟩), (2, ⟨[1, 2, 4, 18], []⟩), (3, ⟨[3], []⟩), (4, ⟨[1, 4], []⟩), (5, ⟨[1, 4], []⟩), (6, ⟨[1, 4], []⟩), (7, ⟨[1, 4], []⟩), (8, ⟨[1, 4, 37], []⟩), (9, ⟨[], []⟩), (10, ⟨[3], []⟩)]
def h_ins_Moves : List (Nat × RH) := [(0, ⟨[1], []⟩), (1, ⟨[2], []⟩)]
def h_joineryref05_New : List (Nat × RH) := [(0, ⟨[], []⟩), (1, ⟨[1], [(0, ⟨false, (some (96, 2, false)), []⟩)]⟩), (2, ⟨[1, 2], []⟩), (3, ⟨[1, 2, 4], []⟩), (5, ⟨[1, 2], []⟩), (4, ⟨[1, 2], []⟩), (6, ⟨[0], []⟩)]
def h_joineryref05_After : List (Nat × RH) := [(0, ⟨[0, 3], []⟩), (1, ⟨[3, 5], []⟩), (2, ⟨[3, 5, 21], []⟩), (3, ⟨[4], []⟩), (4, ⟨[3, 5, 6, 7], []⟩), (5, ⟨[3, 5, 6, 7, 35], []⟩), (6, ⟨[3, 5, 6, 7], []⟩), (7, ⟨[3, 5, 6, 7, 50], []⟩), (8, ⟨[3, 5, 6], []⟩), (9, ⟨[3, 5, 6, 58], []⟩), (10, ⟨[5], []⟩), (11, ⟨[4], []⟩)]
def h_env_good : List (Nat × RH) := [(0, ⟨[1, 2], []⟩), (1, ⟨[1, 2, 4], []⟩), (2, ⟨[2], []⟩), (3, ⟨[2], []⟩)]
def h_loc_Right : List (Nat × RH) := [(0, ⟨[0], []⟩), (1, ⟨[2], []⟩)]
def h_joineryref04_Check : List (Nat × RH) := [(0, ⟨[0], []⟩), (1, ⟨[0, 9], []⟩), (2, ⟨[2, 3], []⟩), (3, ⟨[0, 12], []⟩), (4, ⟨[2, 3], []⟩), (5, ⟨[0, 4], []⟩), (6, ⟨[0, 4, 16], []⟩), (8, ⟨[0, 4, 5], []⟩), (9, ⟨[0, 4, 5, 27], []⟩), (10, ⟨[2, 3], []⟩), (7, ⟨[0, 4], []⟩), (11, ⟨[0, 6], []⟩), (12, ⟨[0, 42], []⟩), (13, ⟨[2, 3], []⟩), (14, ⟨[2, 3], []⟩)]
def h_step_Right : List (Nat × RH) := [(0, ⟨[0, 3], []⟩), (1, ⟨[3, 32], []⟩), (2, ⟨[4], []⟩), (3, ⟨[34, 35], []⟩), (4, ⟨[34, 35, 36], []⟩), (5, ⟨[6, 34, 35], []⟩), (6, ⟨[34, 35, 45], []⟩), (7, ⟨[4], []⟩), (8, ⟨[34, 35], []⟩), (9, ⟨[4], []⟩)]
def h_step_own : List (Nat × RH) := [(0, ⟨[1, 2], []⟩), (1, ⟨[1, 2], []⟩), (2, ⟨[2], []⟩)]
def h_ins_Uses : List (Nat × RH) := [(0, ⟨[1], []⟩), (1, ⟨[1, 3, 4], []⟩), (2, ⟨[1, 3, 19], []⟩), (3, ⟨[2], []⟩), (4, ⟨[1, 3, 5], [(0, ⟨false, (some (3, 1, false)), []⟩)]⟩), (5, ⟨[1, 5, 22], []⟩), (6, ⟨[1, 5, 22, 23, 24], []⟩), (7, ⟨[1, 5, 7, 22], []⟩), (8, ⟨[1, 5, 7, 22, 31], []⟩), (9, ⟨[1, 5, 22], []⟩), (10, ⟨[2], []⟩)]
def h_step_work_do : List (Nat × RH) := [(0, ⟨[0, 2, 3], []⟩), (1, ⟨[0, 2, 3, 4], []⟩), (2, ⟨[0, 2, 3, 4, 31], []⟩), (3, ⟨[0, 2, 3, 4, 31, 32], []⟩), (4, ⟨[0, 2, 3, 4, 31, 34], []⟩), (5, ⟨[0, 2, 3, 4, 31, 36], []⟩), (6, ⟨[0, 2, 3, 4, 31, 38], []⟩), (7, ⟨[0, 2, 3, 4, 31, 40], []⟩), (8, ⟨[0, 2, 3, 4, 42], []⟩), (9, ⟨[0, 4], []⟩), (10, ⟨[0, 4, 5, 6], []⟩), (11, ⟨[0, 4, 5, 6], []⟩), (12, ⟨[0, 4, 5, 71], []⟩), (13, ⟨[0, 4], []⟩), (14, ⟨[0, 4], []⟩), (15, ⟨[0, 4], []⟩), (16, ⟨[0, 4, 88], []⟩), (17, ⟨[0, 4], []⟩), (18, ⟨[0, 2, 3, 4, 99], []⟩), (19, ⟨[0, 4], []⟩), (20, ⟨[0, 4], []⟩), (21, ⟨[0, 4, 118], []⟩), (22, ⟨[], []⟩)]
def h_asm_Parse_1 : List (Nat × RH) := [(0, ⟨[0, 1, 2, 3, 4], []⟩), (1, ⟨[2, 3, 4, 7, 8], []⟩), (2, ⟨[8], []⟩), (3, ⟨[6], []⟩)]
def h_ins_Parse : List (Nat × RH) := [(0, ⟨[0, 2], []⟩), (1, ⟨[2, 4], []⟩), (2, ⟨[2, 4, 13, 14], []⟩), (3, ⟨[2, 4, 13, 14, 15], []⟩), (4, ⟨[2, 4, 5, 6, 13, 14], []⟩), (5, ⟨[2, 4, 5, 6, 13, 14, 32], []⟩), (6, ⟨[2, 4, 6, 7], []⟩), (7, ⟨[2, 4, 7, 38], []⟩), (8, ⟨[2, 4, 7, 38, 39, 40], []⟩), (9, ⟨[2, 4, 7, 8, 9, 38], []⟩), (10, ⟨[2, 4, 7, 10, 38], []⟩), (11, ⟨[2, 4, 7, 38, 51], []⟩), (12, ⟨[2, 3], []⟩), (13, ⟨[2, 7, 55], []⟩), (14, ⟨[2, 3], []⟩), (15, ⟨[2, 4, 13, 14], []⟩), (16, ⟨[2, 3], []⟩)]
def h_asm_Check : List (Nat × RH) := [(0, ⟨[0], []⟩), (1, ⟨[0, 8], []⟩), (2, ⟨[2, 3], []⟩), (3, ⟨[0, 12], []⟩), (4, ⟨[2, 3], []⟩), (5, ⟨[0, 16, 17, 18], []⟩), (6, ⟨[0, 16, 17, 18, 19], []⟩), (7, ⟨[0, 4, 5, 16, 17, 18], []⟩), (8, ⟨[0, 4, 6, 16, 17, 18], []⟩), (9, ⟨[0, 4, 6, 16, 17, 18, 28], []⟩), (10, ⟨[2, 3], []⟩), (11, ⟨[0, 16, 17, 18], []⟩), (12, ⟨[0, 7], []⟩), (13, ⟨[7, 48], []⟩), (14, ⟨[2, 3], []⟩), (15, ⟨[2, 3], []⟩)]
def h_joineryref05_good : List (Nat × RH) := [(0, ⟨[0], []⟩), (1, ⟨[0, 4], []⟩), (2, ⟨[2], []⟩), (3, ⟨[2], []⟩)]
def h_joineryref05_place : List (Nat × RH) := [(0, ⟨[0], []⟩), (1, ⟨[2], []⟩)]
def h_env_Good : List (Nat × RH) := [(0, ⟨[1], []⟩), (1, ⟨[5, 6], []⟩), (2, ⟨[5, 6, 7], []⟩), (3, ⟨[4, 5, 6], []⟩), (4, ⟨[5, 6, 11], []⟩), (5, ⟨[2], []⟩), (6, ⟨[5, 6], []⟩), (7, ⟨[2], []⟩)]
def h_joineryref03_Check : List (Nat × RH) := [(0, ⟨[1, 2], []⟩), (1, ⟨[1, 2, 33], []⟩), (2, ⟨[4], []⟩), (3, ⟨[1, 2, 36], []⟩), (4, ⟨[1, 2, 46], []⟩), (5, ⟨[4], []⟩), (6, ⟨[1, 2, 62], []⟩), (7, ⟨[4], []⟩), (8, ⟨[81], []⟩), (9, ⟨[4], []⟩), (10, ⟨[4], []⟩)]
def h_heap_Right : List (Nat × RH) := [(0, ⟨[0], []⟩), (1, ⟨[2], []⟩)]
def h_ins_of : List (Nat × RH) := [(0, ⟨[0, 2], []⟩), (1, ⟨[0, 2, 9], []⟩), (2, ⟨[2, 3], []⟩), (3, ⟨[2, 3], []⟩)]
def h_ins_field : List (Nat × RH) := [(0, ⟨[0, 1], []⟩), (1, ⟨[0, 5], []⟩), (2, ⟨[0, 5, 6], []⟩), (3, ⟨[0, 5, 6], []⟩), (4, ⟨[4], []⟩), (5, ⟨[0, 5, 12], []⟩), (6, ⟨[0, 12], []⟩), (7, ⟨[4], []⟩), (8, ⟨[4], []⟩)]
def h_step_work_number : List (Nat × RH) := [(0, ⟨[0, 1], []⟩), (1, ⟨[4], []⟩)]
def h_step_work_set : List (Nat × RH) := [(0, ⟨[0, 1, 2], []⟩), (1, ⟨[0, 1, 11], []⟩), (2, ⟨[], []⟩)]
def h_heap_Load : List (Nat × RH) := [(0, ⟨[0, 1], []⟩), (1, ⟨[0, 1, 9], []⟩), (2, ⟨[4, 5], []⟩), (3, ⟨[4, 5], []⟩)]
def h_heap_Store : List (Nat × RH) := [(0, ⟨[0, 1, 2], []⟩), (1, ⟨[0, 1, 2, 12], []⟩), (2, ⟨[6, 7], []⟩), (3, ⟨[0, 1, 2, 8], []⟩), (4, ⟨[1, 2, 8], []⟩), (5, ⟨[8], []⟩), (6, ⟨[6, 7], []⟩)]
def h_step_work_call : List (Nat × RH) := [(0, ⟨[0, 1, 15], []⟩), (1, ⟨[], []⟩), (2, ⟨[0, 1, 4], []⟩), (3, ⟨[0, 4], []⟩), (4, ⟨[0, 4], []⟩), (5, ⟨[], []⟩)]
def h_num_Do : List (Nat × RH) := [(0, ⟨[0, 1, 2], []⟩), (1, ⟨[0, 1, 2, 8], []⟩), (2, ⟨[0, 1, 2, 8, 12], []⟩), (3, ⟨[6, 7], []⟩), (4, ⟨[1, 2, 8, 15], []⟩), (5, ⟨[6, 7], []⟩), (6, ⟨[6, 7], []⟩)]
def h_step_work_move : List (Nat × RH) := [(0, ⟨[0, 2], []⟩), (1, ⟨[0, 2, 11], []⟩), (2, ⟨[0, 2, 11, 12], []⟩), (3, ⟨[], []⟩), (4, ⟨[0, 2, 11, 28], []⟩), (5, ⟨[], []⟩), (6, ⟨[0, 2, 47], []⟩), (7, ⟨[], []⟩)]
def h_ins_words : List (Nat × RH) := [(0, ⟨[0], []⟩), (1, ⟨[0, 3], [(0, ⟨false, (some (9, 1, false)), []⟩)]⟩), (2, ⟨[0, 3, 4], []⟩), (3, ⟨[0, 3, 4, 8], []⟩), (4, ⟨[0, 3, 4, 8, 9, 10], []⟩), (5, ⟨[0, 3, 4, 5, 6, 8], []⟩), (6, ⟨[0, 3, 4, 5, 8, 14], []⟩), (7, ⟨[0, 3, 5, 8], []⟩), (8, ⟨[0, 3, 4, 8], []⟩), (9, ⟨[2], []⟩)]
def h_ins_fill : List (Nat × RH) := [(0, ⟨[0, 1, 2], []⟩), (1, ⟨[0, 1, 2, 11], []⟩), (2, ⟨[0, 1, 2, 11, 12], []⟩), (3, ⟨[0, 1, 2, 12], []⟩), (4, ⟨[0, 1, 7, 8], []⟩), (5, ⟨[0, 7, 8, 21], []⟩), (6, ⟨[8], []⟩), (7, ⟨[8], []⟩), (8, ⟨[6], []⟩), (9, ⟨[0, 1, 9, 10], []⟩), (10, ⟨[10], []⟩), (11, ⟨[6], []⟩)]
def h_ins_Check : List (Nat × RH) := [(0, ⟨[1, 2], []⟩), (1, ⟨[1, 2, 5, 6], []⟩), (2, ⟨[1, 2, 5, 39], []⟩), (3, ⟨[4], []⟩), (4, ⟨[1, 2, 5, 7], []⟩), (5, ⟨[1, 2, 7, 42], []⟩), (6, ⟨[1, 2, 7, 42, 43, 44], []⟩), (7, ⟨[1, 2, 7, 9, 42], []⟩), (8, ⟨[1, 2, 7, 9, 42, 46], []⟩), (9, ⟨[1, 2, 7, 9, 42, 49], []⟩), (10, ⟨[1, 2, 7, 42], []⟩), (11, ⟨[1, 2, 7, 9, 42, 61], []⟩), (12, ⟨[1, 2, 7, 42, 61], []⟩), (13, ⟨[4], []⟩), (14, ⟨[82], []⟩), (15, ⟨[4], []⟩), (16, ⟨[4], []⟩)]
def h_joineryref05_Good : List (Nat × RH) := [(0, ⟨[0], []⟩), (1, ⟨[0, 3], []⟩), (2, ⟨[0, 3, 7], []⟩), (4, ⟨[0, 3, 39], []⟩), (5, ⟨[2], []⟩), (3, ⟨[0, 3], []⟩), (6, ⟨[2], []⟩)]
def h_env_may : List (Nat × RH) := [(0, ⟨[0], []⟩), (1, ⟨[0, 3, 4], []⟩), (2, ⟨[0, 3, 12], []⟩), (3, ⟨[2], []⟩), (4, ⟨[6], []⟩), (5, ⟨[2], []⟩)]
def h_joineryref03_only : List (Nat × RH) := [(0, ⟨[1, 2], []⟩), (1, ⟨[1, 2, 3], []⟩), (2, ⟨[1, 2, 3, 14], []⟩), (3, ⟨[1, 2, 3], []⟩), (4, ⟨[1, 2, 3, 25], []⟩), (5, ⟨[1, 2, 3], []⟩), (6, ⟨[1, 2, 3, 36], []⟩), (7, ⟨[1, 2, 3], []⟩), (8, ⟨[1, 2, 3, 47], []⟩), (9, ⟨[1, 2, 3], []⟩), (10, ⟨[1, 2, 3, 63], []⟩), (11, ⟨[2, 3], []⟩), (12, ⟨[2], []⟩)]
def h_joineryref03_place : List (Nat × RH) := [(0, ⟨[0], []⟩), (1, ⟨[2], []⟩)]
def h_joineryref03_reg : List (Nat × RH) := [(0, ⟨[0], []⟩), (1, ⟨[2], []⟩)]
def h_heap_in : List (Nat × RH) := [(0, ⟨[0, 1], []⟩), (1, ⟨[4], []⟩)]
def h_num_deeds : List (Nat × RH) := [(0, ⟨[], []⟩), (1, ⟨[0], []⟩)]
def h_num_Parse : List (Nat × RH) := [(0, ⟨[0], []⟩), (1, ⟨[0, 4, 5], []⟩), (2, ⟨[0, 4, 5, 18], []⟩), (3, ⟨[4, 5], []⟩), (4, ⟨[4, 5, 41], []⟩), (5, ⟨[2, 3], []⟩), (6, ⟨[4, 5, 6], []⟩), (7, ⟨[5, 6, 43], []⟩), (8, ⟨[5, 6, 43, 44, 45], []⟩), (9, ⟨[5, 6, 8, 43], []⟩), (10, ⟨[5, 6, 8, 43, 52], []⟩), (11, ⟨[2, 3], []⟩), (12, ⟨[5, 6, 43], []⟩), (13, ⟨[5, 6, 9], []⟩), (14, ⟨[6, 9, 59], []⟩), (15, ⟨[6, 9], []⟩), (16, ⟨[6, 9], []⟩), (17, ⟨[6, 68], []⟩), (18, ⟨[2, 3], []⟩), (19, ⟨[2, 3], []⟩), (20, ⟨[6, 73], []⟩), (21, ⟨[2, 3], []⟩), (22, ⟨[2, 3], []⟩)]
def h_loc_Parse : List (Nat × RH) := [(0, ⟨[0], []⟩), (1, ⟨[0, 4, 5, 6], []⟩), (2, ⟨[0, 4, 5, 6, 10], []⟩), (3, ⟨[0, 4, 5, 6, 10, 11, 12], []⟩), (4, ⟨[0, 4, 5, 6, 7, 8, 10], []⟩), (6, ⟨[0, 4, 5, 6, 7, 8, 10, 21], []⟩), (7, ⟨[0, 4, 5, 6, 10], []⟩), (8, ⟨[0, 4, 5, 6, 7, 8, 10, 28], []⟩), (9, ⟨[0, 4, 5, 6, 10], []⟩), (10, ⟨[0, 4, 5, 6, 8, 10, 35], []⟩), (11, ⟨[2, 3], []⟩), (5, ⟨[0, 4, 5, 6, 10], []⟩), (12, ⟨[4, 5, 65], []⟩), (13, ⟨[2, 3], []⟩), (14, ⟨[2, 3], []⟩)]
def h_ins_rest : List (Nat × RH) := [(0, ⟨[2, 3, 4], []⟩), (1, ⟨[2, 3, 4], []⟩), (2, ⟨[2, 4, 10], []⟩), (3, ⟨[2, 4, 10, 11, 12], []⟩), (4, ⟨[2, 4, 6, 10], []⟩), (5, ⟨[2, 4, 6, 10, 14], []⟩), (7, ⟨[2, 4, 6, 10, 14, 18], []⟩), (8, ⟨[2, 4, 10], []⟩), (9, ⟨[2, 4, 6, 10, 21], []⟩), (10, ⟨[2, 4, 10], []⟩), (6, ⟨[2, 4, 10], []⟩), (11, ⟨[4], []⟩)]
def h_loc_Reg : List (Nat × RH) := [(0, ⟨[0], []⟩), (1, ⟨[2], []⟩)]

theorem k_joinerylaw09_PathEndless : compF E0 true h_joinerylaw09_PathEndless Tryd.f11 = some c_joinerylaw09_PathEndless := by kernel_rfl
theorem n_ok_joinerylaw09_PathEndless : (Tryd.f11.name == "runtime.NumGoroutine") = false := by kernel_rfl
theorem k_joinerylaw09_PathRuns : compF E0 true h_joinerylaw09_PathRuns Tryd.f12 = some c_joinerylaw09_PathRuns := by kernel_rfl
theorem n_ok_joinerylaw09_PathRuns : (Tryd.f12.name == "runtime.NumGoroutine") = false := by kernel_rfl
theorem k_joinerylaw09_knows : compF E0 true h_joinerylaw09_knows Tryd.f13 = some c_joinerylaw09_knows := by kernel_rfl
theorem n_ok_joinerylaw09_knows : (Tryd.f13.name == "runtime.NumGoroutine") = false := by kernel_rfl
theorem k_path_From : compF E0 true h_path_From Tryd.f14 = some c_path_From := by kernel_rfl
theorem n_ok_path_From : (Tryd.f14.name == "runtime.NumGoroutine") = false := by kernel_rfl
theorem k_joineryref09_Fair : compF E0 true h_joineryref09_Fair Tryd.f15 = some c_joineryref09_Fair := by kernel_rfl
theorem n_ok_joineryref09_Fair : (Tryd.f15.name == "runtime.NumGoroutine") = false := by kernel_rfl
theorem k_joineryref09_From : compF E0 true h_joineryref09_From Tryd.f16 = some c_joineryref09_From := by kernel_rfl
theorem n_ok_joineryref09_From : (Tryd.f16.name == "runtime.NumGoroutine") = false := by kernel_rfl
theorem k_joineryref05_Same : compF E0 true h_joineryref05_Same Tryd.f17 = some c_joineryref05_Same := by kernel_rfl
theorem n_ok_joineryref05_Same : (Tryd.f17.name == "runtime.NumGoroutine") = false := by kernel_rfl
theorem k_joinerylaw05_As : compF E0 true h_joinerylaw05_As Tryd.f18 = some c_joinerylaw05_As := by kernel_rfl
theorem n_ok_joinerylaw05_As : (Tryd.f18.name == "runtime.NumGoroutine") = false := by kernel_rfl
theorem k_env_New : compF E0 true h_env_New Tryd.f19 = some c_env_New := by kernel_rfl
theorem n_ok_env_New : (Tryd.f19.name == "runtime.NumGoroutine") = false := by kernel_rfl
theorem k_joineryref03_Moves : compF E0 true h_joineryref03_Moves Tryd.f20 = some c_joineryref03_Moves := by kernel_rfl
theorem n_ok_joineryref03_Moves : (Tryd.f20.name == "runtime.NumGoroutine") = false := by kernel_rfl
theorem k_env_Then : compF E0 true h_env_Then Tryd.f21 = some c_env_Then := by kernel_rfl
theorem n_ok_env_Then : (Tryd.f21.name == "runtime.NumGoroutine") = false := by kernel_rfl
theorem k_env_After : compF E0 true h_env_After Tryd.f22 = some c_env_After := by kernel_rfl
theorem n_ok_env_After : (Tryd.f22.name == "runtime.NumGoroutine") = false := by kernel_rfl
theorem k_joineryref04_Right : compF E0 true h_joineryref04_Right Tryd.f25 = some c_joineryref04_Right := by kernel_rfl
theorem n_ok_joineryref04_Right : (Tryd.f25.name == "runtime.NumGoroutine") = false := by kernel_rfl
theorem k_joineryref07_Right : compF E0 true h_joineryref07_Right Tryd.f31 = some c_joineryref07_Right := by kernel_rfl
theorem n_ok_joineryref07_Right : (Tryd.f31.name == "runtime.NumGoroutine") = false := by kernel_rfl
theorem k_joinerylaw07_As : compF E0 true h_joinerylaw07_As Tryd.f32 = some c_joinerylaw07_As := by kernel_rfl
theorem n_ok_joinerylaw07_As : (Tryd.f32.name == "runtime.NumGoroutine") = false := by kernel_rfl
theorem k_step_Do : compF E0 true h_step_Do Tryd.f33 = some c_step_Do := by kernel_rfl
theorem n_ok_step_Do : (Tryd.f33.name == "runtime.NumGoroutine") = false := by kernel_rfl
theorem k_env_Fill : compF E0 true h_env_Fill Tryd.f34 = some c_env_Fill := by kernel_rfl
theorem n_ok_env_Fill : (Tryd.f34.name == "runtime.NumGoroutine") = false := by kernel_rfl
theorem k_joineryref06_Same : compF E0 true h_joineryref06_Same Tryd.f35 = some c_joineryref06_Same := by kernel_rfl
theorem n_ok_joineryref06_Same : (Tryd.f35.name == "runtime.NumGoroutine") = false := by kernel_rfl
theorem k_asm_Parse : compF E0 true h_asm_Parse Tryd.f36 = some c_asm_Parse := by kernel_rfl
theorem n_ok_asm_Parse : (Tryd.f36.name == "runtime.NumGoroutine") = false := by kernel_rfl
theorem k_joinerylaw05_AsSource : compF E0 true h_joinerylaw05_AsSource Tryd.f37 = some c_joinerylaw05_AsSource := by kernel_rfl
theorem n_ok_joinerylaw05_AsSource : (Tryd.f37.name == "runtime.NumGoroutine") = false := by kernel_rfl
theorem k_asm_Right : compF E0 true h_asm_Right Tryd.f38 = some c_asm_Right := by kernel_rfl
theorem n_ok_asm_Right : (Tryd.f38.name == "runtime.NumGoroutine") = false := by kernel_rfl
theorem k_path_From_1 : compF E0 false h_path_From_1 Tryd.f39 = some c_path_From_1 := by kernel_rfl
theorem n_ok_path_From_1 : (Tryd.f39.name == "runtime.NumGoroutine") = false := by kernel_rfl
theorem k_ins_Moves : compF E0 true h_ins_Moves Tryd.f40 = some c_ins_Moves := by kernel_rfl
theorem n_ok_ins_Moves : (Tryd.f40.name == "runtime.NumGoroutine") = false := by kernel_rfl
theorem k_joineryref05_New : compF E0 true h_joineryref05_New Tryd.f41 = some c_joineryref05_New := by kernel_rfl
theorem n_ok_joineryref05_New : (Tryd.f41.name == "runtime.NumGoroutine") = false := by kernel_rfl
theorem k_joineryref05_After : compF E0 true h_joineryref05_After Tryd.f42 = some c_joineryref05_After := by kernel_rfl
theorem n_ok_joineryref05_After : (Tryd.f42.name == "runtime.NumGoroutine") = false := by kernel_rfl
theorem k_env_good : compF E0 true h_env_good Tryd.f43 = some c_env_good := by kernel_rfl
theorem n_ok_env_good : (Tryd.f43.name == "runtime.NumGoroutine") = false := by kernel_rfl
theorem k_loc_Right : compF E0 true h_loc_Right Tryd.f44 = some c_loc_Right := by kernel_rfl
theorem n_ok_loc_Right : (Tryd.f44.name == "runtime.NumGoroutine") = false := by kernel_rfl
theorem k_joineryref04_Check : compF E0 true h_joineryref04_Check Tryd.f47 = some c_joineryref04_Check := by kernel_rfl
theorem n_ok_joineryref04_Check : (Tryd.f47.name == "runtime.NumGoroutine") = false := by kernel_rfl
theorem k_step_Right : compF E0 true h_step_Right Tryd.f54 = some c_step_Right := by kernel_rfl
theorem n_ok_step_Right : (Tryd.f54.name == "runtime.NumGoroutine") = false := by kernel_rfl
theorem k_step_own : compF E0 true h_step_own Tryd.f55 = some c_step_own := by kernel_rfl
theorem n_ok_step_own : (Tryd.f55.name == "runtime.NumGoroutine") = false := by kernel_rfl
theorem k_ins_Uses : compF E0 true h_ins_Uses Tryd.f56 = some c_ins_Uses := by kernel_rfl
theorem n_ok_ins_Uses : (Tryd.f56.name == "runtime.NumGoroutine") = false := by kernel_rfl
theorem k_step_work_do : compF E0 false h_step_work_do Tryd.f57 = some c_step_work_do := by kernel_rfl
theorem n_ok_step_work_do : (Tryd.f57.name == "runtime.NumGoroutine") = false := by kernel_rfl
theorem k_asm_Parse_1 : compF E0 false h_asm_Parse_1 Tryd.f58 = some c_asm_Parse_1 := by kernel_rfl
theorem n_ok_asm_Parse_1 : (Tryd.f58.name == "runtime.NumGoroutine") = false := by kernel_rfl
theorem k_ins_Parse : compF E0 true h_ins_Parse Tryd.f59 = some c_ins_Parse := by kernel_rfl
theorem n_ok_ins_Parse : (Tryd.f59.name == "runtime.NumGoroutine") = false := by kernel_rfl
theorem k_asm_Check : compF E0 true h_asm_Check Tryd.f60 = some c_asm_Check := by kernel_rfl
theorem n_ok_asm_Check : (Tryd.f60.name == "runtime.NumGoroutine") = false := by kernel_rfl
theorem k_joineryref05_good : compF E0 true h_joineryref05_good Tryd.f61 = some c_joineryref05_good := by kernel_rfl
theorem n_ok_joineryref05_good : (Tryd.f61.name == "runtime.NumGoroutine") = false := by kernel_rfl
theorem k_joineryref05_place : compF E0 true h_joineryref05_place Tryd.f62 = some c_joineryref05_place := by kernel_rfl
theorem n_ok_joineryref05_place : (Tryd.f62.name == "runtime.NumGoroutine") = false := by kernel_rfl
theorem k_env_Good : compF E0 true h_env_Good Tryd.f63 = some c_env_Good := by kernel_rfl
theorem n_ok_env_Good : (Tryd.f63.name == "runtime.NumGoroutine") = false := by kernel_rfl
theorem k_joineryref03_Check : compF E0 true h_joineryref03_Check Tryd.f64 = some c_joineryref03_Check := by kernel_rfl
theorem n_ok_joineryref03_Check : (Tryd.f64.name == "runtime.NumGoroutine") = false := by kernel_rfl
theorem k_heap_Right : compF E0 true h_heap_Right Tryd.f66 = some c_heap_Right := by kernel_rfl
theorem n_ok_heap_Right : (Tryd.f66.name == "runtime.NumGoroutine") = false := by kernel_rfl
theorem k_ins_of : compF E0 true h_ins_of Tryd.f67 = some c_ins_of := by kernel_rfl
theorem n_ok_ins_of : (Tryd.f67.name == "runtime.NumGoroutine") = false := by kernel_rfl
theorem k_ins_field : compF E0 false h_ins_field Tryd.f68 = some c_ins_field := by kernel_rfl
theorem n_ok_ins_field : (Tryd.f68.name == "runtime.NumGoroutine") = false := by kernel_rfl
theorem k_step_work_number : compF E0 true h_step_work_number Tryd.f69 = some c_step_work_number := by kernel_rfl
theorem n_ok_step_work_number : (Tryd.f69.name == "runtime.NumGoroutine") = false := by kernel_rfl
theorem k_step_work_set : compF E0 false h_step_work_set Tryd.f70 = some c_step_work_set := by kernel_rfl
theorem n_ok_step_work_set : (Tryd.f70.name == "runtime.NumGoroutine") = false := by kernel_rfl
theorem k_heap_Load : compF E0 true h_heap_Load Tryd.f71 = some c_heap_Load := by kernel_rfl
theorem n_ok_heap_Load : (Tryd.f71.name == "runtime.NumGoroutine") = false := by kernel_rfl
theorem k_heap_Store : compF E0 true h_heap_Store Tryd.f72 = some c_heap_Store := by kernel_rfl
theorem n_ok_heap_Store : (Tryd.f72.name == "runtime.NumGoroutine") = false := by kernel_rfl
theorem k_step_work_call : compF E0 false h_step_work_call Tryd.f73 = some c_step_work_call := by kernel_rfl
theorem n_ok_step_work_call : (Tryd.f73.name == "runtime.NumGoroutine") = false := by kernel_rfl
theorem k_num_Do : compF E0 true h_num_Do Tryd.f74 = some c_num_Do := by kernel_rfl
theorem n_ok_num_Do : (Tryd.f74.name == "runtime.NumGoroutine") = false := by kernel_rfl
theorem k_step_work_move : compF E0 false h_step_work_move Tryd.f75 = some c_step_work_move := by kernel_rfl
theorem n_ok_step_work_move : (Tryd.f75.name == "runtime.NumGoroutine") = false := by kernel_rfl
theorem k_ins_words : compF E0 true h_ins_words Tryd.f76 = some c_ins_words := by kernel_rfl
theorem n_ok_ins_words : (Tryd.f76.name == "runtime.NumGoroutine") = false := by kernel_rfl
theorem k_ins_fill : compF E0 false h_ins_fill Tryd.f77 = some c_ins_fill := by kernel_rfl
theorem n_ok_ins_fill : (Tryd.f77.name == "runtime.NumGoroutine") = false := by kernel_rfl
theorem k_ins_Check : compF E0 true h_ins_Check Tryd.f78 = some c_ins_Check := by kernel_rfl
theorem n_ok_ins_Check : (Tryd.f78.name == "runtime.NumGoroutine") = false := by kernel_rfl
theorem k_joineryref05_Good : compF E0 true h_joineryref05_Good Tryd.f79 = some c_joineryref05_Good := by kernel_rfl
theorem n_ok_joineryref05_Good : (Tryd.f79.name == "runtime.NumGoroutine") = false := by kernel_rfl
theorem k_env_may : compF E0 true h_env_may Tryd.f80 = some c_env_may := by kernel_rfl
theorem n_ok_env_may : (Tryd.f80.name == "runtime.NumGoroutine") = false := by kernel_rfl
theorem k_joineryref03_only : compF E0 true h_joineryref03_only Tryd.f81 = some c_joineryref03_only := by kernel_rfl
theorem n_ok_joineryref03_only : (Tryd.f81.name == "runtime.NumGoroutine") = false := by kernel_rfl
theorem k_joineryref03_place : compF E0 true h_joineryref03_place Tryd.f82 = some c_joineryref03_place := by kernel_rfl
theorem n_ok_joineryref03_place : (Tryd.f82.name == "runtime.NumGoroutine") = false := by kernel_rfl
theorem k_joineryref03_reg : compF E0 true h_joineryref03_reg Tryd.f83 = some c_joineryref03_reg := by kernel_rfl
theorem n_ok_joineryref03_reg : (Tryd.f83.name == "runtime.NumGoroutine") = false := by kernel_rfl
theorem k_heap_in : compF E0 true h_heap_in Tryd.f84 = some c_heap_in := by kernel_rfl
theorem n_ok_heap_in : (Tryd.f84.name == "runtime.NumGoroutine") = false := by kernel_rfl
theorem k_num_deeds : compF E0 true h_num_deeds Tryd.f85 = some c_num_deeds := by kernel_rfl
theorem n_ok_num_deeds : (Tryd.f85.name == "runtime.NumGoroutine") = false := by kernel_rfl
theorem k_num_Parse : compF E0 true h_num_Parse Tryd.f86 = some c_num_Parse := by kernel_rfl
theorem n_ok_num_Parse : (Tryd.f86.name == "runtime.NumGoroutine") = false := by kernel_rfl
theorem k_loc_Parse : compF E0 true h_loc_Parse Tryd.f87 = some c_loc_Parse := by kernel_rfl
theorem n_ok_loc_Parse : (Tryd.f87.name == "runtime.NumGoroutine") = false := by kernel_rfl
theorem k_ins_rest : compF E0 true h_ins_rest Tryd.f88 = some c_ins_rest := by kernel_rfl
theorem n_ok_ins_rest : (Tryd.f88.name == "runtime.NumGoroutine") = false := by kernel_rfl
theorem k_loc_Reg : compF E0 true h_loc_Reg Tryd.f89 = some c_loc_Reg := by kernel_rfl
theorem n_ok_loc_Reg : (Tryd.f89.name == "runtime.NumGoroutine") = false := by kernel_rfl
theorem tabOK : TabOK E0 T := by
  intro f fn h
  unfold T at h
  split at h
  · cases h; exact ⟨_, _, Tryd.func11, k_joinerylaw09_PathEndless, n_ok_joinerylaw09_PathEndless⟩
  · cases h; exact ⟨_, _, Tryd.func12, k_joinerylaw09_PathRuns, n_ok_joinerylaw09_PathRuns⟩
  · cases h; exact ⟨_, _, Tryd.func13, k_joinerylaw09_knows, n_ok_joinerylaw09_knows⟩
  · cases h; exact ⟨_, _, Tryd.func14, k_path_From, n_ok_path_From⟩
  · cases h; exact ⟨_, _, Tryd.func15, k_joineryref09_Fair, n_ok_joineryref09_Fair⟩
  · cases h; exact ⟨_, _, Tryd.func16, k_joineryref09_From, n_ok_joineryref09_From⟩
  · cases h; exact ⟨_, _, Tryd.func17, k_joineryref05_Same, n_ok_joineryref05_Same⟩
  · cases h; exact ⟨_, _, Tryd.func18, k_joinerylaw05_As, n_ok_joinerylaw05_As⟩
  · cases h; exact ⟨_, _, Tryd.func19, k_env_New, n_ok_env_New⟩
  · cases h; exact ⟨_, _, Tryd.func20, k_joineryref03_Moves, n_ok_joineryref03_Moves⟩
  · cases h; exact ⟨_, _, Tryd.func21, k_env_Then, n_ok_env_Then⟩
  · cases h; exact ⟨_, _, Tryd.func22, k_env_After, n_ok_env_After⟩
  · cases h; exact ⟨_, _, Tryd.func25, k_joineryref04_Right, n_ok_joineryref04_Right⟩
  · cases h; exact ⟨_, _, Tryd.func31, k_joineryref07_Right, n_ok_joineryref07_Right⟩
  · cases h; exact ⟨_, _, Tryd.func32, k_joinerylaw07_As, n_ok_joinerylaw07_As⟩
  · cases h; exact ⟨_, _, Tryd.func33, k_step_Do, n_ok_step_Do⟩
  · cases h; exact ⟨_, _, Tryd.func34, k_env_Fill, n_ok_env_Fill⟩
  · cases h; exact ⟨_, _, Tryd.func35, k_joineryref06_Same, n_ok_joineryref06_Same⟩
  · cases h; exact ⟨_, _, Tryd.func36, k_asm_Parse, n_ok_asm_Parse⟩
  · cases h; exact ⟨_, _, Tryd.func37, k_joinerylaw05_AsSource, n_ok_joinerylaw05_AsSource⟩
  · cases h; exact ⟨_, _, Tryd.func38, k_asm_Right, n_ok_asm_Right⟩
  · cases h; exact ⟨_, _, Tryd.func39, k_path_From_1, n_ok_path_From_1⟩
  · cases h; exact ⟨_, _, Tryd.func40, k_ins_Moves, n_ok_ins_Moves⟩
  · cases h; exact ⟨_, _, Tryd.func41, k_joineryref05_New, n_ok_joineryref05_New⟩
  · cases h; exact ⟨_, _, Tryd.func42, k_joineryref05_After, n_ok_joineryref05_After⟩
  · cases h; exact ⟨_, _, Tryd.func43, k_env_good, n_ok_env_good⟩
  · cases h; exact ⟨_, _, Tryd.func44, k_loc_Right, n_ok_loc_Right⟩
  · cases h; exact ⟨_, _, Tryd.func47, k_joineryref04_Check, n_ok_joineryref04_Check⟩
  · cases h; exact ⟨_, _, Tryd.func54, k_step_Right, n_ok_step_Right⟩
  · cases h; exact ⟨_, _, Tryd.func55, k_step_own, n_ok_step_own⟩
  · cases h; exact ⟨_, _, Tryd.func56, k_ins_Uses, n_ok_ins_Uses⟩
  · cases h; exact ⟨_, _, Tryd.func57, k_step_work_do, n_ok_step_work_do⟩
  · cases h; exact ⟨_, _, Tryd.func58, k_asm_Parse_1, n_ok_asm_Parse_1⟩
  · cases h; exact ⟨_, _, Tryd.func59, k_ins_Parse, n_ok_ins_Parse⟩
  · cases h; exact ⟨_, _, Tryd.func60, k_asm_Check, n_ok_asm_Check⟩
  · cases h; exact ⟨_, _, Tryd.func61, k_joineryref05_good, n_ok_joineryref05_good⟩
  · cases h; exact ⟨_, _, Tryd.func62, k_joineryref05_place, n_ok_joineryref05_place⟩
  · cases h; exact ⟨_, _, Tryd.func63, k_env_Good, n_ok_env_Good⟩
  · cases h; exact ⟨_, _, Tryd.func64, k_joineryref03_Check, n_ok_joineryref03_Check⟩
  · cases h; exact ⟨_, _, Tryd.func66, k_heap_Right, n_ok_heap_Right⟩
  · cases h; exact ⟨_, _, Tryd.func67, k_ins_of, n_ok_ins_of⟩
  · cases h; exact ⟨_, _, Tryd.func68, k_ins_field, n_ok_ins_field⟩
  · cases h; exact ⟨_, _, Tryd.func69, k_step_work_number, n_ok_step_work_number⟩
  · cases h; exact ⟨_, _, Tryd.func70, k_step_work_set, n_ok_step_work_set⟩
  · cases h; exact ⟨_, _, Tryd.func71, k_heap_Load, n_ok_heap_Load⟩
  · cases h; exact ⟨_, _, Tryd.func72, k_heap_Store, n_ok_heap_Store⟩
  · cases h; exact ⟨_, _, Tryd.func73, k_step_work_call, n_ok_step_work_call⟩
  · cases h; exact ⟨_, _, Tryd.func74, k_num_Do, n_ok_num_Do⟩
  · cases h; exact ⟨_, _, Tryd.func75, k_step_work_move, n_ok_step_work_move⟩
  · cases h; exact ⟨_, _, Tryd.func76, k_ins_words, n_ok_ins_words⟩
  · cases h; exact ⟨_, _, Tryd.func77, k_ins_fill, n_ok_ins_fill⟩
  · cases h; exact ⟨_, _, Tryd.func78, k_ins_Check, n_ok_ins_Check⟩
  · cases h; exact ⟨_, _, Tryd.func79, k_joineryref05_Good, n_ok_joineryref05_Good⟩
  · cases h; exact ⟨_, _, Tryd.func80, k_env_may, n_ok_env_may⟩
  · cases h; exact ⟨_, _, Tryd.func81, k_joineryref03_only, n_ok_joineryref03_only⟩
  · cases h; exact ⟨_, _, Tryd.func82, k_joineryref03_place, n_ok_joineryref03_place⟩
  · cases h; exact ⟨_, _, Tryd.func83, k_joineryref03_reg, n_ok_joineryref03_reg⟩
  · cases h; exact ⟨_, _, Tryd.func84, k_heap_in, n_ok_heap_in⟩
  · cases h; exact ⟨_, _, Tryd.func85, k_num_deeds, n_ok_num_deeds⟩
  · cases h; exact ⟨_, _, Tryd.func86, k_num_Parse, n_ok_num_Parse⟩
  · cases h; exact ⟨_, _, Tryd.func87, k_loc_Parse, n_ok_loc_Parse⟩
  · cases h; exact ⟨_, _, Tryd.func88, k_ins_rest, n_ok_ins_rest⟩
  · cases h; exact ⟨_, _, Tryd.func89, k_loc_Reg, n_ok_loc_Reg⟩
  · cases h

end Go.Proofs.YtapibckmdpdljaaDoor.M2

/- From M2's law to the row: what all laws of this seat share. -/
namespace Go.Proofs.YtapibckmdpdljaaDoor.M2
open Go Go.ChangeShapes Go.WideShapes Go.ChangeAt Go.RowKit

theorem own0 : ownKnob Tryd.prog.godebug = none := by kernel_rfl
theorem laidOut0 : laidOutB Tryd.prog = true := by kernel_rfl
theorem gShapes : Tryd.prog.globalNamed "joinery/ins.shapes" = some 0 := by kernel_rfl
abbrev laid1 {H : Type} : List (String × DataW H) := [("joinery/ins.shapes", Rows.laid_joinery_ins_shapes)]
/-- The door's own heap meets the condition. -/
theorem door_met (os : Go.Os) (args : Array Value) : laidMetH Tryd.prog laid1 ((World.doorLaid Tryd.prog 400 os).forCall (fun _ _ => 0) ⟨#[], args, []⟩).memory :=
  laidMetH_of_parts3 (fuel := 8) (laidMet_of_run' 8 (by kernel_rfl) (by kernel_rfl)) (by kernel_rfl) (by kernel_rfl)
theorem tShapes : (Tryd.prog.globals[0]?).map (·.type) = some 156 := by kernel_rfl
theorem c140 : Tryd.prog.cellsOf 140 = 2 := by kernel_rfl
theorem c156 : Tryd.prog.cellsOf 156 = 36 := by kernel_rfl
theorem c9 : Tryd.prog.cellsOf 9 = 1 := by kernel_rfl
/-- The table's texts. -/
def words : List (List UInt8 × List UInt8) := [([99, 111, 110, 115, 116], [100, 78]), ([109, 111, 118], [100, 97]), ([115, 119, 97, 112], [100, 97]), ([97, 100, 100], [68, 65, 66]), ([115, 117, 98], [68, 65, 66]), ([109, 117, 108], [68, 65, 66]), ([100, 105, 118], [68, 65, 66]), ([97, 110, 100], [68, 65, 66]), ([111, 114], [68, 65, 66]), ([120, 111, 114], [68, 65, 66]), ([108, 101, 115, 115], [68, 65, 66]), ([115, 97, 109, 101], [68, 65, 66]), ([108, 111, 97, 100], [68, 65]), ([115, 116, 111, 114, 101], [65, 66]), ([99, 97, 108, 108], [68, 65, 78]), ([106, 117, 109, 112], [84]), ([122, 101, 114, 111], [65, 84]), ([114, 101, 116], [65])]
theorem gl_words : gl_0 = words.flatMap fun p => [.str p.1, .str p.2] := rfl
theorem tab_ok {E : En} {g : G} : ∀ (ds : List (List UInt8 × List UInt8)) (cs : List Value), cs.length = 2 * ds.length → (∀ (i : Nat) (p : List UInt8 × List UInt8), ds[i]? = some p → ∃ x y : ByteArray, (cs.drop (i * 2)).take 2 = [.string x, .string y] ∧ x.data.toList = p.1 ∧ y.data.toList = p.2) →
    VRs E g (ds.flatMap fun p => [.str p.1, .str p.2]) cs ∧ One cs
  | [], cs, hl, _ => by
    have : cs = [] := List.eq_nil_of_length_eq_zero (by simpa using hl)
    subst this
    exact ⟨by simp [VRs], by simp [One]⟩
  | p :: ds, cs, hl, h => by
    obtain ⟨x, y, h1, h2, h3⟩ := h 0 p rfl
    match cs, hl with
    | c1 :: c2 :: cs, hl =>
      simp only [Nat.zero_mul, List.drop_zero, List.take_succ_cons, List.take_zero, List.cons.injEq, and_true] at h1
      obtain ⟨rfl, rfl⟩ := h1
      obtain ⟨ih1, ih2⟩ := tab_ok (E := E) (g := g) ds cs (by simp at hl; omega) (fun i q hq => by
        obtain ⟨x', y', k1, k2, k3⟩ := h (i + 1) q (by simpa using hq)
        rw [show (i + 1) * 2 = i * 2 + 1 + 1 by omega, List.drop_succ_cons, List.drop_succ_cons] at k1
        exact ⟨x', y', k1, k2, k3⟩)
      refine ⟨?_, ?_⟩
      · simp only [List.flatMap_cons, List.cons_append, List.nil_append, VRs, VR]
        exact ⟨_, _, rfl, ⟨x, rfl, h2⟩, _, _, rfl, ⟨y, rfl, h3⟩, ih1⟩
      · intro v hv
        simp only [List.mem_cons] at hv
        rcases hv with rfl | rfl | hv
        · rfl
        · rfl
        · exact ih2 v hv
    | [], hl => simp at hl
    | [_], hl => simp at hl; omega
set_option maxRecDepth 100000 in
/-- What the listed variable holds, as M2's table. -/
theorem glob_laid {W : World} (h : laidMetH Tryd.prog laid1 W) : GlobOK E0 (g0 W) := by
  rw [MakeChecks.laidMetH_plain _ _ _ (by kernel_rfl)] at h
  obtain ⟨ps, ⟨g, t, cs, f, p, q, hg, ht, hv, hd, _, _⟩, _, _⟩ := h
  obtain rfl := Option.some.inj (gShapes.symm.trans hg)
  obtain rfl := Option.some.inj (tShapes.symm.trans ht)
  obtain ⟨xs, m1, rfl, hx1, hlen, hn, hel⟩ := DataW.trod_array Tryd.underlying156 hd
  simp only [Prod.mk.injEq] at hx1
  have hx2 : xs.map (·.1) = words.map fun p => .agg [.lit (.string p.1), .lit (.string p.2)] := by
    have := hx1.1
    injection this with this
    exact this.symm
  have key := tab_ok (E := E0) (g := g0 W) words cs.toList (by rw [hlen, c156]; rfl) (fun i p hp => by
    have hi : i < 18 := (List.getElem?_eq_some_iff.1 hp).1
    have h1 := hel i hi
    rw [c140] at h1
    have h2 : (xs.map (·.1))[i]? = some (.agg [.lit (.string p.1), .lit (.string p.2)]) := by rw [hx2, List.getElem?_map, hp]; rfl
    rw [List.getElem?_map] at h2
    obtain ⟨x, hx, hx'⟩ := Option.map_eq_some_iff.1 h2
    rw [hx] at h1
    obtain ⟨ys, m2, rfl, hy, hyl, hyn, hf⟩ := DataW.trod_struct Tryd.underlying140 h1
    subst hy
    have hx' : DataW.agg (ys.map (·.1)) = DataW.agg [.lit (.string p.1), .lit (.string p.2)] := hx'
    injection hx' with hx'
    have f0 := hf 0 _ rfl
    have f1 := hf 1 _ rfl
    have f0 : DataW.trod (fun _ => ()) Tryd.prog W 0 (fun _ => true) false m2 9 ((((cs.toList.drop (i * 2)).take 2).drop 0).take (Tryd.prog.cellsOf 9)) = ys[0]? := f0
    have f1 : DataW.trod (fun _ => ()) Tryd.prog W 0 (fun _ => true) false m2 9 ((((cs.toList.drop (i * 2)).take 2).drop 1).take (Tryd.prog.cellsOf 9)) = ys[1]? := f1
    rw [c9] at f0 f1
    match ys, hyn, hx' with
    | [y0, y1], _, hx' =>
      simp only [List.map_cons, List.map_nil, List.cons.injEq, and_true] at hx'
      obtain ⟨s0, a1, a2, _⟩ := DataW.trod_string Tryd.underlying9 f0
      obtain ⟨s1, b1, b2, _⟩ := DataW.trod_string Tryd.underlying9 f1
      rw [c140] at hyl
      refine ⟨s0, s1, ?_, ?_, ?_⟩
      · match hc : (cs.toList.drop (i * 2)).take 2, hyl with
        | [u, v], _ =>
          rw [hc] at a1 b1
          simp at a1 b1
          rw [a1, b1]
      · rw [a2] at hx'
        simpa using hx'.1
      · rw [b2] at hx'
        simpa using hx'.2)
  intro n us hn'
  have hcell : ∀ (k : Nat) v, cs.toList[k]? = some v → W.cell? ⟨0, 0 + k, none⟩ = some v := fun k v hk => by
    rw [Nat.zero_add, World.var?_cell hg hv k]
    simpa using hk
  simp only [E0] at hn'
  have : n = 0 ∧ us = gl_0 := by
    by_cases hn0 : n = 0
    · subst hn0
      simp at hn'
      exact ⟨rfl, hn'.symm⟩
    · have hb : (n == 0) = false := by simpa using hn0
      simp only [List.lookup, hb] at hn'
      cases hn'
  obtain ⟨rfl, rfl⟩ := this
  simp only [VR]
  refine ⟨?_, 0, 0, cs.toList, rfl, ⟨.inr ⟨rfl, ?_⟩, key.2, hcell⟩, by rw [gl_words]; exact key.1⟩
  · rw [gl_words, Clos_iff]
    intro u hu
    obtain ⟨p, _, hp⟩ := List.mem_flatMap.1 hu
    simp at hp
    rcases hp with rfl | rfl <;> simp [Clo]
  · have hl : cs.toList.length = 36 := by rw [hlen, c156]
    have h0 := hcell 0 (cs.toList[0]'(by omega)) (by rw [List.getElem?_eq_getElem])
    exact (cell_spot h0).2
/-- What M2 must say of a law. -/
def Law (f : Nat) (ts : List TypeId) : Prop := ∀ us, us.length = ts.length → (∀ (j : Nat) t u, ts[j]? = some t → us[j]? = some u → TypedA Tryd.prog 8 t u) → ∃ n, M2.call T n f us [] = some (.bool true, [])
set_option maxRecDepth 100000 in
theorem lifted {f : Nat} {fn : Func} {s : ChangeSpec} {tb : TypeId} (law : Law f fn.params.toList) (os : Go.Os) (started : os.Started) {H : Type} (enc : TypeId × Value → H)
    (hinit : Tryd.prog.inits.idxOf? f = none) (hfn : Tryd.prog.funcs[f]? = some fn) (hvars : s.vars = []) (hps : fn.params.toList.all (fun t => paramT Tryd.prog 8 t && Tryd.prog.readableRec t && decide (t < Tryd.prog.types.size)) = true)
    (hr : fn.resultTypes = #[tb]) (htb : Tryd.prog.underlying tb = some .bool) (hs : ∀ ds : List (DataW H), ds.length = fn.params.toList.length → s.fn H ds = { results := [.lit (.bool true)], args := ds })
    (witness : ∃ (w : World) (tape : Tape) (i : Input), w.os = os ∧ (w.forCall tape i).Shaped Tryd.checked.prog ∧ i.vars = [] ∧ Input.okWide Tryd.checked.prog (w.forCall tape i) .any w.heap.size f i ∧
      ((s.pre enc Tryd.checked.prog fn [] false (w.forCall tape i).memory i.args ∧ laidMetH Tryd.prog laid1 (w.forCall tape i).memory) ∧ sizedMet enc Tryd.checked.prog fn (OpenSpec.ofChange s) false (w.forCall tape i).memory i.args) ∧ ({} : Assume).holds Tryd.checked.prog (lone (Frame.enter Tryd.checked.prog f i.args .normal) [] (w.forCall tape i))) :
    ReturnsInHanded {} Tryd.checked os f .any (fun w args => (s.pre enc Tryd.prog fn [] false w args ∧ laidMetH Tryd.prog laid1 w) ∧ sizedMet enc Tryd.prog fn (OpenSpec.ofChange s) false w args) (s.post enc Tryd.prog fn false true false false) := by
  refine returnsInHanded_of_change_and (C := Tryd.checked) (X := fun w _ => laidMetH Tryd.prog laid1 w) (fun _ _ _ hh h => h.of_heap hh) own0 started hinit hfn witness ?_
  intro W base args ds gs before hval hW _ _ hL _
  have hps' : ∀ t ∈ fn.params.toList, (paramT Tryd.prog 8 t = true ∧ Tryd.prog.readableRec t = true) ∧ t < Tryd.prog.types.size := by
    intro t ht
    have := List.all_eq_true.1 hps t ht
    simpa using this
  have hW' := hW
  obtain ⟨p, q, hA, hV, rfl, _, _⟩ := hW
  rw [hvars] at hV
  obtain ⟨rfl, rfl⟩ := trodVars_none hV
  have hlen : ∀ (ts : List TypeId) (vs : List Value) (ds : List (DataW H)) (ps : List MemPlace), DataW.TrodAll enc Tryd.prog W 0 (fun _ => true) true ts vs ds ps → ds.length = ts.length := by
    intro ts
    induction ts with
    | nil => intro vs ds ps h; cases vs <;> cases ds <;> first | rfl | exact h.elim
    | cons t ts ih =>
      intro vs ds ps h
      cases vs with
      | nil => exact h.elim
      | cons v vs => cases ds with
        | nil => exact h.elim
        | cons d ds => obtain ⟨_, _, _, h2, _⟩ := h; simp [ih _ _ _ h2]
  have hc := law_calls (E := E0) tabOK (f := f) (d := 8) (W := W) (base := base) (ts := fn.params.toList) (args := args) (glob_laid hL) (fun t ht => (hps' t ht).1.1)
    (fun j t v ht hv => hval j t v (by simpa using ht) hv) hA law
  refine hc.mono fun e W' ⟨he, hb⟩ => ?_
  subst he
  exact ⟨_, rfl, post_below laidOut0 hvars (fun t ht => ⟨(hps' t ht).1.2, (hps' t ht).2⟩) hW' hb hr htb (by rw [List.append_nil]; exact hs ds (hlen _ _ _ _ hA))⟩
end Go.Proofs.YtapibckmdpdljaaDoor.M2

/- A row, and its card, from the law in M2. -/
namespace Go.Proofs.YtapibckmdpdljaaDoor.M2
open Go Go.ChangeShapes Go.WideShapes Go.ChangeAt Go.RowKit

theorem bool4 : Tryd.prog.underlying 4 = some .bool := by kernel_rfl
theorem types3 : Tryd.f3.resultTypes = #[4] := by kernel_rfl
set_option maxRecDepth 100000 in
theorem leads_row (law : Law 3 Tryd.f3.params.toList) : Rows.PathLeadsSaid :=
  OpenClaim.holds_of_wide 3 Tryd.f3 rfl rfl rfl rfl rfl rfl rfl ⟨rfl, rfl, rfl, rfl, rfl⟩ rfl rfl rfl rfl rfl (by kernel_rfl) Tryd.func3 (by kernel_rfl)
    (of_decide_eq_true (by kernel_rfl)) (by unfold Func.isWrapper; first | (rw [if_pos (by decide +kernel)]; kernel_rfl) | (rw [if_neg (by decide +kernel)]; exact ⟨rfl, rfl⟩))
    (fun os started H enc _ => lifted (s := Rows.pathLeadsSpec) law os started enc (by kernel_rfl) Tryd.func3 rfl (by kernel_rfl) types3 bool4
      (fun ds h => by
        have h1 : ds.length = 2 := h
        match ds, h1 with
        | [d0, d1], _ => rfl)
      (ChangeSpec.witness_shaped (enc := enc) (C := Tryd.checked) (os := os) (X := fun w _ => laidMetH Tryd.prog laid1 w) false (World.doorLaid Tryd.prog 400 os) #[.slice none 0 0, .int .i64 0] 8 rfl (World.shaped_of_RefB (by kernel_rfl) (by kernel_rfl)) (by kernel_rfl) (by kernel_rfl) (by kernel_rfl) (door_met os _)))
theorem leads_card (law : Law 3 Tryd.f3.params.toList) : Rows.PathLeadsCardSaid :=
  Claim7.holds_tied_plain_at .later [] [.data] true (true, "13d9c7b0cf76a0ce59a956f6bcabe4d883017d16fd43b76b602544cf0bc1a375") true
    (leads_row law) (fun _ h => by cases h) (by kernel_rfl) (fun _ h => by cases h) pathLeads_row_tie rfl ⟨rfl, rfl⟩ (by kernel_rfl) rfl
    (fun f fn hf hfn => by
      obtain rfl : f = 3 := Option.some.inj ((show Tryd.prog.funcNamed "joinery/joinerylaw09.PathLeads" = some 3 by kernel_rfl).symm.trans hf) |>.symm
      obtain rfl : fn = Tryd.f3 := (Option.some.inj (Tryd.func3.symm.trans hfn)).symm
      exact ⟨by kernel_rfl, fun j t ht => by
        rw [Tryd.params3] at ht
        have hm : t ∈ [22, 3] := by simpa using Array.mem_of_getElem? ht
        have hall : ([22, 3].all fun u => !Tryd.prog.wantsStandIn u) = true := by kernel_rfl
        exact (show Tryd.prog.wantsStandIn t = false by simpa using List.all_eq_true.1 hall t hm)⟩)
    (by kernel_rfl)
end Go.Proofs.YtapibckmdpdljaaDoor.M2
