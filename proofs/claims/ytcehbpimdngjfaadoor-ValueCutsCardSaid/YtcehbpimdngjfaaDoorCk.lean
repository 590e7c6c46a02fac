/- From M2's law to the row: what all laws of this seat share. -/
import Derived.Test.YtcehbpimdngjfaaDoorRows
import Derived.Test.YtcehbpimdngjfaaDoorCc
import Derived.Test.YtcehbpimdngjfaaDoorCd
import Derived.LaidMore
import Derived.OpenShut
import Derived.Stop.Joined
set_option linter.unusedSimpArgs false
set_option linter.unusedVariables false
set_option linter.unusedSectionVars false
namespace Go.Proofs.YtcehbpimdngjfaaDoor.M2
open Go
noncomputable def E0 : En := ⟨Tryd.prog, [137, 134], [(0, gl_0), (1, gl_1)]⟩
def h_joinerylaw11_ValueAll : List (Nat × RH) := [(0, ⟨[0, 1], []⟩), (1, ⟨[0, 1, 25], []⟩), (2, ⟨[4], []⟩), (3, ⟨[0, 1, 5, 6], []⟩), (4, ⟨[0, 1, 6, 7], []⟩), (5, ⟨[0, 6, 7, 8], []⟩), (6, ⟨[0, 7, 8, 48], []⟩), (7, ⟨[4], []⟩), (8, ⟨[0, 7, 8, 9], []⟩), (9, ⟨[0, 7, 8, 9, 52], []⟩), (11, ⟨[0, 7, 8, 9, 10], []⟩), (12, ⟨[0, 7, 8, 9, 10, 65], []⟩), (13, ⟨[4], []⟩), (14, ⟨[0, 7, 8, 9, 10, 11], []⟩), (15, ⟨[0, 7, 8, 9, 10, 11, 69], []⟩), (17, ⟨[0, 7, 8, 9, 10, 11, 80], []⟩), (18, ⟨[4], []⟩), (19, ⟨[0, 7, 8, 9, 10, 11, 12], []⟩), (20, ⟨[0, 7, 8, 9, 10, 11, 12, 82], []⟩), (22, ⟨[0, 7, 8, 9, 10, 11, 12, 103], []⟩), (23, ⟨[4], []⟩), (21, ⟨[0, 7, 8, 9, 10, 11, 12], []⟩), (16, ⟨[0, 7, 8, 9, 10, 11], []⟩), (10, ⟨[0, 7, 8, 9], []⟩), (24, ⟨[4], []⟩)]
def h_joinerylaw11_ValueFacts : List (Nat × RH) := [(0, ⟨[0, 1], []⟩), (1, ⟨[0, 1, 19], []⟩), (2, ⟨[4], []⟩), (3, ⟨[0, 1, 5, 6], []⟩), (4, ⟨[4], []⟩)]
def h_joinerylaw11_ValueCuts : List (Nat × RH) := [(0, ⟨[0], []⟩), (1, ⟨[0, 9], []⟩), (2, ⟨[2], []⟩), (3, ⟨[0, 3, 4], []⟩), (4, ⟨[0, 3, 4, 18], []⟩), (5, ⟨[2], []⟩), (6, ⟨[3, 4, 5], []⟩), (7, ⟨[3, 5, 39], []⟩), (8, ⟨[2], []⟩), (9, ⟨[3, 5, 6], []⟩), (10, ⟨[3, 5, 6, 43], []⟩), (12, ⟨[3, 5, 6, 54], []⟩), (13, ⟨[2], []⟩), (11, ⟨[3, 5, 6], []⟩), (14, ⟨[2], []⟩)]
def h_joinerylaw11_ValueKinds : List (Nat × RH) := [(0, ⟨[0, 1], []⟩), (1, ⟨[0, 1, 29], []⟩), (2, ⟨[4], []⟩), (3, ⟨[0, 5, 6], []⟩), (4, ⟨[6, 7, 8, 9], []⟩), (5, ⟨[7, 8, 9, 60], []⟩), (6, ⟨[4], []⟩), (7, ⟨[7, 8, 9, 10], []⟩), (8, ⟨[7, 8, 9, 10, 64], []⟩), (10, ⟨[7, 8, 9, 10, 85], []⟩), (11, ⟨[4], []⟩), (12, ⟨[7, 8, 9, 10, 11], []⟩), (13, ⟨[7, 8, 9, 10, 11, 92], []⟩), (15, ⟨[7, 8, 9, 10, 11, 12], []⟩), (16, ⟨[7, 8, 9, 10, 11, 12, 13], []⟩), (17, ⟨[7, 8, 9, 10, 11, 12, 13, 117], []⟩), (19, ⟨[7, 8, 9, 10, 11, 12, 13, 14], []⟩), (20, ⟨[7, 8, 9, 10, 11, 12, 13, 142], []⟩), (21, ⟨[4], []⟩), (18, ⟨[7, 8, 9, 10, 11, 12, 13], []⟩), (14, ⟨[7, 8, 9, 10, 11], []⟩), (22, ⟨[7, 8, 9, 10, 15], []⟩), (23, ⟨[7, 8, 9, 10, 15, 144], []⟩), (25, ⟨[7, 8, 9, 10, 15, 16], []⟩), (26, ⟨[7, 8, 9, 10, 15, 167], []⟩), (27, ⟨[4], []⟩), (24, ⟨[7, 8, 9, 10, 15], []⟩), (9, ⟨[7, 8, 9, 10], []⟩), (28, ⟨[4], []⟩)]
def h_joinerylaw11_ValueNone : List (Nat × RH) := [(0, ⟨[0], []⟩), (1, ⟨[0, 14], []⟩), (2, ⟨[2], []⟩), (3, ⟨[0, 3], []⟩), (4, ⟨[0, 3, 19], []⟩), (6, ⟨[0, 3, 35], []⟩), (7, ⟨[2], []⟩), (5, ⟨[0, 3], []⟩), (8, ⟨[0, 4, 5], []⟩), (9, ⟨[0, 4, 5, 6], []⟩), (10, ⟨[0, 4, 5, 6, 45], []⟩), (12, ⟨[0, 4, 5, 6, 51], []⟩), (13, ⟨[2], []⟩), (11, ⟨[0, 4, 5, 6], []⟩), (14, ⟨[2], []⟩)]
def h_joineryref04_Right : List (Nat × RH) := [(0, ⟨[0], []⟩), (1, ⟨[4], []⟩), (2, ⟨[2], []⟩)]
def h_joinerylaw11_knows : List (Nat × RH) := [(0, ⟨[], []⟩), (1, ⟨[1, 3], []⟩), (2, ⟨[1, 3, 4], []⟩), (3, ⟨[1, 3, 4, 6], []⟩), (4, ⟨[1, 3, 4, 6, 7], []⟩), (5, ⟨[1, 3, 4, 6, 10, 11], []⟩), (6, ⟨[0], []⟩)]
def h_skel_Build : List (Nat × RH) := [(0, ⟨[1, 2, 4], []⟩), (1, ⟨[1, 2, 4, 16], []⟩), (2, ⟨[4, 5], []⟩), (3, ⟨[1, 2, 4, 6], [(0, ⟨false, none, [(25, 81, 2, false)]⟩)]⟩), (4, ⟨[1, 2, 4, 6, 7], []⟩), (5, ⟨[1, 2, 4, 6, 8], []⟩), (6, ⟨[1, 2, 4, 6, 8], []⟩), (7, ⟨[1, 2, 4, 6, 8, 9], []⟩), (8, ⟨[1, 2, 4, 6, 8, 9, 27], []⟩), (10, ⟨[1, 2, 4, 6, 8, 9, 10], []⟩), (11, ⟨[1, 2, 4, 6, 8, 9, 10, 45], []⟩), (12, ⟨[1, 2, 4, 6, 8, 9, 10, 11], [(0, ⟨false, (some (31, 25, false)), []⟩)]⟩), (13, ⟨[1, 2, 4, 6, 8, 9, 11, 51, 52, 53], []⟩), (14, ⟨[1, 2, 4, 6, 8, 9, 11, 51, 52, 53, 54], []⟩), (15, ⟨[1, 2, 4, 6, 8, 9, 11, 13, 51, 52, 53], []⟩), (16, ⟨[1, 2, 4, 6, 8, 9, 11, 51, 52, 53], []⟩), (17, ⟨[1, 2, 4, 6, 8, 9, 11, 51, 52, 53], []⟩), (18, ⟨[1, 2, 4, 6, 8, 9], []⟩), (9, ⟨[1, 2, 4, 6, 8, 9], []⟩), (19, ⟨[4, 5], []⟩)]
def h_value_All : List (Nat × RH) := [(0, ⟨[0, 3], []⟩), (1, ⟨[0, 3, 16], []⟩), (2, ⟨[4], []⟩), (3, ⟨[0, 3, 5], [(0, ⟨false, (some (49, 1, false)), []⟩)]⟩), (4, ⟨[0, 3, 5, 18, 19, 20], []⟩), (5, ⟨[0, 3, 5, 18, 19, 20, 21], []⟩), (6, ⟨[0, 3, 5, 7, 18, 19, 20], []⟩), (7, ⟨[0, 3, 5, 7, 8, 18, 19, 20], [(0, ⟨false, (some (50, 1, false)), []⟩)]⟩), (8, ⟨[0, 3, 5, 8, 18, 19, 20, 24, 25, 26], []⟩), (9, ⟨[0, 3, 5, 8, 18, 19, 20, 24, 25, 26, 27], []⟩), (10, ⟨[0, 3, 5, 8, 10, 18, 19, 20, 24, 25, 26], []⟩), (11, ⟨[0, 3, 5, 8, 10, 11, 18, 19, 20, 24, 25, 26], [(0, ⟨false, (some (52, 2, false)), []⟩)]⟩), (12, ⟨[0, 3, 5, 8, 10, 11, 18, 19, 20, 24, 25, 26, 30], []⟩), (13, ⟨[0, 3, 5, 8, 10, 11, 18, 19, 20, 24, 25, 26, 30, 31], []⟩), (14, ⟨[0, 3, 5, 8, 10, 11, 12, 18, 19, 20, 24, 25, 26, 30], []⟩), (15, ⟨[0, 3, 5, 8, 10, 11, 18, 19, 20, 24, 25, 26, 30], []⟩), (16, ⟨[0, 3, 5, 8, 10, 11, 18, 19, 20, 24, 25, 26, 30], []⟩), (17, ⟨[0, 3, 5, 8, 18, 19, 20, 24, 25, 26], []⟩), (18, ⟨[0, 3, 5, 8, 18, 19, 20, 24, 25, 26], []⟩), (19, ⟨[0, 3, 5, 18, 19, 20], []⟩), (20, ⟨[0, 3, 5, 18, 19, 20], []⟩), (21, ⟨[4], []⟩)]
def h_joineryref10_Build : List (Nat × RH) := [(0, ⟨[0, 1, 4], []⟩), (1, ⟨[0, 1, 4, 5], []⟩), (2, ⟨[0, 1, 4, 5, 6], [(5, ⟨false, none, [(2, 106, 2, false)]⟩)]⟩), (3, ⟨[0, 1, 4, 5, 6, 7], []⟩), (4, ⟨[0, 1, 4, 5, 6, 7, 21], []⟩), (6, ⟨[0, 1, 4, 5, 6, 7, 8], [(6, ⟨false, none, [(1, 42, 2, false)]⟩)]⟩), (7, ⟨[0, 1, 4, 5, 6, 7, 8, 9], []⟩), (8, ⟨[0, 1, 4, 5, 6, 7, 8, 9, 10], []⟩), (9, ⟨[0, 1, 4, 5, 6, 7, 8, 9, 10, 39], []⟩), (11, ⟨[0, 1, 4, 5, 6, 7, 8, 9, 10], []⟩), (10, ⟨[0, 1, 4, 5, 6, 7, 8, 9, 10], []⟩), (12, ⟨[0, 1, 4, 5, 6, 7], []⟩), (5, ⟨[0, 1, 4, 5, 6, 7], []⟩), (13, ⟨[4], []⟩)]
def h_joineryref10_To : List (Nat × RH) := [(0, ⟨[1, 2], []⟩), (1, ⟨[1, 2, 5], [(0, ⟨false, (some (55, 2, false)), []⟩)]⟩), (2, ⟨[1, 2, 5, 12], []⟩), (3, ⟨[1, 2, 5], []⟩), (4, ⟨[1, 2, 5, 6], []⟩), (5, ⟨[1, 2, 5, 6, 21], []⟩), (7, ⟨[1, 2, 5, 6, 7], []⟩), (8, ⟨[1, 2, 5, 6, 7, 32], []⟩), (10, ⟨[1, 2, 5, 6, 7, 46], []⟩), (11, ⟨[1, 2, 5, 6, 7], []⟩), (9, ⟨[1, 2, 5, 6, 7], []⟩), (6, ⟨[1, 2, 5, 6], []⟩), (12, ⟨[4], []⟩)]
def h_joineryref11_By : List (Nat × RH) := [(0, ⟨[0, 3, 5, 6, 8], []⟩), (1, ⟨[0, 3, 5, 6, 8, 15], []⟩), (2, ⟨[8, 9], []⟩), (3, ⟨[8, 9, 24], []⟩), (4, ⟨[8], []⟩), (5, ⟨[8, 9, 30], []⟩), (6, ⟨[8], []⟩), (7, ⟨[8], []⟩), (8, ⟨[0, 5, 6, 8, 10], []⟩), (9, ⟨[0, 5, 6, 8, 10, 52], []⟩), (10, ⟨[8], []⟩), (11, ⟨[8, 10, 11, 12], []⟩), (12, ⟨[8, 10, 76], []⟩), (13, ⟨[8], []⟩), (14, ⟨[8], []⟩)]
def h_joineryref11_SameFacts : List (Nat × RH) := [(0, ⟨[0, 1], []⟩), (1, ⟨[0, 1, 11], []⟩), (2, ⟨[4], []⟩), (3, ⟨[0, 1, 5], []⟩), (4, ⟨[0, 1, 5, 15], []⟩), (6, ⟨[0, 1, 5, 28], []⟩), (7, ⟨[4], []⟩), (8, ⟨[0, 1, 5, 6], []⟩), (9, ⟨[0, 1, 5, 6, 35], []⟩), (11, ⟨[0, 1, 5, 6, 52], []⟩), (12, ⟨[4], []⟩), (10, ⟨[0, 1, 5, 6], []⟩), (5, ⟨[0, 1, 5], []⟩), (13, ⟨[4], []⟩)]
def h_value_Facts : List (Nat × RH) := [(0, ⟨[0, 3], []⟩), (1, ⟨[0, 3, 17], []⟩), (2, ⟨[4], []⟩), (3, ⟨[0, 3, 5], [(3, ⟨true, none, []⟩)]⟩), (4, ⟨[0, 3, 5, 23, 24], []⟩), (5, ⟨[0, 3, 5, 23, 24, 25], []⟩), (6, ⟨[0, 3, 5, 6, 23, 24], []⟩), (7, ⟨[0, 3, 5, 6, 23, 24, 27], []⟩), (8, ⟨[0, 3, 5, 6, 23, 24, 27, 28], []⟩), (9, ⟨[0, 3, 5, 6, 23, 24, 27], []⟩), (10, ⟨[0, 3, 5, 6, 23, 24, 27], []⟩), (11, ⟨[0, 3, 5, 23, 24], []⟩), (12, ⟨[5, 7, 8], []⟩), (13, ⟨[5, 9], []⟩), (14, ⟨[5, 9, 10], []⟩), (15, ⟨[5, 9, 47], []⟩), (16, ⟨[5, 9, 10], []⟩), (17, ⟨[5, 9, 10, 49, 50], []⟩), (18, ⟨[5, 9, 10, 49, 50, 51], []⟩), (19, ⟨[5, 9, 10, 11, 49, 50], []⟩), (20, ⟨[5, 9, 10, 11, 49, 50, 53], []⟩), (21, ⟨[5, 9, 10, 11, 49, 50, 53, 54], []⟩), (22, ⟨[5, 9, 10, 11, 12, 49, 50, 53], []⟩), (23, ⟨[5, 9, 10, 11, 12, 13, 49, 50, 53], []⟩), (24, ⟨[5, 9, 10, 11, 12, 13, 49, 50, 53, 68], []⟩), (25, ⟨[5, 9, 10, 11, 49, 50, 53], []⟩), (26, ⟨[5, 9, 10, 11, 49, 50, 53], []⟩), (27, ⟨[5, 9, 10, 49, 50], []⟩), (28, ⟨[4], []⟩)]
def h_joineryref11_Facts : List (Nat × RH) := [(0, ⟨[0, 3], []⟩), (1, ⟨[0, 3, 5], [(0, ⟨true, (some (50, 1, true)), []⟩)]⟩), (2, ⟨[0, 3, 5, 6], []⟩), (3, ⟨[0, 3, 5, 6, 20], []⟩), (5, ⟨[0, 3, 5, 6, 7], [(0, ⟨false, (some (52, 2, false)), []⟩)]⟩), (6, ⟨[0, 3, 5, 6, 7, 8], []⟩), (7, ⟨[0, 3, 5, 6, 7, 8, 24], []⟩), (9, ⟨[0, 3, 5, 6, 7, 8], []⟩), (8, ⟨[0, 3, 5, 6, 7, 8], []⟩), (10, ⟨[0, 3, 5, 6], [(2, ⟨true, none, []⟩), (3, ⟨true, none, []⟩)]⟩), (4, ⟨[0, 3, 5, 6], []⟩), (11, ⟨[0, 3, 5, 9], []⟩), (12, ⟨[0, 3, 5, 9, 10], []⟩), (13, ⟨[0, 3, 5, 9, 10, 11], []⟩), (14, ⟨[0, 3, 5, 9, 10, 11, 43], []⟩), (16, ⟨[0, 3, 5, 9, 10, 11], []⟩), (15, ⟨[0, 3, 5, 9, 10, 11], []⟩), (17, ⟨[0, 3, 5, 9, 12], []⟩), (18, ⟨[0, 3, 5, 9, 12, 57], []⟩), (20, ⟨[0, 3, 5, 9, 12, 13], []⟩), (21, ⟨[0, 3, 5, 9, 12, 13, 14], []⟩), (22, ⟨[0, 3, 5, 9, 12, 13, 14, 70], []⟩), (24, ⟨[0, 3, 5, 9, 12, 13, 14, 15], []⟩), (25, ⟨[0, 3, 5, 9, 12, 13, 14, 15, 74], []⟩), (27, ⟨[0, 3, 5, 9, 12, 13, 14, 15, 83], []⟩), (28, ⟨[0, 3, 5, 9, 12, 13, 14, 15], []⟩), (26, ⟨[0, 3, 5, 9, 12, 13, 14, 15], []⟩), (23, ⟨[0, 3, 5, 9, 12, 13, 14], []⟩), (19, ⟨[0, 3, 5, 9, 12], []⟩), (29, ⟨[4], []⟩)]
def h_value_Cut : List (Nat × RH) := [(0, ⟨[0], []⟩), (1, ⟨[0, 15], []⟩), (2, ⟨[2, 3], []⟩), (3, ⟨[0, 4], []⟩), (4, ⟨[0, 4, 5], []⟩), (5, ⟨[0, 4, 19], []⟩), (6, ⟨[0, 4, 5], []⟩), (7, ⟨[0, 4, 5, 6], []⟩), (8, ⟨[0, 4, 5, 6, 8], []⟩), (9, ⟨[0, 4, 5, 8, 30, 31, 32], []⟩), (10, ⟨[0, 4, 5, 8, 30, 31, 32, 33], []⟩), (11, ⟨[0, 4, 5, 8, 9, 10, 30, 31, 32], []⟩), (12, ⟨[0, 4, 5, 8, 9, 10, 30, 31, 32, 42, 43, 44], []⟩), (13, ⟨[0, 4, 5, 8, 9, 10, 30, 31, 32, 42, 43, 44, 45], []⟩), (14, ⟨[0, 4, 5, 8, 9, 10, 12, 30, 31, 32, 42, 43, 44], []⟩), (15, ⟨[0, 4, 5, 8, 9, 10, 30, 31, 32, 42, 43, 44, 64], []⟩), (16, ⟨[0, 4, 5, 8, 9, 10, 30, 31, 32, 42, 43, 44], []⟩), (17, ⟨[0, 4, 5, 8, 9, 10, 30, 31, 32, 42, 43, 44], []⟩), (18, ⟨[0, 4, 5, 8, 30, 31, 32], []⟩), (19, ⟨[2, 3], []⟩)]
def h_joineryref11_Cut : List (Nat × RH) := [(0, ⟨[0], []⟩), (1, ⟨[0, 3], []⟩), (2, ⟨[0, 3, 4], []⟩), (3, ⟨[0, 3, 14], []⟩), (4, ⟨[0, 3, 4], []⟩), (5, ⟨[0, 3, 4, 5], []⟩), (6, ⟨[0, 3, 4, 5, 6], []⟩), (7, ⟨[0, 3, 4, 5, 6, 7], []⟩), (8, ⟨[0, 3, 4, 5, 6, 7, 25], []⟩), (10, ⟨[0, 3, 4, 5, 6, 7, 8], []⟩), (11, ⟨[0, 3, 4, 5, 6, 7, 8, 9], []⟩), (12, ⟨[0, 3, 4, 5, 6, 7, 8, 9, 10], []⟩), (13, ⟨[0, 3, 4, 5, 6, 7, 8, 9, 10, 42], []⟩), (15, ⟨[0, 3, 4, 5, 6, 7, 8, 9, 10, 63], []⟩), (16, ⟨[0, 3, 5, 6, 7, 8, 9, 10], []⟩), (17, ⟨[0, 3, 4, 5, 6, 7, 8, 9, 10], []⟩), (14, ⟨[0, 3, 4, 5, 6, 7, 8, 9, 10], []⟩), (9, ⟨[0, 3, 4, 5, 6, 7], []⟩), (18, ⟨[2], []⟩)]
def h_skel_Ways : List (Nat × RH) := [(0, ⟨[1], []⟩), (1, ⟨[1, 3], [(3, ⟨true, none, []⟩)]⟩), (2, ⟨[1, 3, 4], []⟩), (3, ⟨[1, 3, 4], []⟩), (4, ⟨[3, 4, 21, 22, 23], []⟩), (5, ⟨[3, 4, 21, 22, 23, 24], []⟩), (6, ⟨[3, 4, 5, 6, 21, 22, 23], []⟩), (7, ⟨[3, 4, 5, 21, 22, 23, 29, 30, 31], []⟩), (8, ⟨[3, 4, 5, 21, 22, 23, 29, 30, 31, 32], []⟩), (9, ⟨[3, 4, 5, 7, 8, 21, 22, 23, 29, 30, 31], []⟩), (10, ⟨[3, 4, 5, 21, 22, 23, 29, 30, 31], []⟩), (11, ⟨[3, 4, 5, 21, 22, 23, 29, 30, 31], []⟩), (12, ⟨[3, 4, 21, 22, 23], []⟩), (13, ⟨[2], []⟩)]
def h_joineryref03_Moves : List (Nat × RH) := [(0, ⟨[1], []⟩), (1, ⟨[2], []⟩)]
def h_joineryref04_Check : List (Nat × RH) := [(0, ⟨[0], []⟩), (1, ⟨[0, 9], []⟩), (2, ⟨[2, 3], []⟩), (3, ⟨[0, 12], []⟩), (4, ⟨[2, 3], []⟩), (5, ⟨[0, 4], []⟩), (6, ⟨[0, 4, 16], []⟩), (8, ⟨[0, 4, 5], []⟩), (9, ⟨[0, 4, 5, 27], []⟩), (10, ⟨[2, 3], []⟩), (7, ⟨[0, 4], []⟩), (11, ⟨[0, 6], []⟩), (12, ⟨[0, 42], []⟩), (13, ⟨[2, 3], []⟩), (14, ⟨[2, 3], []⟩)]
def h_asm_Parse : List (Nat × RH) := [(0, ⟨[1], []⟩), (1, ⟨[1, 15], []⟩), (2, ⟨[2, 3, 4], []⟩), (3, ⟨[1, 5], []⟩), (4, ⟨[1, 5, 6], []⟩), (5, ⟨[1, 5, 6, 7], []⟩), (6, ⟨[1, 5, 6, 7, 8], []⟩), (7, ⟨[1, 5, 6, 7, 8, 18], []⟩), (8, ⟨[1, 5, 6, 7, 8, 18, 19, 20], []⟩), (9, ⟨[1, 5, 6, 7, 8, 9, 10, 18], []⟩), (10, ⟨[1, 5, 6, 7, 8, 9, 18, 24], []⟩), (11, ⟨[1, 5, 6, 7, 8, 9, 18, 28], []⟩), (12, ⟨[2, 3, 4], []⟩), (13, ⟨[1, 5, 6, 7, 8, 18], []⟩), (14, ⟨[5, 6, 7, 35], []⟩), (15, ⟨[2, 3, 4], []⟩), (16, ⟨[5, 6, 11, 12], []⟩), (17, ⟨[5, 6, 11, 12, 43], []⟩), (18, ⟨[2, 3, 4], []⟩), (19, ⟨[6, 11, 12, 48], []⟩), (20, ⟨[11, 12], []⟩), (21, ⟨[2, 3, 4], []⟩)]
def h_value_By : List (Nat × RH) := [(0, ⟨[0, 3, 5, 6, 8], []⟩), (1, ⟨[0, 3, 5, 6, 8, 10], []⟩), (2, ⟨[0, 3, 5, 6, 8, 29], []⟩), (3, ⟨[8], []⟩), (4, ⟨[8], []⟩)]
def h_asm_Right : List (Nat × RH) := [(0, ⟨[0], []⟩), (1, ⟨[4], []⟩), (2, ⟨[2], []⟩)]
def h_skel_Build_1 : List (Nat × RH) := [(0, ⟨[0, 1, 2, 3, 5], []⟩), (1, ⟨[2, 3, 5, 6], []⟩), (2, ⟨[2, 3, 5, 6, 18], []⟩), (3, ⟨[5], []⟩), (4, ⟨[2, 3, 5, 6, 8, 9], []⟩), (5, ⟨[2, 3, 5, 6, 8, 30], []⟩), (6, ⟨[2, 3, 5, 6, 8], []⟩), (7, ⟨[3, 5, 6, 8], []⟩), (8, ⟨[5, 6, 8], []⟩), (9, ⟨[5], []⟩)]
def h_path_From : List (Nat × RH) := [(0, ⟨[1, 2, 4], []⟩), (1, ⟨[1, 2, 4, 21], []⟩), (2, ⟨[4, 5], []⟩), (3, ⟨[1, 2, 4, 6], []⟩), (4, ⟨[2, 4, 6, 7], []⟩), (5, ⟨[4, 6, 7, 8], []⟩), (6, ⟨[4, 6, 7, 8, 28], []⟩), (7, ⟨[4, 7, 32], []⟩), (8, ⟨[4, 5], []⟩), (9, ⟨[4, 5], []⟩)]
def h_skel_nexts : List (Nat × RH) := [(0, ⟨[1, 2], []⟩), (1, ⟨[1, 2, 6], []⟩), (2, ⟨[1, 2, 6, 7], []⟩), (3, ⟨[4], []⟩), (4, ⟨[1, 2, 9], []⟩), (5, ⟨[4], []⟩), (6, ⟨[4], []⟩)]
def h_value_built : List (Nat × RH) := [(0, ⟨[0, 3], []⟩), (1, ⟨[0, 3, 5], []⟩), (2, ⟨[0, 3, 5, 18, 19, 20], []⟩), (3, ⟨[0, 3, 5, 18, 19, 20, 21], []⟩), (4, ⟨[0, 3, 5, 7, 18, 19, 20], []⟩), (5, ⟨[0, 3, 5, 7, 18, 19, 20, 33], []⟩), (6, ⟨[4], []⟩), (7, ⟨[0, 3, 5, 18, 19, 20], []⟩), (8, ⟨[0, 3, 5, 18, 19, 20], []⟩), (9, ⟨[3, 8, 9], []⟩), (10, ⟨[3, 8, 66], []⟩), (11, ⟨[4], []⟩), (12, ⟨[3, 68, 69, 70], []⟩), (13, ⟨[3, 68, 69, 70, 71], []⟩), (14, ⟨[3, 10, 11, 68, 69, 70], []⟩), (15, ⟨[3, 10, 11, 68, 69, 70, 96], []⟩), (16, ⟨[4], []⟩), (17, ⟨[3, 10, 68, 69, 70, 98, 99, 100], []⟩), (18, ⟨[3, 10, 68, 69, 70, 98, 99, 100, 101], []⟩), (19, ⟨[3, 10, 12, 13, 68, 69, 70, 98, 99, 100], []⟩), (20, ⟨[3, 10, 68, 69, 70, 98, 99, 100, 115], []⟩), (21, ⟨[4], []⟩), (22, ⟨[3, 10, 68, 69, 70, 98, 99, 100], []⟩), (23, ⟨[3, 68, 69, 70], []⟩), (24, ⟨[4], []⟩)]
def h_value_by : List (Nat × RH) := [(0, ⟨[0, 3, 5, 6, 8], []⟩), (1, ⟨[0, 3, 5, 6, 8, 9], []⟩), (2, ⟨[0, 3, 5, 6, 8, 9, 11, 12], []⟩), (3, ⟨[0, 3, 5, 6, 8, 9, 11, 31], []⟩), (4, ⟨[8], []⟩), (5, ⟨[0, 5, 6, 8, 13], []⟩), (6, ⟨[0, 5, 6, 8, 13, 45], []⟩), (7, ⟨[8, 13, 48], []⟩), (8, ⟨[8], []⟩), (9, ⟨[8], []⟩), (10, ⟨[8, 13, 15, 16], []⟩), (11, ⟨[8, 13, 73], []⟩), (12, ⟨[8], []⟩), (13, ⟨[8], []⟩)]
def h_joineryref10_Places : List (Nat × RH) := [(0, ⟨[0, 1], []⟩), (1, ⟨[0, 1, 5], [(0, ⟨false, (some (3, 1, false)), []⟩)]⟩), (2, ⟨[0, 1, 5, 6], []⟩), (3, ⟨[0, 1, 5, 6, 15], []⟩), (4, ⟨[0, 1, 5], []⟩), (5, ⟨[0, 1, 5, 7], []⟩), (6, ⟨[0, 1, 5, 7, 24], []⟩), (8, ⟨[0, 1, 5, 7, 8], []⟩), (9, ⟨[0, 1, 5, 7, 8, 9], []⟩), (10, ⟨[0, 1, 5, 7, 8, 9, 37], []⟩), (12, ⟨[0, 1, 5, 7, 8, 9, 10], []⟩), (13, ⟨[0, 1, 5, 7, 8, 9, 10, 57], []⟩), (14, ⟨[0, 1, 5, 7, 8, 9], []⟩), (11, ⟨[0, 1, 5, 7, 8, 9], []⟩), (7, ⟨[0, 1, 5, 7], []⟩), (15, ⟨[4], []⟩)]
def h_joineryref10_way : List (Nat × RH) := [(0, ⟨[0, 1, 2, 6], []⟩), (1, ⟨[1, 6, 7], []⟩), (2, ⟨[1, 6, 7, 13], []⟩), (3, ⟨[6], []⟩), (4, ⟨[6], []⟩)]
def h_joineryref10_froms : List (Nat × RH) := [(0, ⟨[0, 1, 2], []⟩), (1, ⟨[0, 2, 24], []⟩), (2, ⟨[6], []⟩), (3, ⟨[0, 2, 30], []⟩), (4, ⟨[6], []⟩), (5, ⟨[6], []⟩)]
def h_joineryref03_Sets : List (Nat × RH) := [(0, ⟨[1], []⟩), (1, ⟨[1, 16], []⟩), (2, ⟨[2, 3], []⟩), (3, ⟨[2, 3], []⟩)]
def h_value_Facts_1 : List (Nat × RH) := [(0, ⟨[0, 1, 2, 3, 4, 7], []⟩), (1, ⟨[0, 1, 2, 3, 4, 7, 8], []⟩), (2, ⟨[0, 1, 2, 3, 4, 7, 8, 9], []⟩), (3, ⟨[0, 1, 3, 4, 7, 8, 9, 19, 20, 21], []⟩), (4, ⟨[0, 1, 3, 4, 7, 8, 9, 19, 20, 21, 22], []⟩), (5, ⟨[0, 1, 3, 4, 7, 8, 9, 10, 11, 19, 20, 21], []⟩), (6, ⟨[0, 1, 3, 4, 7, 8, 9, 11, 12, 19, 20, 21], []⟩), (7, ⟨[0, 1, 3, 4, 7, 8, 9, 11, 12, 19, 20, 21, 38], []⟩), (8, ⟨[0, 1, 3, 4, 7, 8, 9, 12, 19, 20, 21], []⟩), (10, ⟨[0, 1, 3, 4, 7, 8, 9, 12, 19, 20, 21, 49], []⟩), (11, ⟨[0, 1, 3, 4, 7, 8, 9, 12, 19, 20, 21, 53], []⟩), (12, ⟨[0, 1, 3, 4, 7, 8, 9, 12, 19, 20, 21, 53], []⟩), (13, ⟨[7], []⟩), (9, ⟨[0, 1, 3, 4, 7, 8, 9, 19, 20, 21], []⟩), (14, ⟨[0, 1, 3, 4, 7, 8, 9, 19, 20, 21], []⟩), (15, ⟨[7], []⟩)]
def h_joineryref11_Numbers : List (Nat × RH) := [(0, ⟨[0], []⟩), (1, ⟨[0, 3], [(0, ⟨false, (some (2, 1, false)), []⟩)]⟩), (2, ⟨[0, 3, 4], []⟩), (3, ⟨[0, 3, 4, 10], []⟩), (5, ⟨[0, 3, 4, 5], []⟩), (6, ⟨[0, 3, 4, 5, 6], []⟩), (7, ⟨[0, 3, 4, 5, 6, 22], []⟩), (9, ⟨[0, 3, 4, 5, 6], []⟩), (8, ⟨[0, 3, 4, 5, 6], []⟩), (10, ⟨[0, 3, 4, 39], []⟩), (11, ⟨[0, 3, 4], []⟩), (4, ⟨[0, 3, 4], []⟩), (12, ⟨[2], []⟩)]
def h_joineryref11_Said : List (Nat × RH) := [(0, ⟨[0, 4, 5], []⟩), (1, ⟨[0, 4, 5, 7], [(0, ⟨true, (some (23, 1, true)), []⟩)]⟩), (2, ⟨[0, 4, 5, 7, 8], []⟩), (3, ⟨[0, 4, 5, 7, 8, 18], []⟩), (5, ⟨[0, 4, 5, 7, 8, 9], [(0, ⟨false, (some (4, 1, false)), []⟩)]⟩), (6, ⟨[0, 4, 5, 7, 8, 9, 10], []⟩), (7, ⟨[0, 4, 5, 7, 8, 9, 10, 22], []⟩), (9, ⟨[0, 4, 5, 7, 8, 9, 10], []⟩), (8, ⟨[0, 4, 5, 7, 8, 9, 10], []⟩), (10, ⟨[0, 4, 5, 7, 8], [(2, ⟨true, none, []⟩), (3, ⟨true, none, []⟩)]⟩), (4, ⟨[0, 4, 5, 7, 8], []⟩), (11, ⟨[0, 4, 5, 7, 11], []⟩), (12, ⟨[0, 4, 5, 7, 32], []⟩), (13, ⟨[0, 4, 5, 7, 11], []⟩), (14, ⟨[0, 4, 5, 7, 11, 12], []⟩), (15, ⟨[0, 4, 5, 7, 11, 12, 36], []⟩), (17, ⟨[0, 4, 5, 7, 11, 12, 13], []⟩), (18, ⟨[0, 4, 5, 7, 11, 12, 13, 40], []⟩), (20, ⟨[0, 4, 5, 7, 11, 12, 13, 59], []⟩), (21, ⟨[0, 4, 5, 7, 12, 13], []⟩), (22, ⟨[0, 4, 5, 7, 11, 12, 13], []⟩), (19, ⟨[0, 4, 5, 7, 11, 12, 13], []⟩), (16, ⟨[0, 4, 5, 7, 11, 12], []⟩), (23, ⟨[6], []⟩)]
def h_ins_Uses : List (Nat × RH) := [(0, ⟨[1], []⟩), (1, ⟨[1, 3, 4], []⟩), (2, ⟨[1, 3, 19], []⟩), (3, ⟨[2], []⟩), (4, ⟨[1, 3, 5], [(0, ⟨false, (some (3, 1, false)), []⟩)]⟩), (5, ⟨[1, 5, 22], []⟩), (6, ⟨[1, 5, 22, 23, 24], []⟩), (7, ⟨[1, 5, 7, 22], []⟩), (8, ⟨[1, 5, 7, 22, 31], []⟩), (9, ⟨[1, 5, 22], []⟩), (10, ⟨[2], []⟩)]
def h_joineryref03_Uses : List (Nat × RH) := [(0, ⟨[1], []⟩), (1, ⟨[1, 15], []⟩), (2, ⟨[2], []⟩), (3, ⟨[1, 38], []⟩), (4, ⟨[2], []⟩), (5, ⟨[2], []⟩)]
def h_skel_Ways_1 : List (Nat × RH) := [(0, ⟨[0, 2, 4], []⟩), (1, ⟨[0, 2, 4, 12], []⟩), (2, ⟨[], []⟩)]
def h_joineryref03_Check : List (Nat × RH) := [(0, ⟨[1, 2], []⟩), (1, ⟨[1, 2, 33], []⟩), (2, ⟨[4], []⟩), (3, ⟨[1, 2, 36], []⟩), (4, ⟨[1, 2, 46], []⟩), (5, ⟨[4], []⟩), (6, ⟨[1, 2, 62], []⟩), (7, ⟨[4], []⟩), (8, ⟨[81], []⟩), (9, ⟨[4], []⟩), (10, ⟨[4], []⟩)]
def h_asm_Parse_1 : List (Nat × RH) := [(0, ⟨[0, 1, 2, 3, 4], []⟩), (1, ⟨[2, 3, 4, 7, 8], []⟩), (2, ⟨[8], []⟩), (3, ⟨[6], []⟩)]
def h_ins_Parse : List (Nat × RH) := [(0, ⟨[0, 2], []⟩), (1, ⟨[2, 4], []⟩), (2, ⟨[2, 4, 13, 14], []⟩), (3, ⟨[2, 4, 13, 14, 15], []⟩), (4, ⟨[2, 4, 5, 6, 13, 14], []⟩), (5, ⟨[2, 4, 5, 6, 13, 14, 32], []⟩), (6, ⟨[2, 4, 6, 7], []⟩), (7, ⟨[2, 4, 7, 38], []⟩), (8, ⟨[2, 4, 7, 38, 39, 40], []⟩), (9, ⟨[2, 4, 7, 8, 9, 38], []⟩), (10, ⟨[2, 4, 7, 10, 38], []⟩), (11, ⟨[2, 4, 7, 38, 51], []⟩), (12, ⟨[2, 3], []⟩), (13, ⟨[2, 7, 55], []⟩), (14, ⟨[2, 3], []⟩), (15, ⟨[2, 4, 13, 14], []⟩), (16, ⟨[2, 3], []⟩)]
def h_asm_Check : List (Nat × RH) := [(0, ⟨[0], []⟩), (1, ⟨[0, 8], []⟩), (2, ⟨[2, 3], []⟩), (3, ⟨[0, 12], []⟩), (4, ⟨[2, 3], []⟩), (5, ⟨[0, 16, 17, 18], []⟩), (6, ⟨[0, 16, 17, 18, 19], []⟩), (7, ⟨[0, 4, 5, 16, 17, 18], []⟩), (8, ⟨[0, 4, 6, 16, 17, 18], []⟩), (9, ⟨[0, 4, 6, 16, 17, 18, 28], []⟩), (10, ⟨[2, 3], []⟩), (11, ⟨[0, 16, 17, 18], []⟩), (12, ⟨[0, 7], []⟩), (13, ⟨[7, 48], []⟩), (14, ⟨[2, 3], []⟩), (15, ⟨[2, 3], []⟩)]
def h_value_out : List (Nat × RH) := [(0, ⟨[2, 3, 4], []⟩), (1, ⟨[2, 3, 4, 6], []⟩), (2, ⟨[4, 5], []⟩), (3, ⟨[2, 3, 4, 17], []⟩), (4, ⟨[4, 5], []⟩), (5, ⟨[4, 5], []⟩)]
def h_loc_Right : List (Nat × RH) := [(0, ⟨[0], []⟩), (1, ⟨[2], []⟩)]
def h_env_New : List (Nat × RH) := [(0, ⟨[0], []⟩), (1, ⟨[0, 1], []⟩), (2, ⟨[0, 1, 3], []⟩), (3, ⟨[0, 1, 3, 4], []⟩), (4, ⟨[0, 1, 2, 3], []⟩), (5, ⟨[0, 1, 3], []⟩), (6, ⟨[0, 1, 3], []⟩), (7, ⟨[0], []⟩)]
def h_path_From_1 : List (Nat × RH) := [(0, ⟨[0, 1, 2], []⟩), (1, ⟨[1, 2, 4], []⟩), (2, ⟨[1, 2, 4, 18], []⟩), (3, ⟨[3], []⟩), (4, ⟨[1, 4], []⟩), (5, ⟨[1, 4], []⟩), (6, ⟨[1, 4], []⟩), (7, ⟨[1, 4], []⟩), (8, ⟨[1, 4, 37], []⟩), (9, ⟨[], []⟩), (10, ⟨[3], []⟩)]
def h_ins_Moves : List (Nat × RH) := [(0, ⟨[1], []⟩), (1, ⟨[2], []⟩)]
def h_env_After : List (Nat × RH) := [(0, ⟨[2, 3, 4], []⟩), (1, ⟨[2, 3, 4], []⟩), (2, ⟨[2, 3, 4, 21], []⟩), (3, ⟨[4], []⟩), (4, ⟨[2, 3, 4, 24], []⟩), (5, ⟨[2, 3, 4, 24, 25], []⟩), (6, ⟨[2, 4], []⟩), (7, ⟨[2, 3, 4, 24, 34], []⟩), (8, ⟨[2, 4], []⟩), (9, ⟨[2, 3, 4, 43], []⟩), (10, ⟨[2, 4], []⟩), (11, ⟨[4], []⟩)]
def h_loc_Reg : List (Nat × RH) := [(0, ⟨[0], []⟩), (1, ⟨[2], []⟩)]
def h_ins_Sets : List (Nat × RH) := [(0, ⟨[1], []⟩), (1, ⟨[1, 16], []⟩), (2, ⟨[2, 3], []⟩), (3, ⟨[2, 3], []⟩)]
def h_joineryref09_From : List (Nat × RH) := [(0, ⟨[0, 1, 4], []⟩), (1, ⟨[0, 4, 5], []⟩), (2, ⟨[0, 4, 5, 6], []⟩), (3, ⟨[0, 4, 5, 6, 15], []⟩), (5, ⟨[0, 4, 5, 6, 7], []⟩), (6, ⟨[0, 4, 5, 6, 7, 25], []⟩), (7, ⟨[4], []⟩), (8, ⟨[0, 4, 5, 6, 7, 8], []⟩), (9, ⟨[0, 4, 5, 6, 7, 8, 32], []⟩), (10, ⟨[0, 4, 5, 6, 7, 8], []⟩), (11, ⟨[0, 4, 5, 6], []⟩), (4, ⟨[0, 4, 5, 6], []⟩), (12, ⟨[4], []⟩)]
def h_joineryref10_where : List (Nat × RH) := [(0, ⟨[0, 1], []⟩), (1, ⟨[0, 1, 5], []⟩), (2, ⟨[0, 1, 5, 9], []⟩), (4, ⟨[0, 1, 5, 17], []⟩), (5, ⟨[4], []⟩), (3, ⟨[0, 1, 5], []⟩), (6, ⟨[4], []⟩)]
def h_joineryref11_holds : List (Nat × RH) := [(0, ⟨[0, 3, 4, 5, 7, 8], []⟩), (1, ⟨[0, 3, 5, 7, 8, 13], []⟩), (2, ⟨[0, 3, 5, 7, 8, 13, 14], []⟩), (3, ⟨[0, 3, 5, 7, 8, 13, 14, 22], []⟩), (5, ⟨[0, 3, 5, 7, 8, 13, 14, 15], []⟩), (6, ⟨[0, 3, 5, 7, 8, 13, 14, 15, 35], []⟩), (7, ⟨[0, 3, 5, 7, 8, 13, 14, 48], []⟩), (8, ⟨[12], []⟩), (9, ⟨[0, 3, 5, 7, 8, 13, 14, 51], []⟩), (10, ⟨[12], []⟩), (4, ⟨[0, 3, 5, 7, 8, 13, 14], []⟩), (11, ⟨[12], []⟩)]
def h_ins_of : List (Nat × RH) := [(0, ⟨[0, 2], []⟩), (1, ⟨[0, 2, 9], []⟩), (2, ⟨[2, 3], []⟩), (3, ⟨[2, 3], []⟩)]
def h_ins_field : List (Nat × RH) := [(0, ⟨[0, 1], []⟩), (1, ⟨[0, 5], []⟩), (2, ⟨[0, 5, 6], []⟩), (3, ⟨[0, 5, 6], []⟩), (4, ⟨[4], []⟩), (5, ⟨[0, 5, 12], []⟩), (6, ⟨[0, 12], []⟩), (7, ⟨[4], []⟩), (8, ⟨[4], []⟩)]
def h_joineryref03_only : List (Nat × RH) := [(0, ⟨[1, 2], []⟩), (1, ⟨[1, 2, 3], []⟩), (2, ⟨[1, 2, 3, 14], []⟩), (3, ⟨[1, 2, 3], []⟩), (4, ⟨[1, 2, 3, 25], []⟩), (5, ⟨[1, 2, 3], []⟩), (6, ⟨[1, 2, 3, 36], []⟩), (7, ⟨[1, 2, 3], []⟩), (8, ⟨[1, 2, 3, 47], []⟩), (9, ⟨[1, 2, 3], []⟩), (10, ⟨[1, 2, 3, 63], []⟩), (11, ⟨[2, 3], []⟩), (12, ⟨[2], []⟩)]
def h_joineryref03_place : List (Nat × RH) := [(0, ⟨[0], []⟩), (1, ⟨[2], []⟩)]
def h_joineryref03_reg : List (Nat × RH) := [(0, ⟨[0], []⟩), (1, ⟨[2], []⟩)]
def h_ins_words : List (Nat × RH) := [(0, ⟨[0], []⟩), (1, ⟨[0, 3], [(0, ⟨false, (some (9, 1, false)), []⟩)]⟩), (2, ⟨[0, 3, 4], []⟩), (3, ⟨[0, 3, 4, 8], []⟩), (4, ⟨[0, 3, 4, 8, 9, 10], []⟩), (5, ⟨[0, 3, 4, 5, 6, 8], []⟩), (6, ⟨[0, 3, 4, 5, 8, 14], []⟩), (7, ⟨[0, 3, 5, 8], []⟩), (8, ⟨[0, 3, 4, 8], []⟩), (9, ⟨[2], []⟩)]
def h_ins_fill : List (Nat × RH) := [(0, ⟨[0, 1, 2], []⟩), (1, ⟨[0, 1, 2, 11], []⟩), (2, ⟨[0, 1, 2, 11, 12], []⟩), (3, ⟨[0, 1, 2, 12], []⟩), (4, ⟨[0, 1, 7, 8], []⟩), (5, ⟨[0, 7, 8, 21], []⟩), (6, ⟨[8], []⟩), (7, ⟨[8], []⟩), (8, ⟨[6], []⟩), (9, ⟨[0, 1, 9, 10], []⟩), (10, ⟨[10], []⟩), (11, ⟨[6], []⟩)]
def h_ins_Check : List (Nat × RH) := [(0, ⟨[1, 2], []⟩), (1, ⟨[1, 2, 5, 6], []⟩), (2, ⟨[1, 2, 5, 39], []⟩), (3, ⟨[4], []⟩), (4, ⟨[1, 2, 5, 7], []⟩), (5, ⟨[1, 2, 7, 42], []⟩), (6, ⟨[1, 2, 7, 42, 43, 44], []⟩), (7, ⟨[1, 2, 7, 9, 42], []⟩), (8, ⟨[1, 2, 7, 9, 42, 46], []⟩), (9, ⟨[1, 2, 7, 9, 42, 49], []⟩), (10, ⟨[1, 2, 7, 42], []⟩), (11, ⟨[1, 2, 7, 9, 42, 61], []⟩), (12, ⟨[1, 2, 7, 42, 61], []⟩), (13, ⟨[4], []⟩), (14, ⟨[82], []⟩), (15, ⟨[4], []⟩), (16, ⟨[4], []⟩)]
def h_env_good : List (Nat × RH) := [(0, ⟨[1, 2], []⟩), (1, ⟨[1, 2, 4], []⟩), (2, ⟨[2], []⟩), (3, ⟨[2], []⟩)]
def h_joineryref05_New : List (Nat × RH) := [(0, ⟨[], []⟩), (1, ⟨[1], [(0, ⟨false, (some (108, 2, false)), []⟩)]⟩), (2, ⟨[1, 2], []⟩), (3, ⟨[1, 2, 4], []⟩), (5, ⟨[1, 2], []⟩), (4, ⟨[1, 2], []⟩), (6, ⟨[0], []⟩)]
def h_joineryref05_After : List (Nat × RH) := [(0, ⟨[0, 3], []⟩), (1, ⟨[3, 5], []⟩), (2, ⟨[3, 5, 21], []⟩), (3, ⟨[4], []⟩), (4, ⟨[3, 5, 6, 7], []⟩), (5, ⟨[3, 5, 6, 7, 35], []⟩), (6, ⟨[3, 5, 6, 7], []⟩), (7, ⟨[3, 5, 6, 7, 50], []⟩), (8, ⟨[3, 5, 6], []⟩), (9, ⟨[3, 5, 6, 58], []⟩), (10, ⟨[5], []⟩), (11, ⟨[4], []⟩)]
def h_num_Parse : List (Nat × RH) := [(0, ⟨[0], []⟩), (1, ⟨[0, 4, 5], []⟩), (2, ⟨[0, 4, 5, 18], []⟩), (3, ⟨[4, 5], []⟩), (4, ⟨[4, 5, 41], []⟩), (5, ⟨[2, 3], []⟩), (6, ⟨[4, 5, 6], []⟩), (7, ⟨[5, 6, 43], []⟩), (8, ⟨[5, 6, 43, 44, 45], []⟩), (9, ⟨[5, 6, 8, 43], []⟩), (10, ⟨[5, 6, 8, 43, 52], []⟩), (11, ⟨[2, 3], []⟩), (12, ⟨[5, 6, 43], []⟩), (13, ⟨[5, 6, 9], []⟩), (14, ⟨[6, 9, 59], []⟩), (15, ⟨[6, 9], []⟩), (16, ⟨[6, 9], []⟩), (17, ⟨[6, 68], []⟩), (18, ⟨[2, 3], []⟩), (19, ⟨[2, 3], []⟩), (20, ⟨[6, 73], []⟩), (21, ⟨[2, 3], []⟩), (22, ⟨[2, 3], []⟩)]
def h_loc_Parse : List (Nat × RH) := [(0, ⟨[0], []⟩), (1, ⟨[0, 4, 5, 6], []⟩), (2, ⟨[0, 4, 5, 6, 10], []⟩), (3, ⟨[0, 4, 5, 6, 10, 11, 12], []⟩), (4, ⟨[0, 4, 5, 6, 7, 8, 10], []⟩), (6, ⟨[0, 4, 5, 6, 7, 8, 10, 21], []⟩), (7, ⟨[0, 4, 5, 6, 10], []⟩), (8, ⟨[0, 4, 5, 6, 7, 8, 10, 28], []⟩), (9, ⟨[0, 4, 5, 6, 10], []⟩), (10, ⟨[0, 4, 5, 6, 8, 10, 35], []⟩), (11, ⟨[2, 3], []⟩), (5, ⟨[0, 4, 5, 6, 10], []⟩), (12, ⟨[4, 5, 65], []⟩), (13, ⟨[2, 3], []⟩), (14, ⟨[2, 3], []⟩)]
def h_ins_rest : List (Nat × RH) := [(0, ⟨[2, 3, 4], []⟩), (1, ⟨[2, 3, 4], []⟩), (2, ⟨[2, 4, 10], []⟩), (3, ⟨[2, 4, 10, 11, 12], []⟩), (4, ⟨[2, 4, 6, 10], []⟩), (5, ⟨[2, 4, 6, 10, 14], []⟩), (7, ⟨[2, 4, 6, 10, 14, 18], []⟩), (8, ⟨[2, 4, 10], []⟩), (9, ⟨[2, 4, 6, 10, 21], []⟩), (10, ⟨[2, 4, 10], []⟩), (6, ⟨[2, 4, 10], []⟩), (11, ⟨[4], []⟩)]
def h_env_Good : List (Nat × RH) := [(0, ⟨[1], []⟩), (1, ⟨[5, 6], []⟩), (2, ⟨[5, 6, 7], []⟩), (3, ⟨[4, 5, 6], []⟩), (4, ⟨[5, 6, 11], []⟩), (5, ⟨[2], []⟩), (6, ⟨[5, 6], []⟩), (7, ⟨[2], []⟩)]
def h_joineryref05_good : List (Nat × RH) := [(0, ⟨[0], []⟩), (1, ⟨[0, 4], []⟩), (2, ⟨[2], []⟩), (3, ⟨[2], []⟩)]
def h_joineryref05_place : List (Nat × RH) := [(0, ⟨[0], []⟩), (1, ⟨[2], []⟩)]
def h_env_may : List (Nat × RH) := [(0, ⟨[0], []⟩), (1, ⟨[0, 3, 4], []⟩), (2, ⟨[0, 3, 12], []⟩), (3, ⟨[2], []⟩), (4, ⟨[6], []⟩), (5, ⟨[2], []⟩)]
def h_joineryref05_Good : List (Nat × RH) := [(0, ⟨[0], []⟩), (1, ⟨[0, 3], []⟩), (2, ⟨[0, 3, 7], []⟩), (4, ⟨[0, 3, 39], []⟩), (5, ⟨[2], []⟩), (3, ⟨[0, 3], []⟩), (6, ⟨[2], []⟩)]
theorem k_joinerylaw11_ValueAll : compF E0 true h_joinerylaw11_ValueAll Tryd.f3 = some c_joinerylaw11_ValueAll := by kernel_rfl
theorem n_ok_joinerylaw11_ValueAll : (Tryd.f3.name == "runtime.NumGoroutine") = false := by kernel_rfl
theorem k_joinerylaw11_ValueFacts : compF E0 true h_joinerylaw11_ValueFacts Tryd.f4 = some c_joinerylaw11_ValueFacts := by kernel_rfl
theorem n_ok_joinerylaw11_ValueFacts : (Tryd.f4.name == "runtime.NumGoroutine") = false := by kernel_rfl
theorem k_joinerylaw11_ValueCuts : compF E0 true h_joinerylaw11_ValueCuts Tryd.f5 = some c_joinerylaw11_ValueCuts := by kernel_rfl
theorem n_ok_joinerylaw11_ValueCuts : (Tryd.f5.name == "runtime.NumGoroutine") = false := by kernel_rfl
theorem k_joinerylaw11_ValueKinds : compF E0 true h_joinerylaw11_ValueKinds Tryd.f6 = some c_joinerylaw11_ValueKinds := by kernel_rfl
theorem n_ok_joinerylaw11_ValueKinds : (Tryd.f6.name == "runtime.NumGoroutine") = false := by kernel_rfl
theorem k_joinerylaw11_ValueNone : compF E0 true h_joinerylaw11_ValueNone Tryd.f7 = some c_joinerylaw11_ValueNone := by kernel_rfl
theorem n_ok_joinerylaw11_ValueNone : (Tryd.f7.name == "runtime.NumGoroutine") = false := by kernel_rfl
theorem k_joineryref04_Right : compF E0 true h_joineryref04_Right Tryd.f9 = some c_joineryref04_Right := by kernel_rfl
theorem n_ok_joineryref04_Right : (Tryd.f9.name == "runtime.NumGoroutine") = false := by kernel_rfl
theorem k_joinerylaw11_knows : compF E0 true h_joinerylaw11_knows Tryd.f10 = some c_joinerylaw11_knows := by kernel_rfl
theorem n_ok_joinerylaw11_knows : (Tryd.f10.name == "runtime.NumGoroutine") = false := by kernel_rfl
theorem k_skel_Build : compF E0 true h_skel_Build Tryd.f11 = some c_skel_Build := by kernel_rfl
theorem n_ok_skel_Build : (Tryd.f11.name == "runtime.NumGoroutine") = false := by kernel_rfl
theorem k_value_All : compF E0 true h_value_All Tryd.f12 = some c_value_All := by kernel_rfl
theorem n_ok_value_All : (Tryd.f12.name == "runtime.NumGoroutine") = false := by kernel_rfl
theorem k_joineryref10_Build : compF E0 true h_joineryref10_Build Tryd.f13 = some c_joineryref10_Build := by kernel_rfl
theorem n_ok_joineryref10_Build : (Tryd.f13.name == "runtime.NumGoroutine") = false := by kernel_rfl
theorem k_joineryref10_To : compF E0 true h_joineryref10_To Tryd.f14 = some c_joineryref10_To := by kernel_rfl
theorem n_ok_joineryref10_To : (Tryd.f14.name == "runtime.NumGoroutine") = false := by kernel_rfl
theorem k_joineryref11_By : compF E0 true h_joineryref11_By Tryd.f15 = some c_joineryref11_By := by kernel_rfl
theorem n_ok_joineryref11_By : (Tryd.f15.name == "runtime.NumGoroutine") = false := by kernel_rfl
theorem k_joineryref11_SameFacts : compF E0 true h_joineryref11_SameFacts Tryd.f16 = some c_joineryref11_SameFacts := by kernel_rfl
theorem n_ok_joineryref11_SameFacts : (Tryd.f16.name == "runtime.NumGoroutine") = false := by kernel_rfl
theorem k_value_Facts : compF E0 true h_value_Facts Tryd.f17 = some c_value_Facts := by kernel_rfl
theorem n_ok_value_Facts : (Tryd.f17.name == "runtime.NumGoroutine") = false := by kernel_rfl
theorem k_joineryref11_Facts : compF E0 true h_joineryref11_Facts Tryd.f18 = some c_joineryref11_Facts := by kernel_rfl
theorem n_ok_joineryref11_Facts : (Tryd.f18.name == "runtime.NumGoroutine") = false := by kernel_rfl
theorem k_value_Cut : compF E0 true h_value_Cut Tryd.f19 = some c_value_Cut := by kernel_rfl
theorem n_ok_value_Cut : (Tryd.f19.name == "runtime.NumGoroutine") = false := by kernel_rfl
theorem k_joineryref11_Cut : compF E0 true h_joineryref11_Cut Tryd.f20 = some c_joineryref11_Cut := by kernel_rfl
theorem n_ok_joineryref11_Cut : (Tryd.f20.name == "runtime.NumGoroutine") = false := by kernel_rfl
theorem k_skel_Ways : compF E0 true h_skel_Ways Tryd.f21 = some c_skel_Ways := by kernel_rfl
theorem n_ok_skel_Ways : (Tryd.f21.name == "runtime.NumGoroutine") = false := by kernel_rfl
theorem k_joineryref03_Moves : compF E0 true h_joineryref03_Moves Tryd.f24 = some c_joineryref03_Moves := by kernel_rfl
theorem n_ok_joineryref03_Moves : (Tryd.f24.name == "runtime.NumGoroutine") = false := by kernel_rfl
theorem k_joineryref04_Check : compF E0 true h_joineryref04_Check Tryd.f26 = some c_joineryref04_Check := by kernel_rfl
theorem n_ok_joineryref04_Check : (Tryd.f26.name == "runtime.NumGoroutine") = false := by kernel_rfl
theorem k_asm_Parse : compF E0 true h_asm_Parse Tryd.f27 = some c_asm_Parse := by kernel_rfl
theorem n_ok_asm_Parse : (Tryd.f27.name == "runtime.NumGoroutine") = false := by kernel_rfl
theorem k_value_By : compF E0 true h_value_By Tryd.f28 = some c_value_By := by kernel_rfl
theorem n_ok_value_By : (Tryd.f28.name == "runtime.NumGoroutine") = false := by kernel_rfl
theorem k_asm_Right : compF E0 true h_asm_Right Tryd.f29 = some c_asm_Right := by kernel_rfl
theorem n_ok_asm_Right : (Tryd.f29.name == "runtime.NumGoroutine") = false := by kernel_rfl
theorem k_skel_Build_1 : compF E0 false h_skel_Build_1 Tryd.f30 = some c_skel_Build_1 := by kernel_rfl
theorem n_ok_skel_Build_1 : (Tryd.f30.name == "runtime.NumGoroutine") = false := by kernel_rfl
theorem k_path_From : compF E0 true h_path_From Tryd.f31 = some c_path_From := by kernel_rfl
theorem n_ok_path_From : (Tryd.f31.name == "runtime.NumGoroutine") = false := by kernel_rfl
theorem k_skel_nexts : compF E0 true h_skel_nexts Tryd.f32 = some c_skel_nexts := by kernel_rfl
theorem n_ok_skel_nexts : (Tryd.f32.name == "runtime.NumGoroutine") = false := by kernel_rfl
theorem k_value_built : compF E0 true h_value_built Tryd.f33 = some c_value_built := by kernel_rfl
theorem n_ok_value_built : (Tryd.f33.name == "runtime.NumGoroutine") = false := by kernel_rfl
theorem k_value_by : compF E0 true h_value_by Tryd.f34 = some c_value_by := by kernel_rfl
theorem n_ok_value_by : (Tryd.f34.name == "runtime.NumGoroutine") = false := by kernel_rfl
theorem k_joineryref10_Places : compF E0 true h_joineryref10_Places Tryd.f35 = some c_joineryref10_Places := by kernel_rfl
theorem n_ok_joineryref10_Places : (Tryd.f35.name == "runtime.NumGoroutine") = false := by kernel_rfl
theorem k_joineryref10_way : compF E0 true h_joineryref10_way Tryd.f36 = some c_joineryref10_way := by kernel_rfl
theorem n_ok_joineryref10_way : (Tryd.f36.name == "runtime.NumGoroutine") = false := by kernel_rfl
theorem k_joineryref10_froms : compF E0 true h_joineryref10_froms Tryd.f37 = some c_joineryref10_froms := by kernel_rfl
theorem n_ok_joineryref10_froms : (Tryd.f37.name == "runtime.NumGoroutine") = false := by kernel_rfl
theorem k_joineryref03_Sets : compF E0 true h_joineryref03_Sets Tryd.f38 = some c_joineryref03_Sets := by kernel_rfl
theorem n_ok_joineryref03_Sets : (Tryd.f38.name == "runtime.NumGoroutine") = false := by kernel_rfl
theorem k_value_Facts_1 : compF E0 false h_value_Facts_1 Tryd.f39 = some c_value_Facts_1 := by kernel_rfl
theorem n_ok_value_Facts_1 : (Tryd.f39.name == "runtime.NumGoroutine") = false := by kernel_rfl
theorem k_joineryref11_Numbers : compF E0 true h_joineryref11_Numbers Tryd.f40 = some c_joineryref11_Numbers := by kernel_rfl
theorem n_ok_joineryref11_Numbers : (Tryd.f40.name == "runtime.NumGoroutine") = false := by kernel_rfl
theorem k_joineryref11_Said : compF E0 true h_joineryref11_Said Tryd.f41 = some c_joineryref11_Said := by kernel_rfl
theorem n_ok_joineryref11_Said : (Tryd.f41.name == "runtime.NumGoroutine") = false := by kernel_rfl
theorem k_ins_Uses : compF E0 true h_ins_Uses Tryd.f42 = some c_ins_Uses := by kernel_rfl
theorem n_ok_ins_Uses : (Tryd.f42.name == "runtime.NumGoroutine") = false := by kernel_rfl
theorem k_joineryref03_Uses : compF E0 true h_joineryref03_Uses Tryd.f43 = some c_joineryref03_Uses := by kernel_rfl
theorem n_ok_joineryref03_Uses : (Tryd.f43.name == "runtime.NumGoroutine") = false := by kernel_rfl
theorem k_skel_Ways_1 : compF E0 false h_skel_Ways_1 Tryd.f44 = some c_skel_Ways_1 := by kernel_rfl
theorem n_ok_skel_Ways_1 : (Tryd.f44.name == "runtime.NumGoroutine") = false := by kernel_rfl
theorem k_joineryref03_Check : compF E0 true h_joineryref03_Check Tryd.f49 = some c_joineryref03_Check := by kernel_rfl
theorem n_ok_joineryref03_Check : (Tryd.f49.name == "runtime.NumGoroutine") = false := by kernel_rfl
theorem k_asm_Parse_1 : compF E0 false h_asm_Parse_1 Tryd.f50 = some c_asm_Parse_1 := by kernel_rfl
theorem n_ok_asm_Parse_1 : (Tryd.f50.name == "runtime.NumGoroutine") = false := by kernel_rfl
theorem k_ins_Parse : compF E0 true h_ins_Parse Tryd.f51 = some c_ins_Parse := by kernel_rfl
theorem n_ok_ins_Parse : (Tryd.f51.name == "runtime.NumGoroutine") = false := by kernel_rfl
theorem k_asm_Check : compF E0 true h_asm_Check Tryd.f52 = some c_asm_Check := by kernel_rfl
theorem n_ok_asm_Check : (Tryd.f52.name == "runtime.NumGoroutine") = false := by kernel_rfl
theorem k_value_out : compF E0 true h_value_out Tryd.f53 = some c_value_out := by kernel_rfl
theorem n_ok_value_out : (Tryd.f53.name == "runtime.NumGoroutine") = false := by kernel_rfl
theorem k_loc_Right : compF E0 true h_loc_Right Tryd.f54 = some c_loc_Right := by kernel_rfl
theorem n_ok_loc_Right : (Tryd.f54.name == "runtime.NumGoroutine") = false := by kernel_rfl
theorem k_env_New : compF E0 true h_env_New Tryd.f55 = some c_env_New := by kernel_rfl
theorem n_ok_env_New : (Tryd.f55.name == "runtime.NumGoroutine") = false := by kernel_rfl
theorem k_path_From_1 : compF E0 false h_path_From_1 Tryd.f56 = some c_path_From_1 := by kernel_rfl
theorem n_ok_path_From_1 : (Tryd.f56.name == "runtime.NumGoroutine") = false := by kernel_rfl
theorem k_ins_Moves : compF E0 true h_ins_Moves Tryd.f57 = some c_ins_Moves := by kernel_rfl
theorem n_ok_ins_Moves : (Tryd.f57.name == "runtime.NumGoroutine") = false := by kernel_rfl
theorem k_env_After : compF E0 true h_env_After Tryd.f58 = some c_env_After := by kernel_rfl
theorem n_ok_env_After : (Tryd.f58.name == "runtime.NumGoroutine") = false := by kernel_rfl
theorem k_loc_Reg : compF E0 true h_loc_Reg Tryd.f59 = some c_loc_Reg := by kernel_rfl
theorem n_ok_loc_Reg : (Tryd.f59.name == "runtime.NumGoroutine") = false := by kernel_rfl
theorem k_ins_Sets : compF E0 true h_ins_Sets Tryd.f60 = some c_ins_Sets := by kernel_rfl
theorem n_ok_ins_Sets : (Tryd.f60.name == "runtime.NumGoroutine") = false := by kernel_rfl
theorem k_joineryref09_From : compF E0 true h_joineryref09_From Tryd.f61 = some c_joineryref09_From := by kernel_rfl
theorem n_ok_joineryref09_From : (Tryd.f61.name == "runtime.NumGoroutine") = false := by kernel_rfl
theorem k_joineryref10_where : compF E0 true h_joineryref10_where Tryd.f62 = some c_joineryref10_where := by kernel_rfl
theorem n_ok_joineryref10_where : (Tryd.f62.name == "runtime.NumGoroutine") = false := by kernel_rfl
theorem k_joineryref11_holds : compF E0 true h_joineryref11_holds Tryd.f63 = some c_joineryref11_holds := by kernel_rfl
theorem n_ok_joineryref11_holds : (Tryd.f63.name == "runtime.NumGoroutine") = false := by kernel_rfl
theorem k_ins_of : compF E0 true h_ins_of Tryd.f64 = some c_ins_of := by kernel_rfl
theorem n_ok_ins_of : (Tryd.f64.name == "runtime.NumGoroutine") = false := by kernel_rfl
theorem k_ins_field : compF E0 false h_ins_field Tryd.f65 = some c_ins_field := by kernel_rfl
theorem n_ok_ins_field : (Tryd.f65.name == "runtime.NumGoroutine") = false := by kernel_rfl
theorem k_joineryref03_only : compF E0 true h_joineryref03_only Tryd.f74 = some c_joineryref03_only := by kernel_rfl
theorem n_ok_joineryref03_only : (Tryd.f74.name == "runtime.NumGoroutine") = false := by kernel_rfl
theorem k_joineryref03_place : compF E0 true h_joineryref03_place Tryd.f75 = some c_joineryref03_place := by kernel_rfl
theorem n_ok_joineryref03_place : (Tryd.f75.name == "runtime.NumGoroutine") = false := by kernel_rfl
theorem k_joineryref03_reg : compF E0 true h_joineryref03_reg Tryd.f76 = some c_joineryref03_reg := by kernel_rfl
theorem n_ok_joineryref03_reg : (Tryd.f76.name == "runtime.NumGoroutine") = false := by kernel_rfl
theorem k_ins_words : compF E0 true h_ins_words Tryd.f77 = some c_ins_words := by kernel_rfl
theorem n_ok_ins_words : (Tryd.f77.name == "runtime.NumGoroutine") = false := by kernel_rfl
theorem k_ins_fill : compF E0 false h_ins_fill Tryd.f78 = some c_ins_fill := by kernel_rfl
theorem n_ok_ins_fill : (Tryd.f78.name == "runtime.NumGoroutine") = false := by kernel_rfl
theorem k_ins_Check : compF E0 true h_ins_Check Tryd.f79 = some c_ins_Check := by kernel_rfl
theorem n_ok_ins_Check : (Tryd.f79.name == "runtime.NumGoroutine") = false := by kernel_rfl
theorem k_env_good : compF E0 true h_env_good Tryd.f80 = some c_env_good := by kernel_rfl
theorem n_ok_env_good : (Tryd.f80.name == "runtime.NumGoroutine") = false := by kernel_rfl
theorem k_joineryref05_New : compF E0 true h_joineryref05_New Tryd.f81 = some c_joineryref05_New := by kernel_rfl
theorem n_ok_joineryref05_New : (Tryd.f81.name == "runtime.NumGoroutine") = false := by kernel_rfl
theorem k_joineryref05_After : compF E0 true h_joineryref05_After Tryd.f82 = some c_joineryref05_After := by kernel_rfl
theorem n_ok_joineryref05_After : (Tryd.f82.name == "runtime.NumGoroutine") = false := by kernel_rfl
theorem k_num_Parse : compF E0 true h_num_Parse Tryd.f85 = some c_num_Parse := by kernel_rfl
theorem n_ok_num_Parse : (Tryd.f85.name == "runtime.NumGoroutine") = false := by kernel_rfl
theorem k_loc_Parse : compF E0 true h_loc_Parse Tryd.f86 = some c_loc_Parse := by kernel_rfl
theorem n_ok_loc_Parse : (Tryd.f86.name == "runtime.NumGoroutine") = false := by kernel_rfl
theorem k_ins_rest : compF E0 true h_ins_rest Tryd.f87 = some c_ins_rest := by kernel_rfl
theorem n_ok_ins_rest : (Tryd.f87.name == "runtime.NumGoroutine") = false := by kernel_rfl
theorem k_env_Good : compF E0 true h_env_Good Tryd.f88 = some c_env_Good := by kernel_rfl
theorem n_ok_env_Good : (Tryd.f88.name == "runtime.NumGoroutine") = false := by kernel_rfl
theorem k_joineryref05_good : compF E0 true h_joineryref05_good Tryd.f89 = some c_joineryref05_good := by kernel_rfl
theorem n_ok_joineryref05_good : (Tryd.f89.name == "runtime.NumGoroutine") = false := by kernel_rfl
theorem k_joineryref05_place : compF E0 true h_joineryref05_place Tryd.f90 = some c_joineryref05_place := by kernel_rfl
theorem n_ok_joineryref05_place : (Tryd.f90.name == "runtime.NumGoroutine") = false := by kernel_rfl
theorem k_env_may : compF E0 true h_env_may Tryd.f101 = some c_env_may := by kernel_rfl
theorem n_ok_env_may : (Tryd.f101.name == "runtime.NumGoroutine") = false := by kernel_rfl
theorem k_joineryref05_Good : compF E0 true h_joineryref05_Good Tryd.f102 = some c_joineryref05_Good := by kernel_rfl
theorem n_ok_joineryref05_Good : (Tryd.f102.name == "runtime.NumGoroutine") = false := by kernel_rfl
theorem tabOK : TabOK E0 T := by
  intro f fn h
  unfold T at h
  split at h
  · cases h; exact ⟨_, _, Tryd.func3, k_joinerylaw11_ValueAll, n_ok_joinerylaw11_ValueAll⟩
  · cases h; exact ⟨_, _, Tryd.func4, k_joinerylaw11_ValueFacts, n_ok_joinerylaw11_ValueFacts⟩
  · cases h; exact ⟨_, _, Tryd.func5, k_joinerylaw11_ValueCuts, n_ok_joinerylaw11_ValueCuts⟩
  · cases h; exact ⟨_, _, Tryd.func6, k_joinerylaw11_ValueKinds, n_ok_joinerylaw11_ValueKinds⟩
  · cases h; exact ⟨_, _, Tryd.func7, k_joinerylaw11_ValueNone, n_ok_joinerylaw11_ValueNone⟩
  · cases h; exact ⟨_, _, Tryd.func9, k_joineryref04_Right, n_ok_joineryref04_Right⟩
  · cases h; exact ⟨_, _, Tryd.func10, k_joinerylaw11_knows, n_ok_joinerylaw11_knows⟩
  · cases h; exact ⟨_, _, Tryd.func11, k_skel_Build, n_ok_skel_Build⟩
  · cases h; exact ⟨_, _, Tryd.func12, k_value_All, n_ok_value_All⟩
  · cases h; exact ⟨_, _, Tryd.func13, k_joineryref10_Build, n_ok_joineryref10_Build⟩
  · cases h; exact ⟨_, _, Tryd.func14, k_joineryref10_To, n_ok_joineryref10_To⟩
  · cases h; exact ⟨_, _, Tryd.func15, k_joineryref11_By, n_ok_joineryref11_By⟩
  · cases h; exact ⟨_, _, Tryd.func16, k_joineryref11_SameFacts, n_ok_joineryref11_SameFacts⟩
  · cases h; exact ⟨_, _, Tryd.func17, k_value_Facts, n_ok_value_Facts⟩
  · cases h; exact ⟨_, _, Tryd.func18, k_joineryref11_Facts, n_ok_joineryref11_Facts⟩
  · cases h; exact ⟨_, _, Tryd.func19, k_value_Cut, n_ok_value_Cut⟩
  · cases h; exact ⟨_, _, Tryd.func20, k_joineryref11_Cut, n_ok_joineryref11_Cut⟩
  · cases h; exact ⟨_, _, Tryd.func21, k_skel_Ways, n_ok_skel_Ways⟩
  · cases h; exact ⟨_, _, Tryd.func24, k_joineryref03_Moves, n_ok_joineryref03_Moves⟩
  · cases h; exact ⟨_, _, Tryd.func26, k_joineryref04_Check, n_ok_joineryref04_Check⟩
  · cases h; exact ⟨_, _, Tryd.func27, k_asm_Parse, n_ok_asm_Parse⟩
  · cases h; exact ⟨_, _, Tryd.func28, k_value_By, n_ok_value_By⟩
  · cases h; exact ⟨_, _, Tryd.func29, k_asm_Right, n_ok_asm_Right⟩
  · cases h; exact ⟨_, _, Tryd.func30, k_skel_Build_1, n_ok_skel_Build_1⟩
  · cases h; exact ⟨_, _, Tryd.func31, k_path_From, n_ok_path_From⟩
  · cases h; exact ⟨_, _, Tryd.func32, k_skel_nexts, n_ok_skel_nexts⟩
  · cases h; exact ⟨_, _, Tryd.func33, k_value_built, n_ok_value_built⟩
  · cases h; exact ⟨_, _, Tryd.func34, k_value_by, n_ok_value_by⟩
  · cases h; exact ⟨_, _, Tryd.func35, k_joineryref10_Places, n_ok_joineryref10_Places⟩
  · cases h; exact ⟨_, _, Tryd.func36, k_joineryref10_way, n_ok_joineryref10_way⟩
  · cases h; exact ⟨_, _, Tryd.func37, k_joineryref10_froms, n_ok_joineryref10_froms⟩
  · cases h; exact ⟨_, _, Tryd.func38, k_joineryref03_Sets, n_ok_joineryref03_Sets⟩
  · cases h; exact ⟨_, _, Tryd.func39, k_value_Facts_1, n_ok_value_Facts_1⟩
  · cases h; exact ⟨_, _, Tryd.func40, k_joineryref11_Numbers, n_ok_joineryref11_Numbers⟩
  · cases h; exact ⟨_, _, Tryd.func41, k_joineryref11_Said, n_ok_joineryref11_Said⟩
  · cases h; exact ⟨_, _, Tryd.func42, k_ins_Uses, n_ok_ins_Uses⟩
  · cases h; exact ⟨_, _, Tryd.func43, k_joineryref03_Uses, n_ok_joineryref03_Uses⟩
  · cases h; exact ⟨_, _, Tryd.func44, k_skel_Ways_1, n_ok_skel_Ways_1⟩
  · cases h; exact ⟨_, _, Tryd.func49, k_joineryref03_Check, n_ok_joineryref03_Check⟩
  · cases h; exact ⟨_, _, Tryd.func50, k_asm_Parse_1, n_ok_asm_Parse_1⟩
  · cases h; exact ⟨_, _, Tryd.func51, k_ins_Parse, n_ok_ins_Parse⟩
  · cases h; exact ⟨_, _, Tryd.func52, k_asm_Check, n_ok_asm_Check⟩
  · cases h; exact ⟨_, _, Tryd.func53, k_value_out, n_ok_value_out⟩
  · cases h; exact ⟨_, _, Tryd.func54, k_loc_Right, n_ok_loc_Right⟩
  · cases h; exact ⟨_, _, Tryd.func55, k_env_New, n_ok_env_New⟩
  · cases h; exact ⟨_, _, Tryd.func56, k_path_From_1, n_ok_path_From_1⟩
  · cases h; exact ⟨_, _, Tryd.func57, k_ins_Moves, n_ok_ins_Moves⟩
  · cases h; exact ⟨_, _, Tryd.func58, k_env_After, n_ok_env_After⟩
  · cases h; exact ⟨_, _, Tryd.func59, k_loc_Reg, n_ok_loc_Reg⟩
  · cases h; exact ⟨_, _, Tryd.func60, k_ins_Sets, n_ok_ins_Sets⟩
  · cases h; exact ⟨_, _, Tryd.func61, k_joineryref09_From, n_ok_joineryref09_From⟩
  · cases h; exact ⟨_, _, Tryd.func62, k_joineryref10_where, n_ok_joineryref10_where⟩
  · cases h; exact ⟨_, _, Tryd.func63, k_joineryref11_holds, n_ok_joineryref11_holds⟩
  · cases h; exact ⟨_, _, Tryd.func64, k_ins_of, n_ok_ins_of⟩
  · cases h; exact ⟨_, _, Tryd.func65, k_ins_field, n_ok_ins_field⟩
  · cases h; exact ⟨_, _, Tryd.func74, k_joineryref03_only, n_ok_joineryref03_only⟩
  · cases h; exact ⟨_, _, Tryd.func75, k_joineryref03_place, n_ok_joineryref03_place⟩
  · cases h; exact ⟨_, _, Tryd.func76, k_joineryref03_reg, n_ok_joineryref03_reg⟩
  · cases h; exact ⟨_, _, Tryd.func77, k_ins_words, n_ok_ins_words⟩
  · cases h; exact ⟨_, _, Tryd.func78, k_ins_fill, n_ok_ins_fill⟩
  · cases h; exact ⟨_, _, Tryd.func79, k_ins_Check, n_ok_ins_Check⟩
  · cases h; exact ⟨_, _, Tryd.func80, k_env_good, n_ok_env_good⟩
  · cases h; exact ⟨_, _, Tryd.func81, k_joineryref05_New, n_ok_joineryref05_New⟩
  · cases h; exact ⟨_, _, Tryd.func82, k_joineryref05_After, n_ok_joineryref05_After⟩
  · cases h; exact ⟨_, _, Tryd.func85, k_num_Parse, n_ok_num_Parse⟩
  · cases h; exact ⟨_, _, Tryd.func86, k_loc_Parse, n_ok_loc_Parse⟩
  · cases h; exact ⟨_, _, Tryd.func87, k_ins_rest, n_ok_ins_rest⟩
  · cases h; exact ⟨_, _, Tryd.func88, k_env_Good, n_ok_env_Good⟩
  · cases h; exact ⟨_, _, Tryd.func89, k_joineryref05_good, n_ok_joineryref05_good⟩
  · cases h; exact ⟨_, _, Tryd.func90, k_joineryref05_place, n_ok_joineryref05_place⟩
  · cases h; exact ⟨_, _, Tryd.func101, k_env_may, n_ok_env_may⟩
  · cases h; exact ⟨_, _, Tryd.func102, k_joineryref05_Good, n_ok_joineryref05_Good⟩
  · cases h
end Go.Proofs.YtcehbpimdngjfaaDoor.M2
namespace Go.Proofs.YtcehbpimdngjfaaDoor.M2
open Go Go.ChangeShapes Go.WideShapes Go.ChangeAt Go.RowKit
theorem own0 : ownKnob Tryd.prog.godebug = none := by kernel_rfl
theorem laidOut0 : laidOutB Tryd.prog = true := by kernel_rfl
theorem gShapes : Tryd.prog.globalNamed "joinery/ins.shapes" = some 1 := by kernel_rfl
theorem gOpen : Tryd.prog.globalNamed "joinery/value.open" = some 0 := by kernel_rfl
abbrev laid1 {H : Type} : List (String × DataW H) := [("joinery/ins.shapes", Rows.laid_joinery_ins_shapes), ("joinery/value.open", Rows.laid_joinery_value_open)]
theorem door_met (os : Go.Os) (args : Array Value) : laidMetH Tryd.prog laid1 ((World.doorLaid Tryd.prog 400 os).forCall (fun _ _ => 0) ⟨#[], args, []⟩).memory :=
  laidMetH_of_parts3 (fuel := 8) (laidMet_of_run' 8 (by kernel_rfl) (by kernel_rfl)) (by kernel_rfl) (by kernel_rfl)
theorem tShapes : (Tryd.prog.globals[1]?).map (·.type) = some 163 := by kernel_rfl
theorem tOpen : (Tryd.prog.globals[0]?).map (·.type) = some 52 := by kernel_rfl
theorem glob_laid {W : World} (h : laidMetH Tryd.prog laid1 W) : GlobOK E0 (g0 W) := by
  rw [MakeChecks.laidMetH_plain _ _ _ (by kernel_rfl)] at h
  obtain ⟨ps, hL, _⟩ := h
  intro n us hn
  simp only [E0] at hn
  by_cases h0 : n = 0
  · subst h0
    have : us = gl_0 := by simpa [List.lookup] using hn.symm
    subst this
    exact laid_var (E := E0) laid1 ps hL "joinery/value.open" _ (List.mem_cons_of_mem _ (List.mem_cons_self ..)) 0 52 _ _ gOpen tOpen (by kernel_rfl) (by kernel_rfl)
  · by_cases h1 : n = 1
    · subst h1
      have : us = gl_1 := by simpa [List.lookup] using hn.symm
      subst this
      exact laid_var (E := E0) laid1 ps hL "joinery/ins.shapes" _ (List.mem_cons_self ..) 1 163 _ _ gShapes tShapes (by kernel_rfl) (by kernel_rfl)
    · have b0 : (n == 0) = false := by simpa using h0
      have b1 : (n == 1) = false := by simpa using h1
      simp only [List.lookup, b0, b1] at hn
      cases hn
def Law (f : Nat) (ts : List TypeId) : Prop := ∀ us, us.length = ts.length → (∀ (j : Nat) t u, ts[j]? = some t → us[j]? = some u → TypedA Tryd.prog 8 t u) → ∃ n, M2.call T n f us [] = some (.bool true, [])
set_option maxRecDepth 100000 in
theorem lifted {f : Nat} {fn : Func} {s : ChangeSpec} {tb : TypeId} (law : Law f fn.params.toList) (os : Go.Os) (started : os.Started) {H : Type} (enc : TypeId × Value → H)
    (hinit : Tryd.prog.inits.idxOf? f = none) (hfn : Tryd.prog.funcs[f]? = some fn) (hvars : s.vars = []) (hps : fn.params.toList.all (fun t => paramT Tryd.prog 8 t && Tryd.prog.readableRec t && decide (t < Tryd.prog.types.size)) = true)
    (hr : fn.resultTypes = #[tb]) (htb : Tryd.prog.underlying tb = some .bool) (hs : ∀ ds : List (DataW H), ds.length = fn.params.toList.length → s.fn H ds = { results := [.lit (.bool true)], args := ds })
    (witness : ∃ (w : World) (tape : Tape) (i : Input), w.os = os ∧ (w.forCall tape i).Shaped Tryd.checked.prog ∧ i.vars = [] ∧ Input.okWide Tryd.checked.prog (w.forCall tape i) .any w.heap.size f i ∧
      ((s.pre enc Tryd.checked.prog fn [] false (w.forCall tape i).memory i.args ∧ laidMetH Tryd.prog laid1 (w.forCall tape i).memory) ∧ sizedMet enc Tryd.checked.prog fn (OpenSpec.ofChange s) false (w.forCall tape i).memory i.args) ∧ ({} : Assume).holds Tryd.checked.prog (lone (Frame.enter Tryd.checked.prog f i.args .normal) [] (w.forCall tape i))) :
    ReturnsInHanded {} Tryd.checked os f .any (fun w args => (s.pre enc Tryd.prog fn [] false w args ∧ laidMetH Tryd.prog laid1 w) ∧ sizedMet enc Tryd.prog fn (OpenSpec.ofChange s) false w args) (s.post enc Tryd.prog fn false true false false) := by
  refine returnsInHanded_of_change_and (C := Tryd.checked) (X := fun w _ => laidMetH Tryd.prog laid1 w) (fun _ _ _ hh h => h.of_heap hh) own0 started hinit hfn witness ?_
  intro W base args ds gs before hval hW _ _ hL _
  have hps' : ∀ t ∈ fn.params.toList, (paramT Tryd.prog 8 t = true ∧ Tryd.prog.readableRec t = true) ∧ t < Tryd.prog.types.size := by
    intro t ht
    have := List.all_eq_true.1 hps t ht
    simpa using this
  have hW' := hW
  obtain ⟨p, q, hA, hV, rfl, _, _⟩ := hW
  rw [hvars] at hV
  obtain ⟨rfl, rfl⟩ := trodVars_none hV
  have hlen : ∀ (ts : List TypeId) (vs : List Value) (ds : List (DataW H)) (ps : List MemPlace), DataW.TrodAll enc Tryd.prog W 0 (fun _ => true) true ts vs ds ps → ds.length = ts.length := by
    intro ts
    induction ts with
    | nil => intro vs ds ps h; cases vs <;> cases ds <;> first | rfl | exact h.elim
    | cons t ts ih =>
      intro vs ds ps h
      cases vs with
      | nil => exact h.elim
      | cons v vs => cases ds with
        | nil => exact h.elim
        | cons d ds => obtain ⟨_, _, _, h2, _⟩ := h; simp [ih _ _ _ h2]
  have hc := law_calls (E := E0) tabOK (f := f) (d := 8) (W := W) (base := base) (ts := fn.params.toList) (args := args) (glob_laid hL) (fun t ht => (hps' t ht).1.1)
    (fun j t v ht hv => hval j t v (by simpa using ht) hv) hA law
  refine hc.mono fun e W' ⟨he, hb⟩ => ?_
  subst he
  exact ⟨_, rfl, post_below laidOut0 hvars (fun t ht => ⟨(hps' t ht).1.2, (hps' t ht).2⟩) hW' hb hr htb (by rw [List.append_nil]; exact hs ds (hlen _ _ _ _ hA))⟩
end Go.Proofs.YtcehbpimdngjfaaDoor.M2
