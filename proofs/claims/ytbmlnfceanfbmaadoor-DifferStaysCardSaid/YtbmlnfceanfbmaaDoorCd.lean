/- M2's code of the functions. Printed by wip/gen. -/
import Derived.Test.YtbmlnfceanfbmaaDoorCa
set_option linter.unusedSimpArgs false
set_option linter.unusedVariables false
set_option linter.unusedSectionVars false
/- M2's code of the functions. Printed by wip/gen. -/
namespace Go.Proofs.YtbmlnfceanfbmaaDoor.M2
def gl_1 : List U := [(.str [99, 111, 110, 115, 116]), (.str [100, 78]), (.str [109, 111, 118]), (.str [100, 97]), (.str [115, 119, 97, 112]), (.str [100, 97]), (.str [97, 100, 100]), (.str [68, 65, 66]), (.str [115, 117, 98]), (.str [68, 65, 66]), (.str [109, 117, 108]), (.str [68, 65, 66]), (.str [100, 105, 118]), (.str [68, 65, 66]), (.str [97, 110, 100]), (.str [68, 65, 66]), (.str [111, 114]), (.str [68, 65, 66]), (.str [120, 111, 114]), (.str [68, 65, 66]), (.str [108, 101, 115, 115]), (.str [68, 65, 66]), (.str [115, 97, 109, 101]), (.str [68, 65, 66]), (.str [108, 111, 97, 100]), (.str [68, 65]), (.str [115, 116, 111, 114, 101]), (.str [65, 66]), (.str [99, 97, 108, 108]), (.str [68, 65, 78]), (.str [106, 117, 109, 112]), (.str [84]), (.str [122, 101, 114, 111]), (.str [65, 84]), (.str [114, 101, 116]), (.str [65])]
def c_joinerylaw18_DifferStays : F := ⟨true, 5, (.seq (.ops [
⟨(some 7), .box (.t 2), none⟩,
⟨(some 10), .mov (.k (.bool false)), none⟩] [0, 1, 3, 4, 7])
 (.seq (.seq (.ops [
⟨(some 15), .mov (.t 0), none⟩,
⟨(some 16), .mov (.t 1), none⟩,
⟨(some 17), .load true 11 (.t 7), none⟩,
⟨(some 18), .call 27 [(.t 15), (.t 16), (.t 17)], none⟩,
⟨(some 19), .mov (.t 18), none⟩,
⟨(some 20), .mov (.t 4), (some (19, false))⟩,
⟨(some 21), .len 0 (.t 20), (some (19, false))⟩,
⟨(some 22), .bin .gtr (.t 21) (.k (.int .i64 1000)), (some (19, false))⟩,
⟨(some 23), .pick (.t 19) (.k (.bool true)) (.t 22), none⟩,
⟨(some 24), .mov (.t 23), none⟩,
⟨(some 25), .mov (.t 0), (some (24, false))⟩,
⟨(some 26), .load true 11 (.t 7), (some (24, false))⟩,
⟨(some 27), .call 34 [(.t 25), (.t 26)], (some (24, false))⟩,
⟨(some 28), .un .not (.t 27), (some (24, false))⟩,
⟨(some 29), .pick (.t 24) (.k (.bool true)) (.t 28), none⟩,
⟨(some 30), .mov (.t 29), none⟩,
⟨(some 31), .mov (.t 1), (some (30, false))⟩,
⟨(some 32), .load true 11 (.t 7), (some (30, false))⟩,
⟨(some 33), .call 34 [(.t 31), (.t 32)], (some (30, false))⟩,
⟨(some 34), .un .not (.t 33), (some (30, false))⟩,
⟨(some 35), .pick (.t 30) (.k (.bool true)) (.t 34), none⟩] [0, 1, 3, 4, 7, 35])
 (.cond (.t 35) (.seq (.ops [
⟨(some 36), .call 28 [], none⟩,
⟨(some 10), .mov (.t 36), none⟩] [10])
 .ret)
 .skip))
 (.seq (.ops [
⟨(some 38), .mov (.t 0), none⟩,
⟨(some 39), .mov (.t 1), none⟩,
⟨(some 40), .load true 11 (.t 7), none⟩,
⟨(some 41), .call 29 [(.t 38), (.t 39), (.t 40)], none⟩,
⟨(some 37), .mov (.t 41), none⟩,
⟨(some 42), .extract (.t 37) 0, none⟩,
⟨(some 43), .extract (.t 37) 1, none⟩,
⟨(some 11), .mov (.t 42), none⟩,
⟨(some 12), .mov (.t 43), none⟩] [0, 1, 3, 4, 7, 11, 12])
 (.seq (.ops [
⟨(some 44), .faddr 10 (.t 7), none⟩,
⟨(some 45), .load false 1 (.t 44), none⟩,
⟨(some 46), .mov (.t 3), none⟩,
⟨(some 47), .convI .i64 (.t 46), none⟩,
⟨(some 48), .bin .add (.t 45) (.t 47), none⟩,
⟨(some 49), .faddr 10 (.t 7), none⟩,
⟨none, .store 1 (.t 49) (.t 48), none⟩] [0, 1, 4, 7, 11, 12])
 (.seq (.ops [
⟨(some 50), .lit 2 1 false [(.int .i64 0)] 0 [], none⟩,
⟨(some 51), .faddr 9 (.t 7), none⟩,
⟨(some 52), .load false 1 (.t 51), none⟩,
⟨(some 53), .append 2 1 8 false (.t 50) (.t 52), none⟩,
⟨(some 54), .mov (.t 4), none⟩,
⟨(some 55), .append 2 1 8 false (.t 53) (.t 54), none⟩,
⟨(some 56), .faddr 9 (.t 7), none⟩,
⟨none, .store 1 (.t 56) (.t 55), none⟩] [0, 1, 7, 11, 12])
 (.seq (.ops [
⟨(some 58), .mov (.t 0), none⟩,
⟨(some 59), .mov (.t 1), none⟩,
⟨(some 60), .load true 11 (.t 7), none⟩,
⟨(some 61), .call 29 [(.t 58), (.t 59), (.t 60)], none⟩,
⟨(some 57), .mov (.t 61), none⟩,
⟨(some 62), .extract (.t 57) 0, none⟩,
⟨(some 63), .extract (.t 57) 1, none⟩,
⟨(some 13), .mov (.t 62), none⟩,
⟨(some 14), .mov (.t 63), none⟩] [11, 12, 13, 14])
 (.seq (.ops [
⟨(some 64), .mov (.t 12), none⟩,
⟨(some 65), .bin .eql (.t 64) (.k (.int .i64 0)), none⟩,
⟨(some 66), .mov (.t 65), none⟩,
⟨(some 67), .mov (.t 14), (some (66, true))⟩,
⟨(some 68), .bin .eql (.t 67) (.k (.int .i64 0)), (some (66, true))⟩,
⟨(some 69), .pick (.t 66) (.t 68) (.k (.bool false)), none⟩,
⟨(some 70), .mov (.t 69), none⟩,
⟨(some 71), .mov (.t 11), (some (70, true))⟩,
⟨(some 72), .bin .eql (.t 71) (.k (.int .i64 0)), (some (70, true))⟩,
⟨(some 73), .mov (.t 72), (some (70, true))⟩,
⟨(some 74), .mov (.t 11), (some (73, false))⟩,
⟨(some 75), .mov (.t 13), (some (73, false))⟩,
⟨(some 76), .bin .eql (.t 74) (.t 75), (some (73, false))⟩,
⟨(some 77), .pick (.t 73) (.k (.bool true)) (.t 76), (some (70, true))⟩,
⟨(some 78), .pick (.t 70) (.t 77) (.k (.bool false)), none⟩,
⟨(some 79), .mov (.t 78), none⟩,
⟨(some 80), .call 28 [], (some (79, true))⟩,
⟨(some 81), .pick (.t 79) (.t 80) (.k (.bool false)), none⟩,
⟨(some 10), .mov (.t 81), none⟩] [10])
 .ret))))))), [.tmp 10]⟩
abbrev n_joinerylaw18_DifferStays : Nat := 9
def c_joinerylaw18_DifferBoth : F := ⟨true, 3, (.seq (.ops [
⟨(some 5), .box (.t 2), none⟩,
⟨(some 6), .mov (.k (.bool false)), none⟩] [0, 1, 5])
 (.seq (.seq (.ops [
⟨(some 13), .mov (.t 0), none⟩,
⟨(some 14), .mov (.t 1), none⟩,
⟨(some 15), .load true 11 (.t 5), none⟩,
⟨(some 16), .call 27 [(.t 13), (.t 14), (.t 15)], none⟩,
⟨(some 17), .mov (.t 16), none⟩,
⟨(some 18), .mov (.t 0), (some (17, false))⟩,
⟨(some 19), .load true 11 (.t 5), (some (17, false))⟩,
⟨(some 20), .call 34 [(.t 18), (.t 19)], (some (17, false))⟩,
⟨(some 21), .un .not (.t 20), (some (17, false))⟩,
⟨(some 22), .pick (.t 17) (.k (.bool true)) (.t 21), none⟩,
⟨(some 23), .mov (.t 22), none⟩,
⟨(some 24), .mov (.t 1), (some (23, false))⟩,
⟨(some 25), .load true 11 (.t 5), (some (23, false))⟩,
⟨(some 26), .call 34 [(.t 24), (.t 25)], (some (23, false))⟩,
⟨(some 27), .un .not (.t 26), (some (23, false))⟩,
⟨(some 28), .pick (.t 23) (.k (.bool true)) (.t 27), none⟩] [0, 1, 5, 28])
 (.cond (.t 28) (.seq (.ops [
⟨(some 29), .call 28 [], none⟩,
⟨(some 6), .mov (.t 29), none⟩] [6])
 .ret)
 .skip))
 (.seq (.ops [
⟨(some 31), .mov (.t 0), none⟩,
⟨(some 32), .mov (.t 0), none⟩,
⟨(some 33), .load true 11 (.t 5), none⟩,
⟨(some 34), .call 29 [(.t 31), (.t 32), (.t 33)], none⟩,
⟨(some 30), .mov (.t 34), none⟩,
⟨(some 35), .extract (.t 30) 0, none⟩,
⟨(some 36), .extract (.t 30) 1, none⟩,
⟨(some 7), .mov (.t 35), none⟩,
⟨(some 8), .mov (.t 36), none⟩] [0, 1, 5, 7, 8])
 (.seq (.ops [
⟨(some 38), .mov (.t 0), none⟩,
⟨(some 39), .mov (.t 1), none⟩,
⟨(some 40), .load true 11 (.t 5), none⟩,
⟨(some 41), .call 29 [(.t 38), (.t 39), (.t 40)], none⟩,
⟨(some 37), .mov (.t 41), none⟩,
⟨(some 42), .extract (.t 37) 0, none⟩,
⟨(some 43), .extract (.t 37) 1, none⟩,
⟨(some 9), .mov (.t 42), none⟩,
⟨(some 10), .mov (.t 43), none⟩] [0, 1, 5, 7, 8, 9, 10])
 (.seq (.ops [
⟨(some 45), .mov (.t 1), none⟩,
⟨(some 46), .mov (.t 0), none⟩,
⟨(some 47), .load true 11 (.t 5), none⟩,
⟨(some 48), .call 29 [(.t 45), (.t 46), (.t 47)], none⟩,
⟨(some 44), .mov (.t 48), none⟩,
⟨(some 49), .extract (.t 44) 0, none⟩,
⟨(some 50), .extract (.t 44) 1, none⟩,
⟨(some 11), .mov (.t 49), none⟩,
⟨(some 12), .mov (.t 50), none⟩] [7, 8, 9, 10, 11, 12])
 (.seq (.ops [
⟨(some 51), .mov (.t 7), none⟩,
⟨(some 52), .bin .eql (.t 51) (.k (.int .i64 0)), none⟩,
⟨(some 53), .mov (.t 52), none⟩,
⟨(some 54), .mov (.t 8), (some (53, true))⟩,
⟨(some 55), .bin .eql (.t 54) (.k (.int .i64 0)), (some (53, true))⟩,
⟨(some 56), .pick (.t 53) (.t 55) (.k (.bool false)), none⟩,
⟨(some 57), .mov (.t 56), none⟩,
⟨(some 58), .mov (.t 9), (some (57, true))⟩,
⟨(some 59), .mov (.t 11), (some (57, true))⟩,
⟨(some 60), .bin .eql (.t 58) (.t 59), (some (57, true))⟩,
⟨(some 61), .pick (.t 57) (.t 60) (.k (.bool false)), none⟩,
⟨(some 62), .mov (.t 61), none⟩,
⟨(some 63), .mov (.t 10), (some (62, true))⟩,
⟨(some 64), .bin .eql (.t 63) (.k (.int .i64 0)), (some (62, true))⟩,
⟨(some 65), .pick (.t 62) (.t 64) (.k (.bool false)), none⟩,
⟨(some 66), .mov (.t 65), none⟩,
⟨(some 67), .mov (.t 12), (some (66, true))⟩,
⟨(some 68), .bin .eql (.t 67) (.k (.int .i64 0)), (some (66, true))⟩,
⟨(some 69), .pick (.t 66) (.t 68) (.k (.bool false)), none⟩,
⟨(some 70), .mov (.t 69), none⟩,
⟨(some 71), .call 28 [], (some (70, true))⟩,
⟨(some 72), .pick (.t 70) (.t 71) (.k (.bool false)), none⟩,
⟨(some 6), .mov (.t 72), none⟩] [6])
 .ret)))))), [.tmp 6]⟩
abbrev n_joinerylaw18_DifferBoth : Nat := 10
def c_joinerylaw18_DifferFuel : F := ⟨true, 3, (.seq (.ops [
⟨(some 5), .box (.t 2), none⟩,
⟨(some 6), .mov (.k (.bool false)), none⟩] [0, 1, 5])
 (.seq (.ops [
⟨(some 9), .faddr 10 (.t 5), none⟩,
⟨none, .store 1 (.t 9) (.k (.int .i64 0)), none⟩] [0, 1, 5])
 (.seq (.seq (.ops [
⟨(some 10), .mov (.t 0), none⟩,
⟨(some 11), .mov (.t 1), none⟩,
⟨(some 12), .load true 11 (.t 5), none⟩,
⟨(some 13), .call 27 [(.t 10), (.t 11), (.t 12)], none⟩,
⟨(some 14), .mov (.t 13), none⟩,
⟨(some 15), .mov (.t 0), (some (14, false))⟩,
⟨(some 16), .load true 11 (.t 5), (some (14, false))⟩,
⟨(some 17), .call 34 [(.t 15), (.t 16)], (some (14, false))⟩,
⟨(some 18), .un .not (.t 17), (some (14, false))⟩,
⟨(some 19), .pick (.t 14) (.k (.bool true)) (.t 18), none⟩,
⟨(some 20), .mov (.t 19), none⟩,
⟨(some 21), .mov (.t 1), (some (20, false))⟩,
⟨(some 22), .load true 11 (.t 5), (some (20, false))⟩,
⟨(some 23), .call 34 [(.t 21), (.t 22)], (some (20, false))⟩,
⟨(some 24), .un .not (.t 23), (some (20, false))⟩,
⟨(some 25), .pick (.t 20) (.k (.bool true)) (.t 24), none⟩] [0, 1, 5, 25])
 (.cond (.t 25) (.seq (.ops [
⟨(some 26), .call 28 [], none⟩,
⟨(some 6), .mov (.t 26), none⟩] [6])
 .ret)
 .skip))
 (.seq (.ops [
⟨(some 28), .mov (.t 0), none⟩,
⟨(some 29), .mov (.t 1), none⟩,
⟨(some 30), .load true 11 (.t 5), none⟩,
⟨(some 31), .call 29 [(.t 28), (.t 29), (.t 30)], none⟩,
⟨(some 27), .mov (.t 31), none⟩,
⟨(some 32), .extract (.t 27) 0, none⟩,
⟨(some 33), .extract (.t 27) 1, none⟩,
⟨(some 7), .mov (.t 32), none⟩,
⟨(some 8), .mov (.t 33), none⟩] [7, 8])
 (.seq (.ops [
⟨(some 34), .mov (.t 7), none⟩,
⟨(some 35), .bin .eql (.t 34) (.k (.int .i64 0)), none⟩,
⟨(some 36), .mov (.t 35), none⟩,
⟨(some 37), .mov (.t 8), (some (36, true))⟩,
⟨(some 38), .bin .eql (.t 37) (.k (.int .i64 0)), (some (36, true))⟩,
⟨(some 39), .pick (.t 36) (.t 38) (.k (.bool false)), none⟩,
⟨(some 40), .mov (.t 39), none⟩,
⟨(some 41), .call 28 [], (some (40, true))⟩,
⟨(some 42), .pick (.t 40) (.t 41) (.k (.bool false)), none⟩,
⟨(some 6), .mov (.t 42), none⟩] [6])
 .ret))))), [.tmp 6]⟩
abbrev n_joinerylaw18_DifferFuel : Nat := 12
def c_joineryref04_Right : F := ⟨true, 1, (.seq (.ops [
⟨(some 2), .mov (.k (.bool false)), none⟩] [0])
 (.seq (.ops [
⟨(some 6), .mov (.t 0), none⟩,
⟨(some 7), .call 42 [(.t 6)], none⟩,
⟨(some 5), .mov (.t 7), none⟩,
⟨(some 8), .extract (.t 5) 0, none⟩,
⟨(some 9), .extract (.t 5) 1, none⟩,
⟨(some 3), .mov (.t 8), none⟩,
⟨(some 4), .mov (.t 9), none⟩] [4])
 (.seq (.ops [
⟨(some 10), .mov (.t 4), none⟩,
⟨(some 11), .bin .eql (.t 10) (.k (.int .i64 0)), none⟩,
⟨(some 2), .mov (.t 11), none⟩] [2])
 .ret))), [.tmp 2]⟩
abbrev n_joineryref04_Right : Nat := 14
def c_joinerylaw18_great : F := ⟨true, 3, (.seq (.ops [
⟨(some 5), .box (.t 2), none⟩,
⟨(some 6), .mov (.k (.bool false)), none⟩] [0, 1, 5])
 (.seq (.ops [
⟨(some 7), .mov (.t 0), none⟩,
⟨(some 8), .load true 11 (.t 5), none⟩,
⟨(some 9), .call 61 [(.t 7), (.t 8)], none⟩,
⟨(some 10), .mov (.t 9), none⟩,
⟨(some 11), .mov (.t 1), (some (10, false))⟩,
⟨(some 12), .load true 11 (.t 5), (some (10, false))⟩,
⟨(some 13), .call 61 [(.t 11), (.t 12)], (some (10, false))⟩,
⟨(some 14), .pick (.t 10) (.k (.bool true)) (.t 13), none⟩,
⟨(some 6), .mov (.t 14), none⟩] [6])
 .ret)), [.tmp 6]⟩
abbrev n_joinerylaw18_great : Nat := 27
def c_joinerylaw18_knows : F := ⟨true, 0, (.seq (.ops [
⟨(some 0), .mov (.k (.bool false)), none⟩] [])
 (.seq (.ops [
⟨(some 23), .call 43 [(.k (.str [114, 101, 116, 32, 114, 48, 10]))], none⟩,
⟨(some 22), .mov (.t 23), none⟩,
⟨(some 24), .extract (.t 22) 0, none⟩,
⟨(some 25), .extract (.t 22) 1, none⟩,
⟨(some 26), .extract (.t 22) 2, none⟩,
⟨(some 1), .mov (.t 24), none⟩,
⟨(some 2), .mov (.t 25), none⟩,
⟨(some 3), .mov (.t 26), none⟩] [1])
 (.seq (.ops [
⟨(some 28), .call 43 [(.k (.str [114, 101, 116, 32, 114, 49, 10]))], none⟩,
⟨(some 27), .mov (.t 28), none⟩,
⟨(some 29), .extract (.t 27) 0, none⟩,
⟨(some 30), .extract (.t 27) 1, none⟩,
⟨(some 31), .extract (.t 27) 2, none⟩,
⟨(some 4), .mov (.t 29), none⟩,
⟨(some 5), .mov (.t 30), none⟩,
⟨(some 6), .mov (.t 31), none⟩] [1, 4])
 (.seq (.ops [
⟨(some 33), .call 43 [(.k (.str [106, 117, 109, 112, 32, 48, 10]))], none⟩,
⟨(some 32), .mov (.t 33), none⟩,
⟨(some 34), .extract (.t 32) 0, none⟩,
⟨(some 35), .extract (.t 32) 1, none⟩,
⟨(some 36), .extract (.t 32) 2, none⟩,
⟨(some 7), .mov (.t 34), none⟩,
⟨(some 8), .mov (.t 35), none⟩,
⟨(some 9), .mov (.t 36), none⟩] [1, 4, 7])
 (.seq (.ops [
⟨(some 38), .call 43 [(.k (.str [99, 97, 108, 108, 32, 114, 49, 32, 114, 48, 32, 49, 10, 114, 101, 116, 32, 114, 48, 10]))], none⟩,
⟨(some 37), .mov (.t 38), none⟩,
⟨(some 39), .extract (.t 37) 0, none⟩,
⟨(some 40), .extract (.t 37) 1, none⟩,
⟨(some 41), .extract (.t 37) 2, none⟩,
⟨(some 10), .mov (.t 39), none⟩,
⟨(some 11), .mov (.t 40), none⟩,
⟨(some 12), .mov (.t 41), none⟩] [1, 4, 7, 10])
 (.seq (.ops [
⟨(some 42), .lit 2 1 false [(.int .i64 0)] 1 [(0, (.k (.int .i64 4)))], none⟩,
⟨(some 43), .build [(.int .i64 0), (.int .i64 0), (.int .i64 0), (.int .i64 0), (.int .i64 0), (.int .i64 0), (.int .i64 0), (.int .i64 0), .nils, .nils, (.int .i64 0)] [(9, 1, (.t 42)), (10, 1, (.k (.int .i64 9)))], none⟩,
⟨(some 13), .alloc [(.int .i64 0), (.int .i64 0), (.int .i64 0), (.int .i64 0), (.int .i64 0), (.int .i64 0), (.int .i64 0), (.int .i64 0), .nils, .nils, (.int .i64 0)], none⟩,
⟨none, .store 11 (.t 13) (.t 43), none⟩] [1, 4, 7, 10, 13])
 (.seq (.ops [
⟨(some 44), .faddr 0 (.t 13), none⟩,
⟨(some 45), .iaddrA 8 1 (.t 44) (.k (.int .i64 0)), none⟩,
⟨none, .store 1 (.t 45) (.k (.int .i64 5)), none⟩] [1, 4, 7, 10, 13])
 (.seq (.ops [
⟨(some 47), .mov (.t 1), none⟩,
⟨(some 48), .mov (.t 4), none⟩,
⟨(some 49), .load true 11 (.t 13), none⟩,
⟨(some 50), .call 29 [(.t 47), (.t 48), (.t 49)], none⟩,
⟨(some 46), .mov (.t 50), none⟩,
⟨(some 51), .extract (.t 46) 0, none⟩,
⟨(some 52), .extract (.t 46) 1, none⟩,
⟨(some 14), .mov (.t 51), none⟩,
⟨(some 15), .mov (.t 52), none⟩] [1, 7, 10, 13, 14, 15])
 (.seq (.ops [
⟨(some 54), .mov (.t 7), none⟩,
⟨(some 55), .mov (.t 1), none⟩,
⟨(some 56), .load true 11 (.t 13), none⟩,
⟨(some 57), .call 29 [(.t 54), (.t 55), (.t 56)], none⟩,
⟨(some 53), .mov (.t 57), none⟩,
⟨(some 58), .extract (.t 53) 0, none⟩,
⟨(some 59), .extract (.t 53) 1, none⟩,
⟨(some 16), .mov (.t 58), none⟩,
⟨(some 17), .mov (.t 59), none⟩] [1, 10, 13, 14, 15, 16, 17])
 (.seq (.ops [
⟨(some 61), .mov (.t 10), none⟩,
⟨(some 62), .mov (.t 1), none⟩,
⟨(some 63), .load true 11 (.t 13), none⟩,
⟨(some 64), .call 29 [(.t 61), (.t 62), (.t 63)], none⟩,
⟨(some 60), .mov (.t 64), none⟩,
⟨(some 65), .extract (.t 60) 0, none⟩,
⟨(some 66), .extract (.t 60) 1, none⟩,
⟨(some 18), .mov (.t 65), none⟩,
⟨(some 19), .mov (.t 66), none⟩] [1, 13, 14, 15, 16, 17, 18, 19])
 (.seq (.ops [
⟨(some 68), .mov (.t 1), none⟩,
⟨(some 69), .mov (.t 1), none⟩,
⟨(some 70), .load true 11 (.t 13), none⟩,
⟨(some 71), .call 29 [(.t 68), (.t 69), (.t 70)], none⟩,
⟨(some 67), .mov (.t 71), none⟩,
⟨(some 72), .extract (.t 67) 0, none⟩,
⟨(some 73), .extract (.t 67) 1, none⟩,
⟨(some 20), .mov (.t 72), none⟩,
⟨(some 21), .mov (.t 73), none⟩] [14, 15, 16, 17, 18, 19, 20, 21])
 (.seq (.ops [
⟨(some 74), .mov (.t 14), none⟩,
⟨(some 75), .bin .eql (.t 74) (.k (.int .i64 3)), none⟩,
⟨(some 76), .mov (.t 75), none⟩,
⟨(some 77), .mov (.t 15), (some (76, true))⟩,
⟨(some 78), .bin .eql (.t 77) (.k (.int .i64 0)), (some (76, true))⟩,
⟨(some 79), .pick (.t 76) (.t 78) (.k (.bool false)), none⟩,
⟨(some 80), .mov (.t 79), none⟩,
⟨(some 81), .mov (.t 16), (some (80, true))⟩,
⟨(some 82), .bin .eql (.t 81) (.k (.int .i64 4)), (some (80, true))⟩,
⟨(some 83), .pick (.t 80) (.t 82) (.k (.bool false)), none⟩,
⟨(some 84), .mov (.t 83), none⟩,
⟨(some 85), .mov (.t 17), (some (84, true))⟩,
⟨(some 86), .bin .eql (.t 85) (.k (.int .i64 0)), (some (84, true))⟩,
⟨(some 87), .pick (.t 84) (.t 86) (.k (.bool false)), none⟩,
⟨(some 88), .mov (.t 87), none⟩,
⟨(some 89), .mov (.t 18), (some (88, true))⟩,
⟨(some 90), .bin .eql (.t 89) (.k (.int .i64 2)), (some (88, true))⟩,
⟨(some 91), .pick (.t 88) (.t 90) (.k (.bool false)), none⟩,
⟨(some 92), .mov (.t 91), none⟩,
⟨(some 93), .mov (.t 19), (some (92, true))⟩,
⟨(some 94), .bin .eql (.t 93) (.k (.int .i64 0)), (some (92, true))⟩,
⟨(some 95), .pick (.t 92) (.t 94) (.k (.bool false)), none⟩,
⟨(some 96), .mov (.t 95), none⟩,
⟨(some 97), .mov (.t 20), (some (96, true))⟩,
⟨(some 98), .bin .eql (.t 97) (.k (.int .i64 0)), (some (96, true))⟩,
⟨(some 99), .pick (.t 96) (.t 98) (.k (.bool false)), none⟩,
⟨(some 100), .mov (.t 99), none⟩,
⟨(some 101), .mov (.t 21), (some (100, true))⟩,
⟨(some 102), .bin .eql (.t 101) (.k (.int .i64 0)), (some (100, true))⟩,
⟨(some 103), .pick (.t 100) (.t 102) (.k (.bool false)), none⟩,
⟨(some 0), .mov (.t 103), none⟩] [0])
 .ret)))))))))))), [.tmp 0]⟩
abbrev n_joinerylaw18_knows : Nat := 28
def c_differ_Tell_D0 : List O := [
⟨(some 33), .load true 7 (.t 8), none⟩,
⟨(some 34), .load true 7 (.t 10), none⟩,
⟨(some 35), .call 63 [(.t 33), (.t 34), (.k (.fn 64 []))], none⟩,
⟨(some 36), .un .not (.t 35), none⟩,
⟨(some 37), .load true 7 (.t 8), none⟩,
⟨(some 38), .load true 7 (.t 10), none⟩,
⟨(some 39), .call 63 [(.t 37), (.t 38), (.k (.fn 65 []))], none⟩,
⟨(some 40), .faddr 0 (.t 8), none⟩,
⟨(some 41), .load true 6 (.t 40), none⟩,
⟨(some 42), .call 32 [(.t 41)], none⟩,
⟨(some 43), .mov (.t 42), none⟩,
⟨(some 44), .faddr 0 (.t 10), (some (43, true))⟩,
⟨(some 45), .load true 6 (.t 44), (some (43, true))⟩,
⟨(some 46), .call 32 [(.t 45)], (some (43, true))⟩,
⟨(some 47), .pick (.t 43) (.t 46) (.k (.bool false)), none⟩,
⟨(some 48), .mov (.t 47), none⟩,
⟨(some 49), .faddr 0 (.t 8), (some (48, true))⟩,
⟨(some 50), .faddr 1 (.t 49), (some (48, true))⟩,
⟨(some 51), .faddr 0 (.t 50), (some (48, true))⟩,
⟨(some 52), .load false 1 (.t 51), (some (48, true))⟩,
⟨(some 53), .faddr 0 (.t 10), (some (48, true))⟩,
⟨(some 54), .faddr 1 (.t 53), (some (48, true))⟩,
⟨(some 55), .faddr 0 (.t 54), (some (48, true))⟩,
⟨(some 56), .load false 1 (.t 55), (some (48, true))⟩,
⟨(some 57), .bin .neq (.t 52) (.t 56), (some (48, true))⟩,
⟨(some 58), .mov (.t 57), (some (48, true))⟩,
⟨(some 59), .faddr 0 (.t 8), (some (58, false))⟩,
⟨(some 60), .faddr 1 (.t 59), (some (58, false))⟩,
⟨(some 61), .faddr 1 (.t 60), (some (58, false))⟩,
⟨(some 62), .load false 1 (.t 61), (some (58, false))⟩,
⟨(some 63), .faddr 0 (.t 10), (some (58, false))⟩,
⟨(some 64), .faddr 1 (.t 63), (some (58, false))⟩,
⟨(some 65), .faddr 1 (.t 64), (some (58, false))⟩,
⟨(some 66), .load false 1 (.t 65), (some (58, false))⟩,
⟨(some 67), .bin .neq (.t 62) (.t 66), (some (58, false))⟩,
⟨(some 68), .pick (.t 58) (.k (.bool true)) (.t 67), (some (48, true))⟩,
⟨(some 69), .mov (.t 68), (some (48, true))⟩,
⟨(some 70), .faddr 0 (.t 8), (some (69, false))⟩,
⟨(some 71), .faddr 1 (.t 70), (some (69, false))⟩,
⟨(some 72), .faddr 2 (.t 71), (some (69, false))⟩,
⟨(some 73), .load false 1 (.t 72), (some (69, false))⟩,
⟨(some 74), .faddr 0 (.t 10), (some (69, false))⟩,
⟨(some 75), .faddr 1 (.t 74), (some (69, false))⟩,
⟨(some 76), .faddr 2 (.t 75), (some (69, false))⟩,
⟨(some 77), .load false 1 (.t 76), (some (69, false))⟩,
⟨(some 78), .call 66 [(.t 73), (.t 77)], (some (69, false))⟩,
⟨(some 79), .un .not (.t 78), (some (69, false))⟩,
⟨(some 80), .pick (.t 69) (.k (.bool true)) (.t 79), (some (48, true))⟩,
⟨(some 81), .pick (.t 48) (.t 80) (.k (.bool false)), none⟩,
⟨(some 82), .load true 7 (.t 8), none⟩,
⟨(some 83), .load true 7 (.t 10), none⟩,
⟨(some 84), .call 63 [(.t 82), (.t 83), (.k (.fn 67 []))], none⟩,
⟨(some 85), .lit 4 1 false [(.bool false)] 5 [(1, (.t 36)), (2, (.t 39)), (3, (.t 81)), (4, (.t 84))], none⟩,
⟨(some 12), .mov (.t 85), none⟩]
def c_differ_Tell_L1 : C := (.seq (.ops [
⟨(some 89), .bin .lss (.t 88) (.t 87), none⟩] [86, 87, 88, 89])
 (.seq (.cond (.t 89) .skip
 (.exit 0))
 (.seq (.block 1 (.seq (.ops [
⟨(some 90), .mov (.t 88), none⟩,
⟨(some 91), .iaddr 1 (.t 86) (.t 88), none⟩,
⟨(some 92), .load false 1 (.t 91), none⟩,
⟨(some 13), .mov (.t 90), none⟩,
⟨(some 14), .mov (.t 92), none⟩] [13, 14, 86, 87, 88])
 (.seq (.ops [
⟨(some 93), .mov (.t 14), none⟩] [13, 86, 87, 88, 93])
 (.cond (.t 93) (.seq (.ops [
⟨(some 94), .mov (.t 13), none⟩,
⟨(some 6), .mov (.t 94), none⟩,
⟨(some 7), .mov (.k (.int .i64 0)), none⟩] [6, 7])
 .ret)
 .skip))))
 (.ops [
⟨(some 95), .bin .add (.t 88) (.k (.int .i64 1)), none⟩,
⟨(some 88), .mov (.t 95), none⟩] [86, 87, 88]))))
def c_differ_Tell : F := ⟨true, 3, (.seq (.ops [
⟨(some 5), .box (.t 2), none⟩,
⟨(some 6), .mov (.k (.int .i64 0)), none⟩,
⟨(some 7), .mov (.k (.int .i64 0)), none⟩] [0, 1, 5])
 (.seq (.ops [
⟨(some 16), .mov (.t 0), none⟩,
⟨(some 17), .load true 11 (.t 5), none⟩,
⟨(some 18), .call 62 [(.t 16), (.t 17)], none⟩,
⟨(some 15), .mov (.t 18), none⟩,
⟨(some 19), .extract (.t 15) 0, none⟩,
⟨(some 20), .extract (.t 15) 1, none⟩,
⟨(some 8), .alloc [.nils, (.int .i64 0), (.int .i64 0), .nils, (.int .i64 0), (.int .i64 0), (.bool false)], none⟩,
⟨none, .store 7 (.t 8) (.t 19), none⟩,
⟨(some 9), .mov (.t 20), none⟩] [1, 5, 8, 9])
 (.seq (.ops [
⟨(some 22), .mov (.t 1), none⟩,
⟨(some 23), .load true 11 (.t 5), none⟩,
⟨(some 24), .call 62 [(.t 22), (.t 23)], none⟩,
⟨(some 21), .mov (.t 24), none⟩,
⟨(some 25), .extract (.t 21) 0, none⟩,
⟨(some 26), .extract (.t 21) 1, none⟩,
⟨(some 10), .alloc [.nils, (.int .i64 0), (.int .i64 0), .nils, (.int .i64 0), (.int .i64 0), (.bool false)], none⟩,
⟨none, .store 7 (.t 10) (.t 25), none⟩,
⟨(some 11), .mov (.t 26), none⟩] [8, 9, 10, 11])
 (.seq (.seq (.ops [
⟨(some 27), .mov (.t 9), none⟩,
⟨(some 28), .bin .neq (.t 27) (.k (.int .i64 0)), none⟩,
⟨(some 29), .mov (.t 28), none⟩,
⟨(some 30), .mov (.t 11), (some (29, false))⟩,
⟨(some 31), .bin .neq (.t 30) (.k (.int .i64 0)), (some (29, false))⟩,
⟨(some 32), .pick (.t 29) (.k (.bool true)) (.t 31), none⟩] [8, 10, 32])
 (.cond (.t 32) (.seq (.ops [
⟨(some 6), .mov (.k (.int .i64 0)), none⟩,
⟨(some 7), .mov (.k (.int .i64 1)), none⟩] [6, 7])
 .ret)
 .skip))
 (.seq (.opsD c_differ_Tell_D0 [0, 0, 3, 7, 0, 0, 55, 0, 128, 503, 1015, 2039, 4087, 8183, 16375, 32759, 65527, 131063, 262135, 524279, 65527, 1114103, 3211255, 7405559, 16777207, 33554423, 67108855, 134217719, 268435447, 536870903, 67108855, 1140850679, 3288334327, 7583301623, 17179869175, 34359738359, 68719476727, 137438953463, 274877906935, 549755813879, 1099511627767, 137438953463, 2336462209015, 6734508720119, 15530601742327, 35184372088823, 70368744177655, 140737488355319, 281474976710647, 0, 0, 1759218604441591, 4503599627370495, 9007199254740991] [12])
 (.seq (.seq (.ops [
⟨(some 86), .mov (.t 12), none⟩,
⟨(some 87), .len 0 (.t 86), none⟩,
⟨(some 88), .mov (.k (.int .i64 0)), none⟩] [86, 87, 88])
 (.block 0 (.loop c_differ_Tell_L1)))
 (.seq (.ops [
⟨(some 6), .mov (.k (.int .i64 0)), none⟩,
⟨(some 7), .mov (.k (.int .i64 0)), none⟩] [6, 7])
 .ret))))))), [.tmp 6, .tmp 7]⟩
abbrev n_differ_Tell : Nat := 29
def c_differ_Begins_D0 : List O := [
⟨(some 19), .load true 3 (.t 6), none⟩,
⟨(some 20), .mov (.t 1), none⟩,
⟨(some 21), .mov (.t 5), none⟩,
⟨(some 22), .iaddr 3 (.t 20) (.t 21), none⟩,
⟨(some 23), .load true 3 (.t 22), none⟩,
⟨(some 24), .eq true (.tst [(1, .ti), (1, .ti), (1, .ti)]) (.t 19) (.t 23), none⟩]
def c_differ_Begins_L1 : C := (.seq (.ops [
⟨(some 15), .bin .lss (.t 14) (.t 13), none⟩] [1, 12, 13, 14, 15])
 (.seq (.cond (.t 15) .skip
 (.exit 0))
 (.seq (.block 1 (.seq (.ops [
⟨(some 16), .mov (.t 14), none⟩,
⟨(some 17), .iaddr 3 (.t 12) (.t 14), none⟩,
⟨(some 18), .load true 3 (.t 17), none⟩,
⟨(some 6), .alloc [(.int .i64 0), (.int .i64 0), (.int .i64 0)], none⟩,
⟨(some 5), .mov (.t 16), none⟩,
⟨none, .store 3 (.t 6) (.t 18), none⟩] [1, 5, 6, 12, 13, 14])
 (.seq (.opsD c_differ_Begins_D0 [0, 0, 0, 6, 14, 31] [1, 12, 13, 14, 24])
 (.cond (.t 24) (.seq (.ops [
⟨(some 4), .mov (.k (.bool false)), none⟩] [4])
 .ret)
 .skip))))
 (.ops [
⟨(some 25), .bin .add (.t 14) (.k (.int .i64 1)), none⟩,
⟨(some 14), .mov (.t 25), none⟩] [1, 12, 13, 14]))))
def c_differ_Begins : F := ⟨true, 2, (.seq (.ops [
⟨(some 4), .mov (.k (.bool false)), none⟩] [0, 1])
 (.seq (.seq (.ops [
⟨(some 7), .mov (.t 0), none⟩,
⟨(some 8), .len 0 (.t 7), none⟩,
⟨(some 9), .mov (.t 1), none⟩,
⟨(some 10), .len 0 (.t 9), none⟩,
⟨(some 11), .bin .gtr (.t 8) (.t 10), none⟩] [0, 1, 11])
 (.cond (.t 11) (.seq (.ops [
⟨(some 4), .mov (.k (.bool false)), none⟩] [4])
 .ret)
 .skip))
 (.seq (.seq (.ops [
⟨(some 12), .mov (.t 0), none⟩,
⟨(some 13), .len 0 (.t 12), none⟩,
⟨(some 14), .mov (.k (.int .i64 0)), none⟩] [1, 12, 13, 14])
 (.block 0 (.loop c_differ_Begins_L1)))
 (.seq (.ops [
⟨(some 4), .mov (.k (.bool true)), none⟩] [4])
 .ret)))), [.tmp 4]⟩
abbrev n_differ_Begins : Nat := 30
def c_differ_Halted : F := ⟨true, 1, (.seq (.ops [
⟨(some 1), .box (.t 0), none⟩,
⟨(some 2), .mov (.k (.bool false)), none⟩] [1])
 (.seq (.seq (.ops [
⟨(some 3), .faddr 1 (.t 1), none⟩,
⟨(some 4), .faddr 0 (.t 3), none⟩,
⟨(some 5), .load false 1 (.t 4), none⟩] [5])
 (.block 0 (.seq (.seq (.ops [
⟨(some 7), .bin .eql (.t 5) (.k (.int .i64 1)), none⟩,
⟨(some 6), .mov (.t 7), none⟩] [5, 6])
 (.cond (.t 6) .skip
 (.seq (.ops [
⟨(some 8), .bin .eql (.t 5) (.k (.int .i64 2)), none⟩,
⟨(some 6), .mov (.t 8), none⟩] [5, 6])
 (.cond (.t 6) .skip
 (.seq (.ops [
⟨(some 9), .bin .eql (.t 5) (.k (.int .i64 3)), none⟩,
⟨(some 6), .mov (.t 9), none⟩] [5, 6])
 (.cond (.t 6) .skip
 (.ops [
⟨(some 10), .bin .eql (.t 5) (.k (.int .i64 4)), none⟩,
⟨(some 6), .mov (.t 10), none⟩] [6])))))))
 (.cond (.t 6) (.seq (.ops [
⟨(some 2), .mov (.k (.bool true)), none⟩] [2])
 .ret)
 .skip))))
 (.seq (.ops [
⟨(some 2), .mov (.k (.bool false)), none⟩] [2])
 .ret))), [.tmp 2]⟩
abbrev n_differ_Halted : Nat := 32
def c_joineryref08_Fair : F := ⟨true, 2, (.seq (.ops [
⟨(some 3), .box (.t 1), none⟩,
⟨(some 4), .mov (.k (.bool false)), none⟩] [0, 3])
 (.seq (.ops [
⟨(some 5), .mov (.t 0), none⟩,
⟨(some 6), .call 14 [(.t 5)], none⟩,
⟨(some 7), .mov (.t 6), none⟩,
⟨(some 8), .load true 11 (.t 3), (some (7, true))⟩,
⟨(some 9), .call 68 [(.t 8)], (some (7, true))⟩,
⟨(some 10), .pick (.t 7) (.t 9) (.k (.bool false)), none⟩,
⟨(some 4), .mov (.t 10), none⟩] [4])
 .ret)), [.tmp 4]⟩
abbrev n_joineryref08_Fair : Nat := 34
def c_run_Begin_L0 : C := (.seq (.ops [
⟨(some 11), .bin .lss (.t 10) (.k (.int .i64 8)), none⟩] [1, 2, 3, 10, 11])
 (.seq (.cond (.t 11) .skip
 (.exit 0))
 (.seq (.block 1 (.seq (.ops [
⟨(some 12), .mov (.t 10), none⟩,
⟨(some 4), .mov (.t 12), none⟩] [1, 2, 3, 4, 10])
 (.ops [
⟨(some 13), .mov (.t 4), none⟩,
⟨(some 14), .mov (.t 4), none⟩,
⟨(some 15), .faddr 0 (.t 1), none⟩,
⟨(some 16), .iaddrA 8 1 (.t 15) (.t 14), none⟩,
⟨(some 17), .load false 1 (.t 16), none⟩,
⟨(some 18), .build [(.bool false), (.int .i64 0)] [(0, 1, (.k (.bool true))), (1, 1, (.t 17))], none⟩,
⟨(some 19), .faddr 0 (.t 3), none⟩,
⟨(some 20), .iaddrA 24 2 (.t 19) (.t 13), none⟩,
⟨none, .store 2 (.t 20) (.t 18), none⟩] [1, 2, 3, 10])))
 (.ops [
⟨(some 21), .bin .add (.t 10) (.k (.int .i64 1)), none⟩,
⟨(some 10), .mov (.t 21), none⟩] [1, 2, 3, 10]))))
def c_run_Begin : F := ⟨true, 1, (.seq (.ops [
⟨(some 1), .box (.t 0), none⟩,
⟨(some 2), .alloc [(.bool false), (.int .i64 0), (.bool false), (.int .i64 0), (.bool false), (.int .i64 0), (.bool false), (.int .i64 0), (.bool false), (.int .i64 0), (.bool false), (.int .i64 0), (.bool false), (.int .i64 0), (.bool false), (.int .i64 0), (.bool false), (.int .i64 0), (.bool false), (.int .i64 0), (.bool false), (.int .i64 0), (.bool false), (.int .i64 0), (.bool false), (.int .i64 0), (.bool false), (.int .i64 0), (.bool false), (.int .i64 0), (.bool false), (.int .i64 0), (.bool false), (.int .i64 0), (.bool false), (.int .i64 0), (.bool false), (.int .i64 0), (.bool false), (.int .i64 0), (.bool false), (.int .i64 0), (.bool false), (.int .i64 0), (.bool false), (.int .i64 0), (.bool false), (.int .i64 0), .nils, (.int .i64 0), (.int .i64 0)], none⟩] [1, 2])
 (.seq (.ops [
⟨(some 5), .lit 2 1 false [(.int .i64 0)] 0 [], none⟩,
⟨(some 6), .faddr 8 (.t 1), none⟩,
⟨(some 7), .load false 1 (.t 6), none⟩,
⟨(some 8), .append 2 1 8 false (.t 5) (.t 7), none⟩,
⟨(some 9), .build [(.bool false), (.int .i64 0), (.bool false), (.int .i64 0), (.bool false), (.int .i64 0), (.bool false), (.int .i64 0), (.bool false), (.int .i64 0), (.bool false), (.int .i64 0), (.bool false), (.int .i64 0), (.bool false), (.int .i64 0), (.bool false), (.int .i64 0), (.bool false), (.int .i64 0), (.bool false), (.int .i64 0), (.bool false), (.int .i64 0), (.bool false), (.int .i64 0), (.bool false), (.int .i64 0), (.bool false), (.int .i64 0), (.bool false), (.int .i64 0), (.bool false), (.int .i64 0), (.bool false), (.int .i64 0), (.bool false), (.int .i64 0), (.bool false), (.int .i64 0), (.bool false), (.int .i64 0), (.bool false), (.int .i64 0), (.bool false), (.int .i64 0), (.bool false), (.int .i64 0), .nils, (.int .i64 0), (.int .i64 0)] [(48, 1, (.t 8))], none⟩,
⟨(some 3), .alloc [(.bool false), (.int .i64 0), (.bool false), (.int .i64 0), (.bool false), (.int .i64 0), (.bool false), (.int .i64 0), (.bool false), (.int .i64 0), (.bool false), (.int .i64 0), (.bool false), (.int .i64 0), (.bool false), (.int .i64 0), (.bool false), (.int .i64 0), (.bool false), (.int .i64 0), (.bool false), (.int .i64 0), (.bool false), (.int .i64 0), (.bool false), (.int .i64 0), (.bool false), (.int .i64 0), (.bool false), (.int .i64 0), (.bool false), (.int .i64 0), (.bool false), (.int .i64 0), (.bool false), (.int .i64 0), (.bool false), (.int .i64 0), (.bool false), (.int .i64 0), (.bool false), (.int .i64 0), (.bool false), (.int .i64 0), (.bool false), (.int .i64 0), (.bool false), (.int .i64 0), .nils, (.int .i64 0), (.int .i64 0)], none⟩,
⟨none, .store 51 (.t 3) (.t 9), none⟩] [1, 2, 3])
 (.seq (.seq (.ops [
⟨(some 10), .mov (.k (.int .i64 0)), none⟩] [1, 2, 3, 10])
 (.block 0 (.loop c_run_Begin_L0)))
 (.seq (.ops [
⟨(some 22), .load true 51 (.t 3), none⟩,
⟨none, .store 51 (.t 2) (.t 22), none⟩] [2])
 .ret)))), [.cell 2 true 51]⟩
abbrev n_run_Begin : Nat := 39
def c_joineryref03_Moves : F := ⟨true, 1, (.seq (.ops [
⟨(some 1), .box (.t 0), none⟩,
⟨(some 2), .mov (.k (.bool false)), none⟩] [1])
 (.seq (.ops [
⟨(some 3), .faddr 0 (.t 1), none⟩,
⟨(some 4), .load false 1 (.t 3), none⟩,
⟨(some 5), .bin .geq (.t 4) (.k (.int .i64 1)), none⟩,
⟨(some 6), .mov (.t 5), none⟩,
⟨(some 7), .faddr 0 (.t 1), (some (6, true))⟩,
⟨(some 8), .load false 1 (.t 7), (some (6, true))⟩,
⟨(some 9), .bin .leq (.t 8) (.k (.int .i64 3)), (some (6, true))⟩,
⟨(some 10), .pick (.t 6) (.t 9) (.k (.bool false)), none⟩,
⟨(some 11), .mov (.t 10), none⟩,
⟨(some 12), .faddr 0 (.t 1), (some (11, false))⟩,
⟨(some 13), .load false 1 (.t 12), (some (11, false))⟩,
⟨(some 14), .bin .eql (.t 13) (.k (.int .i64 16)), (some (11, false))⟩,
⟨(some 15), .pick (.t 11) (.k (.bool true)) (.t 14), none⟩,
⟨(some 2), .mov (.t 15), none⟩] [2])
 .ret)), [.tmp 2]⟩
abbrev n_joineryref03_Moves : Nat := 40
def c_step_Do_D0 : List O := [
⟨(some 20), .load true 51 (.t 4), none⟩,
⟨(some 21), .call 74 [(.t 20)], none⟩,
⟨(some 22), .mov (.t 0), none⟩,
⟨(some 23), .faddr 49 (.t 4), none⟩,
⟨(some 24), .load false 1 (.t 23), none⟩,
⟨(some 25), .iaddr 6 (.t 22) (.t 24), none⟩,
⟨(some 26), .load true 6 (.t 25), none⟩,
⟨(some 27), .mov (.t 2), none⟩,
⟨(some 28), .build [(.bool false), (.int .i64 0), (.bool false), (.int .i64 0), (.bool false), (.int .i64 0), (.bool false), (.int .i64 0), (.bool false), (.int .i64 0), (.bool false), (.int .i64 0), (.bool false), (.int .i64 0), (.bool false), (.int .i64 0), (.bool false), (.int .i64 0), (.bool false), (.int .i64 0), (.bool false), (.int .i64 0), (.bool false), (.int .i64 0), (.bool false), (.int .i64 0), (.bool false), (.int .i64 0), (.bool false), (.int .i64 0), (.bool false), (.int .i64 0), (.bool false), (.int .i64 0), (.bool false), (.int .i64 0), (.bool false), (.int .i64 0), (.bool false), (.int .i64 0), (.bool false), (.int .i64 0), (.bool false), (.int .i64 0), (.bool false), (.int .i64 0), (.bool false), (.int .i64 0), .nils, (.int .i64 0), (.int .i64 0), (.int .i64 0), (.int .i64 0), (.int .i64 0), (.int .i64 0), (.int .i64 0), (.int .i64 0), .nils, .nils, (.int .i64 0), (.int .i64 0)] [(0, 51, (.t 21)), (51, 6, (.t 26)), (57, 1, (.t 27))], none⟩,
⟨(some 29), .box (.t 28), none⟩,
⟨(some 10), .mov (.t 29), none⟩]
def c_step_Do_L1 : C := (.seq (.ops [
⟨(some 37), .bin .lss (.t 36) (.t 35), none⟩] [4, 6, 8, 10, 34, 35, 36, 37])
 (.seq (.cond (.t 37) .skip
 (.exit 0))
 (.seq (.block 1 (.seq (.ops [
⟨(some 38), .iaddr 1 (.t 34) (.t 36), none⟩,
⟨(some 39), .load false 1 (.t 38), none⟩,
⟨(some 12), .mov (.t 39), none⟩] [4, 6, 8, 10, 12, 34, 35, 36])
 (.seq (.ops [
⟨(some 40), .mov (.t 12), none⟩,
⟨(some 41), .faddr 0 (.t 4), none⟩,
⟨(some 42), .iaddrA 24 2 (.t 41) (.t 40), none⟩,
⟨(some 43), .faddr 0 (.t 42), none⟩,
⟨(some 44), .load false 1 (.t 43), none⟩,
⟨(some 45), .un .not (.t 44), none⟩] [4, 6, 8, 10, 34, 35, 36, 45])
 (.cond (.t 45) (.seq (.ops [
⟨(some 46), .mov (.t 10), none⟩,
⟨(some 47), .nilck (.t 46), none⟩,
⟨(some 48), .faddr 0 (.t 47), none⟩,
⟨(some 49), .load true 51 (.t 48), none⟩,
⟨(some 50), .build [(.int .i64 0), (.int .i64 0), .nils] [(0, 1, (.k (.int .i64 2)))], none⟩,
⟨none, .store 51 (.t 6) (.t 49), none⟩,
⟨(some 7), .mov (.k .nils), none⟩,
⟨none, .store 3 (.t 8) (.t 50), none⟩,
⟨(some 9), .mov (.k (.int .i64 0)), none⟩] [6, 7, 8, 9])
 .ret)
 .skip))))
 (.ops [
⟨(some 51), .bin .add (.t 36) (.k (.int .i64 1)), none⟩,
⟨(some 36), .mov (.t 51), none⟩] [4, 6, 8, 10, 34, 35, 36]))))
def c_step_Do_D2 : List O := [
⟨(some 54), .mov (.t 10), none⟩,
⟨(some 55), .nilck (.t 54), none⟩,
⟨(some 56), .faddr 59 (.t 55), none⟩,
⟨(some 57), .load false 1 (.t 56), none⟩,
⟨(some 58), .mov (.t 10), none⟩,
⟨(some 59), .nilck (.t 58), none⟩,
⟨(some 60), .faddr 60 (.t 59), none⟩,
⟨(some 61), .load false 1 (.t 60), none⟩,
⟨(some 62), .build [(.int .i64 0), (.int .i64 0), .nils] [(0, 1, (.t 57)), (1, 1, (.t 61))], none⟩,
⟨(some 13), .alloc [(.int .i64 0), (.int .i64 0), .nils], none⟩,
⟨none, .store 3 (.t 13) (.t 62), none⟩]
def c_step_Do_D3 : List O := [
⟨(some 76), .mov (.t 10), none⟩,
⟨(some 77), .nilck (.t 76), none⟩,
⟨(some 78), .faddr 0 (.t 77), none⟩,
⟨(some 79), .load true 51 (.t 78), none⟩,
⟨(some 80), .mov (.t 10), none⟩,
⟨(some 81), .nilck (.t 80), none⟩,
⟨(some 82), .faddr 58 (.t 81), none⟩,
⟨(some 83), .load false 1 (.t 82), none⟩,
⟨(some 84), .load true 3 (.t 13), none⟩,
⟨none, .store 51 (.t 6) (.t 79), none⟩,
⟨(some 7), .mov (.t 83), none⟩,
⟨none, .store 3 (.t 8) (.t 84), none⟩,
⟨(some 9), .mov (.k (.int .i64 0)), none⟩]
def c_step_Do : F := ⟨true, 3, (.seq (.ops [
⟨(some 4), .box (.t 1), none⟩,
⟨(some 6), .alloc [(.bool false), (.int .i64 0), (.bool false), (.int .i64 0), (.bool false), (.int .i64 0), (.bool false), (.int .i64 0), (.bool false), (.int .i64 0), (.bool false), (.int .i64 0), (.bool false), (.int .i64 0), (.bool false), (.int .i64 0), (.bool false), (.int .i64 0), (.bool false), (.int .i64 0), (.bool false), (.int .i64 0), (.bool false), (.int .i64 0), (.bool false), (.int .i64 0), (.bool false), (.int .i64 0), (.bool false), (.int .i64 0), (.bool false), (.int .i64 0), (.bool false), (.int .i64 0), (.bool false), (.int .i64 0), (.bool false), (.int .i64 0), (.bool false), (.int .i64 0), (.bool false), (.int .i64 0), (.bool false), (.int .i64 0), (.bool false), (.int .i64 0), (.bool false), (.int .i64 0), .nils, (.int .i64 0), (.int .i64 0)], none⟩,
⟨(some 7), .mov (.k .nils), none⟩,
⟨(some 8), .alloc [(.int .i64 0), (.int .i64 0), .nils], none⟩,
⟨(some 9), .mov (.k (.int .i64 0)), none⟩] [0, 2, 4, 6, 8])
 (.seq (.seq (.ops [
⟨(some 14), .mov (.t 0), none⟩,
⟨(some 15), .load true 51 (.t 4), none⟩,
⟨(some 16), .call 73 [(.t 14), (.t 15)], none⟩,
⟨(some 17), .un .not (.t 16), none⟩] [0, 2, 4, 6, 8, 17])
 (.cond (.t 17) (.seq (.ops [
⟨(some 18), .build [(.bool false), (.int .i64 0), (.bool false), (.int .i64 0), (.bool false), (.int .i64 0), (.bool false), (.int .i64 0), (.bool false), (.int .i64 0), (.bool false), (.int .i64 0), (.bool false), (.int .i64 0), (.bool false), (.int .i64 0), (.bool false), (.int .i64 0), (.bool false), (.int .i64 0), (.bool false), (.int .i64 0), (.bool false), (.int .i64 0), (.bool false), (.int .i64 0), (.bool false), (.int .i64 0), (.bool false), (.int .i64 0), (.bool false), (.int .i64 0), (.bool false), (.int .i64 0), (.bool false), (.int .i64 0), (.bool false), (.int .i64 0), (.bool false), (.int .i64 0), (.bool false), (.int .i64 0), (.bool false), (.int .i64 0), (.bool false), (.int .i64 0), (.bool false), (.int .i64 0), .nils, (.int .i64 0), (.int .i64 0)] [], none⟩,
⟨(some 19), .build [(.int .i64 0), (.int .i64 0), .nils] [], none⟩,
⟨none, .store 51 (.t 6) (.t 18), none⟩,
⟨(some 7), .mov (.k .nils), none⟩,
⟨none, .store 3 (.t 8) (.t 19), none⟩,
⟨(some 9), .mov (.k (.int .i64 1)), none⟩] [6, 7, 8, 9])
 .ret)
 .skip))
 (.seq (.opsD c_step_Do_D0 [0, 1, 0, 0, 8, 28, 60, 0, 255, 511, 1023] [4, 6, 8, 10])
 (.seq (.seq (.ops [
⟨(some 30), .mov (.t 10), none⟩,
⟨(some 31), .nilck (.t 30), none⟩,
⟨(some 32), .faddr 51 (.t 31), none⟩,
⟨(some 33), .load true 6 (.t 32), none⟩,
⟨(some 34), .call 58 [(.t 33)], none⟩,
⟨(some 35), .len 0 (.t 34), none⟩,
⟨(some 36), .mov (.k (.int .i64 0)), none⟩] [4, 6, 8, 10, 34, 35, 36])
 (.block 0 (.loop c_step_Do_L1)))
 (.seq (.ops [
⟨(some 52), .mov (.t 10), none⟩,
⟨(some 53), .call 75 [(.t 52)], none⟩] [6, 8, 10])
 (.seq (.opsD c_step_Do_D2 [0, 1, 3, 7, 0, 16, 48, 112, 255, 0, 1023] [6, 8, 10, 13])
 (.seq (.seq (.ops [
⟨(some 63), .mov (.t 10), none⟩,
⟨(some 64), .nilck (.t 63), none⟩,
⟨(some 65), .faddr 59 (.t 64), none⟩,
⟨(some 66), .load false 1 (.t 65), none⟩,
⟨(some 67), .bin .eql (.t 66) (.k (.int .i64 1)), none⟩] [6, 8, 10, 13, 67])
 (.cond (.t 67) (.ops [
⟨(some 68), .lit 2 1 false [(.int .i64 0)] 0 [], none⟩,
⟨(some 69), .mov (.t 10), none⟩,
⟨(some 70), .nilck (.t 69), none⟩,
⟨(some 71), .faddr 0 (.t 70), none⟩,
⟨(some 72), .faddr 48 (.t 71), none⟩,
⟨(some 73), .load false 1 (.t 72), none⟩,
⟨(some 74), .append 2 1 8 false (.t 68) (.t 73), none⟩,
⟨(some 75), .faddr 2 (.t 13), none⟩,
⟨none, .store 1 (.t 75) (.t 74), none⟩] [6, 8, 10, 13])
 .skip))
 (.seq (.opsD c_step_Do_D3 [0, 1, 3, 7, 0, 16, 48, 112, 0, 15, 767, 2047, 4095] [6, 7, 8, 9])
 .ret)))))))), [.cell 6 true 51, .tmp 7, .cell 8 true 3, .tmp 9]⟩
abbrev n_step_Do : Nat := 41
def c_joineryref04_Check_L0 : C := (.seq (.seq (.ops [
⟨(some 13), .mov (.t 4), none⟩,
⟨(some 14), .mov (.t 0), none⟩,
⟨(some 15), .len 0 (.t 14), none⟩,
⟨(some 16), .bin .lss (.t 13) (.t 15), none⟩] [0, 4, 16])
 (.cond (.t 16) .skip
 (.exit 0)))
 (.seq (.block 1 (.seq (.ops [
⟨(some 19), .mov (.t 0), none⟩,
⟨(some 20), .mov (.t 4), none⟩,
⟨(some 21), .iaddr 6 (.t 19) (.t 20), none⟩,
⟨(some 22), .load true 6 (.t 21), none⟩,
⟨(some 23), .mov (.t 0), none⟩,
⟨(some 24), .len 0 (.t 23), none⟩,
⟨(some 25), .call 76 [(.t 22), (.t 24)], none⟩,
⟨(some 5), .mov (.t 25), none⟩] [0, 4, 5])
 (.seq (.ops [
⟨(some 26), .mov (.t 5), none⟩,
⟨(some 27), .bin .neq (.t 26) (.k (.int .i64 0)), none⟩] [0, 4, 5, 27])
 (.cond (.t 27) (.seq (.ops [
⟨(some 28), .mov (.t 4), none⟩,
⟨(some 29), .mov (.t 5), none⟩,
⟨(some 2), .mov (.t 28), none⟩,
⟨(some 3), .mov (.t 29), none⟩] [2, 3])
 .ret)
 .skip))))
 (.ops [
⟨(some 17), .mov (.t 4), none⟩,
⟨(some 18), .bin .add (.t 17) (.k (.int .i64 1)), none⟩,
⟨(some 4), .mov (.t 18), none⟩] [0, 4])))
def c_joineryref04_Check : F := ⟨true, 1, (.seq (.ops [
⟨(some 2), .mov (.k (.int .i64 0)), none⟩,
⟨(some 3), .mov (.k (.int .i64 0)), none⟩] [0])
 (.seq (.seq (.ops [
⟨(some 7), .mov (.t 0), none⟩,
⟨(some 8), .len 0 (.t 7), none⟩,
⟨(some 9), .bin .gtr (.t 8) (.k (.int .i64 200)), none⟩] [0, 9])
 (.cond (.t 9) (.seq (.ops [
⟨(some 2), .mov (.k (.int .i64 0)), none⟩,
⟨(some 3), .mov (.k (.int .i64 3)), none⟩] [2, 3])
 .ret)
 .skip))
 (.seq (.seq (.ops [
⟨(some 10), .mov (.t 0), none⟩,
⟨(some 11), .len 0 (.t 10), none⟩,
⟨(some 12), .bin .eql (.t 11) (.k (.int .i64 0)), none⟩] [0, 12])
 (.cond (.t 12) (.seq (.ops [
⟨(some 2), .mov (.k (.int .i64 0)), none⟩,
⟨(some 3), .mov (.k (.int .i64 5)), none⟩] [2, 3])
 .ret)
 .skip))
 (.seq (.seq (.ops [
⟨(some 4), .mov (.k (.int .i64 0)), none⟩] [0, 4])
 (.block 0 (.loop c_joineryref04_Check_L0)))
 (.seq (.ops [
⟨(some 30), .mov (.t 0), none⟩,
⟨(some 31), .mov (.t 0), none⟩,
⟨(some 32), .len 0 (.t 31), none⟩,
⟨(some 33), .bin .sub (.t 32) (.k (.int .i64 1)), none⟩,
⟨(some 34), .iaddr 6 (.t 30) (.t 33), none⟩,
⟨(some 35), .faddr 0 (.t 34), none⟩,
⟨(some 36), .load false 1 (.t 35), none⟩,
⟨(some 6), .mov (.t 36), none⟩] [0, 6])
 (.seq (.seq (.ops [
⟨(some 37), .mov (.t 6), none⟩,
⟨(some 38), .bin .eql (.t 37) (.k (.int .i64 16)), none⟩,
⟨(some 39), .mov (.t 38), none⟩,
⟨(some 40), .mov (.t 6), (some (39, false))⟩,
⟨(some 41), .bin .eql (.t 40) (.k (.int .i64 18)), (some (39, false))⟩,
⟨(some 42), .pick (.t 39) (.k (.bool true)) (.t 41), none⟩] [0, 42])
 (.cond (.t 42) (.seq (.ops [
⟨(some 2), .mov (.k (.int .i64 0)), none⟩,
⟨(some 3), .mov (.k (.int .i64 0)), none⟩] [2, 3])
 .ret)
 .skip))
 (.seq (.ops [
⟨(some 43), .mov (.t 0), none⟩,
⟨(some 44), .len 0 (.t 43), none⟩,
⟨(some 45), .bin .sub (.t 44) (.k (.int .i64 1)), none⟩,
⟨(some 2), .mov (.t 45), none⟩,
⟨(some 3), .mov (.k (.int .i64 5)), none⟩] [2, 3])
 .ret))))))), [.tmp 2, .tmp 3]⟩
abbrev n_joineryref04_Check : Nat := 42
def c_asm_Parse_D0 : List O := [
⟨(some 29), .load false 1 (.t 7), none⟩,
⟨(some 2), .mov (.k .nils), none⟩,
⟨(some 3), .mov (.t 29), none⟩,
⟨(some 4), .mov (.k (.int .i64 2)), none⟩]
def c_asm_Parse_L1 : C := (.seq (.ops [
⟨(some 19), .next (.t 18), none⟩,
⟨(some 20), .extract (.t 19) 0, none⟩] [1, 5, 6, 7, 8, 18, 19, 20])
 (.seq (.cond (.t 20) .skip
 (.exit 0))
 (.block 1 (.seq (.ops [
⟨(some 21), .extract (.t 19) 1, none⟩,
⟨(some 22), .extract (.t 19) 2, none⟩,
⟨(some 9), .mov (.t 21), none⟩,
⟨(some 10), .mov (.t 22), none⟩] [1, 5, 6, 7, 8, 9, 10, 18])
 (.seq (.seq (.ops [
⟨(some 23), .mov (.t 10), none⟩,
⟨(some 24), .bin .neq (.t 23) (.k (.int .i32 10)), none⟩] [1, 5, 6, 7, 8, 9, 18, 24])
 (.cond (.t 24) (.exit 1)
 .skip))
 (.seq (.seq (.ops [
⟨(some 25), .mov (.t 8), none⟩,
⟨(some 26), .mov (.t 9), none⟩,
⟨(some 27), .callv (.t 25) [(.t 26)], none⟩,
⟨(some 28), .un .not (.t 27), none⟩] [1, 5, 6, 7, 8, 9, 18, 28])
 (.cond (.t 28) (.seq (.opsD c_asm_Parse_D0 [0, 0, 3, 7] [2, 3, 4])
 .ret)
 .skip))
 (.ops [
⟨(some 30), .mov (.t 9), none⟩,
⟨(some 31), .bin .add (.t 30) (.k (.int .i64 1)), none⟩,
⟨none, .store 1 (.t 7) (.t 31), none⟩] [1, 5, 6, 7, 8, 18])))))))
def c_asm_Parse_D2 : List O := [
⟨(some 36), .load false 1 (.t 7), none⟩,
⟨(some 2), .mov (.k .nils), none⟩,
⟨(some 3), .mov (.t 36), none⟩,
⟨(some 4), .mov (.k (.int .i64 2)), none⟩]
def c_asm_Parse : F := ⟨true, 1, (.seq (.ops [
⟨(some 1), .box (.t 0), none⟩,
⟨(some 2), .mov (.k .nils), none⟩,
⟨(some 3), .mov (.k (.int .i64 0)), none⟩,
⟨(some 4), .mov (.k (.int .i64 0)), none⟩] [1])
 (.seq (.seq (.ops [
⟨(some 13), .load false 1 (.t 1), none⟩,
⟨(some 14), .len 1 (.t 13), none⟩,
⟨(some 15), .bin .gtr (.t 14) (.k (.int .i64 20000)), none⟩] [1, 15])
 (.cond (.t 15) (.seq (.ops [
⟨(some 2), .mov (.k .nils), none⟩,
⟨(some 3), .mov (.k (.int .i64 0)), none⟩,
⟨(some 4), .mov (.k (.int .i64 3)), none⟩] [2, 3, 4])
 .ret)
 .skip))
 (.seq (.ops [
⟨(some 5), .alloc [.nils], none⟩] [1, 5])
 (.seq (.ops [
⟨(some 6), .alloc [.nils], none⟩] [1, 5, 6])
 (.seq (.ops [
⟨(some 7), .alloc [(.int .i64 0)], none⟩,
⟨none, .store 1 (.t 7) (.k (.int .i64 0)), none⟩] [1, 5, 6, 7])
 (.seq (.ops [
⟨(some 16), .mkfn 77 [(.t 1), (.t 7), (.t 5), (.t 6)], none⟩,
⟨(some 8), .mov (.t 16), none⟩] [1, 5, 6, 7, 8])
 (.seq (.seq (.ops [
⟨(some 17), .load false 1 (.t 1), none⟩,
⟨(some 18), .range (.t 17), none⟩] [1, 5, 6, 7, 8, 18])
 (.block 0 (.loop c_asm_Parse_L1)))
 (.seq (.seq (.ops [
⟨(some 32), .load false 1 (.t 7), none⟩,
⟨(some 33), .load false 1 (.t 1), none⟩,
⟨(some 34), .len 1 (.t 33), none⟩,
⟨(some 35), .bin .lss (.t 32) (.t 34), none⟩] [5, 6, 7, 35])
 (.cond (.t 35) (.seq (.opsD c_asm_Parse_D2 [0, 0, 3, 7] [2, 3, 4])
 .ret)
 .skip))
 (.seq (.ops [
⟨(some 38), .load false 1 (.t 5), none⟩,
⟨(some 39), .call 79 [(.t 38)], none⟩,
⟨(some 37), .mov (.t 39), none⟩,
⟨(some 40), .extract (.t 37) 0, none⟩,
⟨(some 41), .extract (.t 37) 1, none⟩,
⟨(some 11), .mov (.t 40), none⟩,
⟨(some 12), .mov (.t 41), none⟩] [5, 6, 11, 12])
 (.seq (.seq (.ops [
⟨(some 42), .mov (.t 12), none⟩,
⟨(some 43), .bin .eql (.t 42) (.k (.int .i64 0)), none⟩] [5, 6, 11, 12, 43])
 (.cond (.t 43) (.seq (.ops [
⟨(some 44), .load false 1 (.t 5), none⟩,
⟨(some 2), .mov (.t 44), none⟩,
⟨(some 3), .mov (.k (.int .i64 0)), none⟩,
⟨(some 4), .mov (.k (.int .i64 0)), none⟩] [2, 3, 4])
 .ret)
 .skip))
 (.seq (.seq (.ops [
⟨(some 45), .mov (.t 11), none⟩,
⟨(some 46), .load false 1 (.t 6), none⟩,
⟨(some 47), .len 0 (.t 46), none⟩,
⟨(some 48), .bin .lss (.t 45) (.t 47), none⟩] [6, 11, 12, 48])
 (.cond (.t 48) (.ops [
⟨(some 49), .load false 1 (.t 6), none⟩,
⟨(some 50), .mov (.t 11), none⟩,
⟨(some 51), .iaddr 1 (.t 49) (.t 50), none⟩,
⟨(some 52), .load false 1 (.t 51), none⟩,
⟨(some 11), .mov (.t 52), none⟩] [11, 12])
 .skip))
 (.seq (.ops [
⟨(some 53), .mov (.t 11), none⟩,
⟨(some 54), .mov (.t 12), none⟩,
⟨(some 2), .mov (.k .nils), none⟩,
⟨(some 3), .mov (.t 53), none⟩,
⟨(some 4), .mov (.t 54), none⟩] [2, 3, 4])
 .ret)))))))))))), [.tmp 2, .tmp 3, .tmp 4]⟩
abbrev n_asm_Parse : Nat := 43
def c_asm_Right : F := ⟨true, 1, (.seq (.ops [
⟨(some 2), .mov (.k (.bool false)), none⟩] [0])
 (.seq (.ops [
⟨(some 6), .mov (.t 0), none⟩,
⟨(some 7), .call 79 [(.t 6)], none⟩,
⟨(some 5), .mov (.t 7), none⟩,
⟨(some 8), .extract (.t 5) 0, none⟩,
⟨(some 9), .extract (.t 5) 1, none⟩,
⟨(some 3), .mov (.t 8), none⟩,
⟨(some 4), .mov (.t 9), none⟩] [4])
 (.seq (.ops [
⟨(some 10), .mov (.t 4), none⟩,
⟨(some 11), .bin .eql (.t 10) (.k (.int .i64 0)), none⟩,
⟨(some 2), .mov (.t 11), none⟩] [2])
 .ret))), [.tmp 2]⟩
abbrev n_asm_Right : Nat := 45
def c_path_From_L0 : C := (.seq (.seq (.ops [
⟨(some 27), .mov (.t 8), none⟩,
⟨(some 28), .callv (.t 27) [], none⟩] [4, 6, 7, 8, 28])
 (.cond (.t 28) .skip
 (.exit 0)))
 (.block 1 .skip))
def c_path_From : F := ⟨true, 2, (.seq (.ops [
⟨(some 2), .box (.t 0), none⟩,
⟨(some 4), .alloc [(.int .i64 0), .nilI, .nilI, .nilI, .nilI, .nilI, .nilI, .nilI, .nilI, .nilI, .nilI, .nilI, .nilI, .nilI, .nilI, .nilI, .nilI, .nilI, .nilI, .nilI, .nilI, .nilI, .nilI, .nilI, .nilI, (.int .i64 0)], none⟩,
⟨(some 5), .mov (.k (.int .i64 0)), none⟩] [1, 2, 4])
 (.seq (.seq (.ops [
⟨(some 9), .load false 1 (.t 2), none⟩,
⟨(some 10), .call 45 [(.t 9)], none⟩,
⟨(some 11), .un .not (.t 10), none⟩,
⟨(some 12), .mov (.t 11), none⟩,
⟨(some 13), .mov (.t 1), (some (12, false))⟩,
⟨(some 14), .bin .lss (.t 13) (.k (.int .i64 0)), (some (12, false))⟩,
⟨(some 15), .pick (.t 12) (.k (.bool true)) (.t 14), none⟩,
⟨(some 16), .mov (.t 15), none⟩,
⟨(some 17), .mov (.t 1), (some (16, false))⟩,
⟨(some 18), .load false 1 (.t 2), (some (16, false))⟩,
⟨(some 19), .len 0 (.t 18), (some (16, false))⟩,
⟨(some 20), .bin .geq (.t 17) (.t 19), (some (16, false))⟩,
⟨(some 21), .pick (.t 16) (.k (.bool true)) (.t 20), none⟩] [1, 2, 4, 21])
 (.cond (.t 21) (.seq (.ops [
⟨(some 22), .build [(.int .i64 0), .nilI, .nilI, .nilI, .nilI, .nilI, .nilI, .nilI, .nilI, .nilI, .nilI, .nilI, .nilI, .nilI, .nilI, .nilI, .nilI, .nilI, .nilI, .nilI, .nilI, .nilI, .nilI, .nilI, .nilI, (.int .i64 0)] [], none⟩,
⟨none, .store 26 (.t 4) (.t 22), none⟩,
⟨(some 5), .mov (.k (.int .i64 1)), none⟩] [4, 5])
 .ret)
 .skip))
 (.seq (.ops [
⟨(some 6), .alloc [(.bool false), (.bool false), (.bool false), (.bool false), (.bool false), (.bool false), (.bool false), (.bool false), (.bool false), (.bool false), (.bool false), (.bool false), (.bool false), (.bool false), (.bool false), (.bool false), (.bool false), (.bool false), (.bool false), (.bool false), (.bool false), (.bool false), (.bool false), (.bool false), (.bool false), (.bool false), (.bool false), (.bool false), (.bool false), (.bool false), (.bool false), (.bool false), (.bool false), (.bool false), (.bool false), (.bool false), (.bool false), (.bool false), (.bool false), (.bool false), (.bool false), (.bool false), (.bool false), (.bool false), (.bool false), (.bool false), (.bool false), (.bool false), (.bool false), (.bool false), (.bool false), (.bool false), (.bool false), (.bool false), (.bool false), (.bool false), (.bool false), (.bool false), (.bool false), (.bool false), (.bool false), (.bool false), (.bool false), (.bool false), (.bool false), (.bool false), (.bool false), (.bool false), (.bool false), (.bool false), (.bool false), (.bool false), (.bool false), (.bool false), (.bool false), (.bool false), (.bool false), (.bool false), (.bool false), (.bool false), (.bool false), (.bool false), (.bool false), (.bool false), (.bool false), (.bool false), (.bool false), (.bool false), (.bool false), (.bool false), (.bool false), (.bool false), (.bool false), (.bool false), (.bool false), (.bool false), (.bool false), (.bool false), (.bool false), (.bool false), (.bool false), (.bool false), (.bool false), (.bool false), (.bool false), (.bool false), (.bool false), (.bool false), (.bool false), (.bool false), (.bool false), (.bool false), (.bool false), (.bool false), (.bool false), (.bool false), (.bool false), (.bool false), (.bool false), (.bool false), (.bool false), (.bool false), (.bool false), (.bool false), (.bool false), (.bool false), (.bool false), (.bool false), (.bool false), (.bool false), (.bool false), (.bool false), (.bool false), (.bool false), (.bool false), (.bool false), (.bool false), (.bool false), (.bool false), (.bool false), (.bool false), (.bool false), (.bool false), (.bool false), (.bool false), (.bool false), (.bool false), (.bool false), (.bool false), (.bool false), (.bool false), (.bool false), (.bool false), (.bool false), (.bool false), (.bool false), (.bool false), (.bool false), (.bool false), (.bool false), (.bool false), (.bool false), (.bool false), (.bool false), (.bool false), (.bool false), (.bool false), (.bool false), (.bool false), (.bool false), (.bool false), (.bool false), (.bool false), (.bool false), (.bool false), (.bool false), (.bool false), (.bool false), (.bool false), (.bool false), (.bool false), (.bool false), (.bool false), (.bool false), (.bool false), (.bool false), (.bool false), (.bool false), (.bool false), (.bool false), (.bool false), (.bool false), (.bool false), (.bool false), (.bool false), (.bool false), (.bool false), (.bool false), (.bool false), (.bool false)], none⟩] [1, 2, 4, 6])
 (.seq (.ops [
⟨(some 23), .mov (.t 1), none⟩,
⟨(some 24), .call 82 [], none⟩,
⟨(some 25), .build [(.int .i64 0), .nilI, .nilI, .nilI, .nilI, .nilI, .nilI, .nilI, .nilI, .nilI, .nilI, .nilI, .nilI, .nilI, .nilI, .nilI, .nilI, .nilI, .nilI, .nilI, .nilI, .nilI, .nilI, .nilI, .nilI, (.int .i64 0)] [(0, 1, (.t 23)), (1, 24, (.t 24))], none⟩,
⟨(some 7), .alloc [(.int .i64 0), .nilI, .nilI, .nilI, .nilI, .nilI, .nilI, .nilI, .nilI, .nilI, .nilI, .nilI, .nilI, .nilI, .nilI, .nilI, .nilI, .nilI, .nilI, .nilI, .nilI, .nilI, .nilI, .nilI, .nilI, (.int .i64 0)], none⟩,
⟨none, .store 26 (.t 7) (.t 25), none⟩] [2, 4, 6, 7])
 (.seq (.ops [
⟨(some 26), .mkfn 83 [(.t 2), (.t 7), (.t 6)], none⟩,
⟨(some 8), .mov (.t 26), none⟩] [4, 6, 7, 8])
 (.seq (.block 0 (.loop c_path_From_L0))
 (.seq (.seq (.ops [
⟨(some 29), .faddr 0 (.t 7), none⟩,
⟨(some 30), .load false 1 (.t 29), none⟩,
⟨(some 31), .iaddrA 200 1 (.t 6) (.t 30), none⟩,
⟨(some 32), .load false 1 (.t 31), none⟩] [4, 7, 32])
 (.cond (.t 32) (.seq (.ops [
⟨(some 33), .call 82 [], none⟩,
⟨(some 34), .build [(.int .i64 0), .nilI, .nilI, .nilI, .nilI, .nilI, .nilI, .nilI, .nilI, .nilI, .nilI, .nilI, .nilI, .nilI, .nilI, .nilI, .nilI, .nilI, .nilI, .nilI, .nilI, .nilI, .nilI, .nilI, .nilI, (.int .i64 0)] [(0, 1, (.k (.int .i64 (-1)))), (1, 24, (.t 33))], none⟩,
⟨none, .store 26 (.t 4) (.t 34), none⟩,
⟨(some 5), .mov (.k (.int .i64 0)), none⟩] [4, 5])
 .ret)
 .skip))
 (.seq (.ops [
⟨(some 35), .load true 26 (.t 7), none⟩,
⟨none, .store 26 (.t 4) (.t 35), none⟩,
⟨(some 5), .mov (.k (.int .i64 0)), none⟩] [4, 5])
 .ret)))))))), [.cell 4 true 26, .tmp 5]⟩
abbrev n_path_From : Nat := 47
def c_ins_Uses_L0 : C := (.seq (.ops [
⟨(some 23), .next (.t 22), none⟩,
⟨(some 24), .extract (.t 23) 0, none⟩] [1, 5, 22, 23, 24])
 (.seq (.cond (.t 24) .skip
 (.exit 0))
 (.block 1 (.seq (.ops [
⟨(some 25), .extract (.t 23) 2, none⟩,
⟨(some 7), .mov (.t 25), none⟩] [1, 5, 7, 22])
 (.seq (.ops [
⟨(some 26), .mov (.t 7), none⟩,
⟨(some 27), .bin .eql (.t 26) (.k (.int .i32 65)), none⟩,
⟨(some 28), .mov (.t 27), none⟩,
⟨(some 29), .mov (.t 7), (some (28, false))⟩,
⟨(some 30), .bin .eql (.t 29) (.k (.int .i32 66)), (some (28, false))⟩,
⟨(some 31), .pick (.t 28) (.k (.bool true)) (.t 30), none⟩] [1, 5, 7, 22, 31])
 (.cond (.t 31) (.ops [
⟨(some 32), .mov (.t 5), none⟩,
⟨(some 33), .mov (.t 7), none⟩,
⟨(some 34), .call 92 [(.t 1), (.t 33)], none⟩,
⟨(some 35), .nilck (.t 34), none⟩,
⟨(some 36), .load false 1 (.t 35), none⟩,
⟨(some 37), .lit 3 1 false [(.int .i64 0)] 1 [(0, (.t 36))], none⟩,
⟨(some 38), .append 3 1 8 false (.t 32) (.t 37), none⟩,
⟨(some 5), .mov (.t 38), none⟩] [1, 5, 22])
 .skip))))))
def c_ins_Uses : F := ⟨true, 1, (.seq (.ops [
⟨(some 1), .box (.t 0), none⟩,
⟨(some 2), .mov (.k .nils), none⟩] [1])
 (.seq (.ops [
⟨(some 9), .faddr 0 (.t 1), none⟩,
⟨(some 10), .load false 1 (.t 9), none⟩,
⟨(some 11), .call 91 [(.t 10)], none⟩,
⟨(some 8), .mov (.t 11), none⟩,
⟨(some 12), .extract (.t 8) 0, none⟩,
⟨(some 13), .extract (.t 8) 1, none⟩,
⟨(some 3), .alloc [(.str []), (.str [])], none⟩,
⟨none, .store 2 (.t 3) (.t 12), none⟩,
⟨(some 4), .mov (.t 13), none⟩] [1, 3, 4])
 (.seq (.seq (.ops [
⟨(some 14), .mov (.t 4), none⟩,
⟨(some 15), .un .not (.t 14), none⟩,
⟨(some 16), .mov (.t 15), none⟩,
⟨(some 17), .load true 6 (.t 1), (some (16, false))⟩,
⟨(some 18), .call 84 [(.t 17)], (some (16, false))⟩,
⟨(some 19), .pick (.t 16) (.k (.bool true)) (.t 18), none⟩] [1, 3, 19])
 (.cond (.t 19) (.seq (.ops [
⟨(some 2), .mov (.k .nils), none⟩] [2])
 .ret)
 .skip))
 (.seq (.ops [
⟨(some 5), .ownnil 3 1 false, none⟩] [1, 3, 5])
 (.seq (.seq (.ops [
⟨(some 20), .faddr 1 (.t 3), none⟩,
⟨(some 21), .load false 1 (.t 20), none⟩,
⟨(some 22), .range (.t 21), none⟩] [1, 5, 22])
 (.block 0 (.loop c_ins_Uses_L0)))
 (.seq (.ops [
⟨(some 39), .mov (.t 5), none⟩,
⟨(some 2), .mov (.t 39), none⟩] [2])
 .ret)))))), [.tmp 2]⟩
abbrev n_ins_Uses : Nat := 58
def c_joinerylaw08_Great : F := ⟨true, 2, (.seq (.ops [
⟨(some 3), .box (.t 1), none⟩,
⟨(some 4), .mov (.k (.bool false)), none⟩] [0, 3])
 (.seq (.ops [
⟨(some 5), .mov (.t 0), none⟩,
⟨(some 6), .len 0 (.t 5), none⟩,
⟨(some 7), .bin .gtr (.t 6) (.k (.int .i64 300)), none⟩,
⟨(some 8), .mov (.t 7), none⟩,
⟨(some 9), .faddr 8 (.t 3), (some (8, false))⟩,
⟨(some 10), .load false 1 (.t 9), (some (8, false))⟩,
⟨(some 11), .len 0 (.t 10), (some (8, false))⟩,
⟨(some 12), .bin .gtr (.t 11) (.k (.int .i64 100)), (some (8, false))⟩,
⟨(some 13), .pick (.t 8) (.k (.bool true)) (.t 12), none⟩,
⟨(some 14), .mov (.t 13), none⟩,
⟨(some 15), .faddr 9 (.t 3), (some (14, false))⟩,
⟨(some 16), .load false 1 (.t 15), (some (14, false))⟩,
⟨(some 17), .len 0 (.t 16), (some (14, false))⟩,
⟨(some 18), .bin .gtr (.t 17) (.k (.int .i64 1000)), (some (14, false))⟩,
⟨(some 19), .pick (.t 14) (.k (.bool true)) (.t 18), none⟩,
⟨(some 20), .mov (.t 19), none⟩,
⟨(some 21), .faddr 10 (.t 3), (some (20, false))⟩,
⟨(some 22), .load false 1 (.t 21), (some (20, false))⟩,
⟨(some 23), .bin .gtr (.t 22) (.k (.int .i64 1000)), (some (20, false))⟩,
⟨(some 24), .mov (.t 23), (some (20, false))⟩,
⟨(some 25), .faddr 10 (.t 3), (some (24, true))⟩,
⟨(some 26), .load false 1 (.t 25), (some (24, true))⟩,
⟨(some 27), .bin .leq (.t 26) (.k (.int .i64 5000)), (some (24, true))⟩,
⟨(some 28), .pick (.t 24) (.t 27) (.k (.bool false)), (some (20, false))⟩,
⟨(some 29), .pick (.t 20) (.k (.bool true)) (.t 28), none⟩,
⟨(some 4), .mov (.t 29), none⟩] [4])
 .ret)), [.tmp 4]⟩
abbrev n_joinerylaw08_Great : Nat := 61
def c_differ_of : F := ⟨true, 2, (.seq (.ops [
⟨(some 3), .box (.t 1), none⟩,
⟨(some 4), .alloc [.nils, (.int .i64 0), (.int .i64 0), .nils, (.int .i64 0), (.int .i64 0), (.bool false)], none⟩,
⟨(some 5), .mov (.k (.int .i64 0)), none⟩] [0, 3, 4])
 (.seq (.ops [
⟨(some 12), .mov (.t 0), none⟩,
⟨(some 13), .load true 11 (.t 3), none⟩,
⟨(some 14), .call 93 [(.t 12), (.t 13)], none⟩,
⟨(some 11), .mov (.t 14), none⟩,
⟨(some 15), .extract (.t 11) 0, none⟩,
⟨(some 16), .extract (.t 11) 1, none⟩,
⟨(some 17), .extract (.t 11) 2, none⟩,
⟨(some 6), .alloc [.nils, (.int .i64 0), (.int .i64 0), .nils, (.int .i64 0), (.int .i64 0)], none⟩,
⟨(some 7), .alloc [(.bool false), (.int .i64 0), (.bool false), (.int .i64 0), (.bool false), (.int .i64 0), (.bool false), (.int .i64 0), (.bool false), (.int .i64 0), (.bool false), (.int .i64 0), (.bool false), (.int .i64 0), (.bool false), (.int .i64 0), (.bool false), (.int .i64 0), (.bool false), (.int .i64 0), (.bool false), (.int .i64 0), (.bool false), (.int .i64 0), (.bool false), (.int .i64 0), (.bool false), (.int .i64 0), (.bool false), (.int .i64 0), (.bool false), (.int .i64 0), (.bool false), (.int .i64 0), (.bool false), (.int .i64 0), (.bool false), (.int .i64 0), (.bool false), (.int .i64 0), (.bool false), (.int .i64 0), (.bool false), (.int .i64 0), (.bool false), (.int .i64 0), (.bool false), (.int .i64 0), .nils, (.int .i64 0), (.int .i64 0)], none⟩,
⟨none, .store 6 (.t 6) (.t 15), none⟩,
⟨none, .store 51 (.t 7) (.t 16), none⟩,
⟨(some 8), .mov (.t 17), none⟩] [0, 4, 6, 7, 8])
 (.seq (.seq (.ops [
⟨(some 18), .mov (.t 8), none⟩,
⟨(some 19), .bin .neq (.t 18) (.k (.int .i64 0)), none⟩] [0, 4, 6, 7, 8, 19])
 (.cond (.t 19) (.seq (.ops [
⟨(some 20), .build [.nils, (.int .i64 0), (.int .i64 0), .nils, (.int .i64 0), (.int .i64 0), (.bool false)] [], none⟩,
⟨(some 21), .mov (.t 8), none⟩,
⟨none, .store 7 (.t 4) (.t 20), none⟩,
⟨(some 5), .mov (.t 21), none⟩] [4, 5])
 .ret)
 .skip))
 (.seq (.ops [
⟨(some 23), .mov (.t 0), none⟩,
⟨(some 24), .faddr 49 (.t 7), none⟩,
⟨(some 25), .load false 1 (.t 24), none⟩,
⟨(some 26), .call 47 [(.t 23), (.t 25)], none⟩,
⟨(some 22), .mov (.t 26), none⟩,
⟨(some 27), .extract (.t 22) 0, none⟩,
⟨(some 28), .extract (.t 22) 1, none⟩,
⟨(some 9), .alloc [(.int .i64 0), .nilI, .nilI, .nilI, .nilI, .nilI, .nilI, .nilI, .nilI, .nilI, .nilI, .nilI, .nilI, .nilI, .nilI, .nilI, .nilI, .nilI, .nilI, .nilI, .nilI, .nilI, .nilI, .nilI, .nilI, (.int .i64 0)], none⟩,
⟨none, .store 26 (.t 9) (.t 27), none⟩,
⟨(some 10), .mov (.t 28), none⟩] [4, 6, 9])
 (.seq (.ops [
⟨(some 29), .load true 6 (.t 6), none⟩,
⟨(some 30), .faddr 1 (.t 6), none⟩,
⟨(some 31), .faddr 0 (.t 30), none⟩,
⟨(some 32), .load false 1 (.t 31), none⟩,
⟨(some 33), .bin .eql (.t 32) (.k (.int .i64 0)), none⟩,
⟨(some 34), .mov (.t 33), none⟩,
⟨(some 35), .faddr 0 (.t 9), (some (34, true))⟩,
⟨(some 36), .load false 1 (.t 35), (some (34, true))⟩,
⟨(some 37), .bin .lss (.t 36) (.k (.int .i64 0)), (some (34, true))⟩,
⟨(some 38), .pick (.t 34) (.t 37) (.k (.bool false)), none⟩,
⟨(some 39), .build [.nils, (.int .i64 0), (.int .i64 0), .nils, (.int .i64 0), (.int .i64 0), (.bool false)] [(0, 6, (.t 29)), (6, 1, (.t 38))], none⟩,
⟨none, .store 7 (.t 4) (.t 39), none⟩,
⟨(some 5), .mov (.k (.int .i64 0)), none⟩] [4, 5])
 .ret))))), [.cell 4 true 7, .tmp 5]⟩
abbrev n_differ_of : Nat := 62
def c_differ_either : F := ⟨true, 3, (.seq (.ops [
⟨(some 3), .box (.t 0), none⟩,
⟨(some 4), .box (.t 1), none⟩,
⟨(some 6), .mov (.k (.bool false)), none⟩] [2, 3, 4])
 (.seq (.ops [
⟨(some 7), .mov (.t 2), none⟩,
⟨(some 8), .load true 7 (.t 3), none⟩,
⟨(some 9), .load true 7 (.t 4), none⟩,
⟨(some 10), .callv (.t 7) [(.t 8), (.t 9)], none⟩,
⟨(some 11), .mov (.t 10), none⟩,
⟨(some 12), .mov (.t 2), (some (11, false))⟩,
⟨(some 13), .load true 7 (.t 4), (some (11, false))⟩,
⟨(some 14), .load true 7 (.t 3), (some (11, false))⟩,
⟨(some 15), .callv (.t 12) [(.t 13), (.t 14)], (some (11, false))⟩,
⟨(some 16), .pick (.t 11) (.k (.bool true)) (.t 15), none⟩,
⟨(some 6), .mov (.t 16), none⟩] [6])
 .ret)), [.tmp 6]⟩
abbrev n_differ_either : Nat := 63
def c_differ_Tell_1 : F := ⟨true, 2, (.seq (.ops [
⟨(some 2), .box (.t 0), none⟩,
⟨(some 3), .box (.t 1), none⟩,
⟨(some 4), .mov (.k (.bool false)), none⟩] [2, 3])
 (.seq (.ops [
⟨(some 5), .faddr 0 (.t 2), none⟩,
⟨(some 6), .faddr 0 (.t 5), none⟩,
⟨(some 7), .load false 1 (.t 6), none⟩,
⟨(some 8), .faddr 0 (.t 3), none⟩,
⟨(some 9), .faddr 0 (.t 8), none⟩,
⟨(some 10), .load false 1 (.t 9), none⟩,
⟨(some 11), .call 30 [(.t 7), (.t 10)], none⟩,
⟨(some 4), .mov (.t 11), none⟩] [4])
 .ret)), [.tmp 4]⟩
abbrev n_differ_Tell_1 : Nat := 64
def c_differ_Tell_2 : F := ⟨true, 2, (.seq (.ops [
⟨(some 2), .box (.t 0), none⟩,
⟨(some 3), .box (.t 1), none⟩,
⟨(some 4), .mov (.k (.bool false)), none⟩] [2, 3])
 (.seq (.ops [
⟨(some 5), .faddr 0 (.t 2), none⟩,
⟨(some 6), .load true 6 (.t 5), none⟩,
⟨(some 7), .call 32 [(.t 6)], none⟩,
⟨(some 8), .mov (.t 7), none⟩,
⟨(some 9), .faddr 0 (.t 3), (some (8, true))⟩,
⟨(some 10), .faddr 0 (.t 9), (some (8, true))⟩,
⟨(some 11), .load false 1 (.t 10), (some (8, true))⟩,
⟨(some 12), .faddr 0 (.t 2), (some (8, true))⟩,
⟨(some 13), .faddr 0 (.t 12), (some (8, true))⟩,
⟨(some 14), .load false 1 (.t 13), (some (8, true))⟩,
⟨(some 15), .call 30 [(.t 11), (.t 14)], (some (8, true))⟩,
⟨(some 16), .un .not (.t 15), (some (8, true))⟩,
⟨(some 17), .pick (.t 8) (.t 16) (.k (.bool false)), none⟩,
⟨(some 4), .mov (.t 17), none⟩] [4])
 .ret)), [.tmp 4]⟩
abbrev n_differ_Tell_2 : Nat := 65
def c_heap_Same_D0 : List O := [
⟨(some 16), .mov (.t 0), none⟩,
⟨(some 17), .mov (.t 5), none⟩,
⟨(some 18), .iaddr 1 (.t 16) (.t 17), none⟩,
⟨(some 19), .load false 1 (.t 18), none⟩,
⟨(some 20), .mov (.t 1), none⟩,
⟨(some 21), .mov (.t 5), none⟩,
⟨(some 22), .iaddr 1 (.t 20) (.t 21), none⟩,
⟨(some 23), .load false 1 (.t 22), none⟩,
⟨(some 24), .bin .neq (.t 19) (.t 23), none⟩]
def c_heap_Same_L1 : C := (.seq (.ops [
⟨(some 14), .bin .lss (.t 13) (.t 12), none⟩] [0, 1, 12, 13, 14])
 (.seq (.cond (.t 14) .skip
 (.exit 0))
 (.seq (.block 1 (.seq (.ops [
⟨(some 15), .mov (.t 13), none⟩,
⟨(some 5), .mov (.t 15), none⟩] [0, 1, 5, 12, 13])
 (.seq (.opsD c_heap_Same_D0 [0, 0, 3, 7, 0, 0, 48, 112, 255] [0, 1, 12, 13, 24])
 (.cond (.t 24) (.seq (.ops [
⟨(some 4), .mov (.k (.bool false)), none⟩] [4])
 .ret)
 .skip))))
 (.ops [
⟨(some 25), .bin .add (.t 13) (.k (.int .i64 1)), none⟩,
⟨(some 13), .mov (.t 25), none⟩] [0, 1, 12, 13]))))
def c_heap_Same : F := ⟨true, 2, (.seq (.ops [
⟨(some 4), .mov (.k (.bool false)), none⟩] [0, 1])
 (.seq (.seq (.ops [
⟨(some 6), .mov (.t 0), none⟩,
⟨(some 7), .len 0 (.t 6), none⟩,
⟨(some 8), .mov (.t 1), none⟩,
⟨(some 9), .len 0 (.t 8), none⟩,
⟨(some 10), .bin .neq (.t 7) (.t 9), none⟩] [0, 1, 10])
 (.cond (.t 10) (.seq (.ops [
⟨(some 4), .mov (.k (.bool false)), none⟩] [4])
 .ret)
 .skip))
 (.seq (.seq (.ops [
⟨(some 11), .mov (.t 0), none⟩,
⟨(some 12), .len 0 (.t 11), none⟩,
⟨(some 13), .mov (.k (.int .i64 0)), none⟩] [0, 1, 12, 13])
 (.block 0 (.loop c_heap_Same_L1)))
 (.seq (.ops [
⟨(some 4), .mov (.k (.bool true)), none⟩] [4])
 .ret)))), [.tmp 4]⟩
abbrev n_heap_Same : Nat := 66
def c_differ_Tell_3 : F := ⟨true, 2, (.seq (.ops [
⟨(some 2), .box (.t 0), none⟩,
⟨(some 3), .box (.t 1), none⟩,
⟨(some 4), .mov (.k (.bool false)), none⟩] [2, 3])
 (.seq (.ops [
⟨(some 5), .faddr 0 (.t 2), none⟩,
⟨(some 6), .load true 6 (.t 5), none⟩,
⟨(some 7), .call 32 [(.t 6)], none⟩,
⟨(some 8), .mov (.t 7), none⟩,
⟨(some 9), .faddr 6 (.t 3), (some (8, true))⟩,
⟨(some 10), .load false 1 (.t 9), (some (8, true))⟩,
⟨(some 11), .pick (.t 8) (.t 10) (.k (.bool false)), none⟩,
⟨(some 4), .mov (.t 11), none⟩] [4])
 .ret)), [.tmp 4]⟩
abbrev n_differ_Tell_3 : Nat := 67
def c_joineryref08_Right : F := ⟨true, 1, (.seq (.ops [
⟨(some 1), .box (.t 0), none⟩,
⟨(some 2), .mov (.k (.bool false)), none⟩] [1])
 (.seq (.ops [
⟨(some 3), .faddr 8 (.t 1), none⟩,
⟨(some 4), .load false 1 (.t 3), none⟩,
⟨(some 5), .len 0 (.t 4), none⟩,
⟨(some 6), .bin .leq (.t 5) (.k (.int .i64 16)), none⟩,
⟨(some 7), .mov (.t 6), none⟩,
⟨(some 8), .faddr 9 (.t 1), (some (7, true))⟩,
⟨(some 9), .load false 1 (.t 8), (some (7, true))⟩,
⟨(some 10), .len 0 (.t 9), (some (7, true))⟩,
⟨(some 11), .bin .leq (.t 10) (.k (.int .i64 5000)), (some (7, true))⟩,
⟨(some 12), .pick (.t 7) (.t 11) (.k (.bool false)), none⟩,
⟨(some 13), .mov (.t 12), none⟩,
⟨(some 14), .faddr 10 (.t 1), (some (13, true))⟩,
⟨(some 15), .load false 1 (.t 14), (some (13, true))⟩,
⟨(some 16), .bin .geq (.t 15) (.k (.int .i64 0)), (some (13, true))⟩,
⟨(some 17), .pick (.t 13) (.t 16) (.k (.bool false)), none⟩,
⟨(some 18), .mov (.t 17), none⟩,
⟨(some 19), .faddr 10 (.t 1), (some (18, true))⟩,
⟨(some 20), .load false 1 (.t 19), (some (18, true))⟩,
⟨(some 21), .bin .leq (.t 20) (.k (.int .i64 5000)), (some (18, true))⟩,
⟨(some 22), .pick (.t 18) (.t 21) (.k (.bool false)), none⟩,
⟨(some 2), .mov (.t 22), none⟩] [2])
 .ret)), [.tmp 2]⟩
abbrev n_joineryref08_Right : Nat := 68
def c_step_Right_L0 : C := (.seq (.ops [
⟨(some 36), .bin .lss (.t 35) (.k (.int .i64 24)), none⟩] [34, 35, 36])
 (.seq (.cond (.t 36) .skip
 (.exit 0))
 (.seq (.block 1 (.seq (.ops [
⟨(some 37), .idxA true 24 2 (.t 34) (.t 35), none⟩,
⟨(some 6), .alloc [(.bool false), (.int .i64 0)], none⟩,
⟨none, .store 2 (.t 6) (.t 37), none⟩] [6, 34, 35])
 (.seq (.ops [
⟨(some 38), .faddr 0 (.t 6), none⟩,
⟨(some 39), .load false 1 (.t 38), none⟩,
⟨(some 40), .un .not (.t 39), none⟩,
⟨(some 41), .mov (.t 40), none⟩,
⟨(some 42), .faddr 1 (.t 6), (some (41, true))⟩,
⟨(some 43), .load false 1 (.t 42), (some (41, true))⟩,
⟨(some 44), .bin .neq (.t 43) (.k (.int .i64 0)), (some (41, true))⟩,
⟨(some 45), .pick (.t 41) (.t 44) (.k (.bool false)), none⟩] [34, 35, 45])
 (.cond (.t 45) (.seq (.ops [
⟨(some 4), .mov (.k (.bool false)), none⟩] [4])
 .ret)
 .skip))))
 (.ops [
⟨(some 46), .bin .add (.t 35) (.k (.int .i64 1)), none⟩,
⟨(some 35), .mov (.t 46), none⟩] [34, 35]))))
def c_step_Right : F := ⟨true, 2, (.seq (.ops [
⟨(some 3), .box (.t 1), none⟩,
⟨(some 4), .mov (.k (.bool false)), none⟩] [0, 3])
 (.seq (.seq (.ops [
⟨(some 7), .mov (.t 0), none⟩,
⟨(some 8), .call 45 [(.t 7)], none⟩,
⟨(some 9), .un .not (.t 8), none⟩,
⟨(some 10), .mov (.t 9), none⟩,
⟨(some 11), .faddr 49 (.t 3), (some (10, false))⟩,
⟨(some 12), .load false 1 (.t 11), (some (10, false))⟩,
⟨(some 13), .bin .lss (.t 12) (.k (.int .i64 0)), (some (10, false))⟩,
⟨(some 14), .pick (.t 10) (.k (.bool true)) (.t 13), none⟩,
⟨(some 15), .mov (.t 14), none⟩,
⟨(some 16), .faddr 49 (.t 3), (some (15, false))⟩,
⟨(some 17), .load false 1 (.t 16), (some (15, false))⟩,
⟨(some 18), .mov (.t 0), (some (15, false))⟩,
⟨(some 19), .len 0 (.t 18), (some (15, false))⟩,
⟨(some 20), .bin .geq (.t 17) (.t 19), (some (15, false))⟩,
⟨(some 21), .pick (.t 15) (.k (.bool true)) (.t 20), none⟩,
⟨(some 22), .mov (.t 21), none⟩,
⟨(some 23), .faddr 48 (.t 3), (some (22, false))⟩,
⟨(some 24), .load false 1 (.t 23), (some (22, false))⟩,
⟨(some 25), .call 95 [(.t 24)], (some (22, false))⟩,
⟨(some 26), .un .not (.t 25), (some (22, false))⟩,
⟨(some 27), .pick (.t 22) (.k (.bool true)) (.t 26), none⟩,
⟨(some 28), .mov (.t 27), none⟩,
⟨(some 29), .faddr 50 (.t 3), (some (28, false))⟩,
⟨(some 30), .load false 1 (.t 29), (some (28, false))⟩,
⟨(some 31), .bin .lss (.t 30) (.k (.int .i64 0)), (some (28, false))⟩,
⟨(some 32), .pick (.t 28) (.k (.bool true)) (.t 31), none⟩] [3, 32])
 (.cond (.t 32) (.seq (.ops [
⟨(some 4), .mov (.k (.bool false)), none⟩] [4])
 .ret)
 .skip))
 (.seq (.seq (.ops [
⟨(some 33), .faddr 0 (.t 3), none⟩,
⟨(some 34), .load true 48 (.t 33), none⟩,
⟨(some 35), .mov (.k (.int .i64 0)), none⟩] [34, 35])
 (.block 0 (.loop c_step_Right_L0)))
 (.seq (.ops [
⟨(some 4), .mov (.k (.bool true)), none⟩] [4])
 .ret)))), [.tmp 4]⟩
abbrev n_step_Right : Nat := 73
def c_step_own : F := ⟨true, 1, (.seq (.ops [
⟨(some 1), .box (.t 0), none⟩,
⟨(some 2), .alloc [(.bool false), (.int .i64 0), (.bool false), (.int .i64 0), (.bool false), (.int .i64 0), (.bool false), (.int .i64 0), (.bool false), (.int .i64 0), (.bool false), (.int .i64 0), (.bool false), (.int .i64 0), (.bool false), (.int .i64 0), (.bool false), (.int .i64 0), (.bool false), (.int .i64 0), (.bool false), (.int .i64 0), (.bool false), (.int .i64 0), (.bool false), (.int .i64 0), (.bool false), (.int .i64 0), (.bool false), (.int .i64 0), (.bool false), (.int .i64 0), (.bool false), (.int .i64 0), (.bool false), (.int .i64 0), (.bool false), (.int .i64 0), (.bool false), (.int .i64 0), (.bool false), (.int .i64 0), (.bool false), (.int .i64 0), (.bool false), (.int .i64 0), (.bool false), (.int .i64 0), .nils, (.int .i64 0), (.int .i64 0)], none⟩] [1, 2])
 (.seq (.ops [
⟨(some 3), .lit 2 1 false [(.int .i64 0)] 0 [], none⟩,
⟨(some 4), .faddr 48 (.t 1), none⟩,
⟨(some 5), .load false 1 (.t 4), none⟩,
⟨(some 6), .append 2 1 8 false (.t 3) (.t 5), none⟩,
⟨(some 7), .faddr 48 (.t 1), none⟩,
⟨none, .store 1 (.t 7) (.t 6), none⟩] [1, 2])
 (.seq (.ops [
⟨(some 8), .load true 51 (.t 1), none⟩,
⟨none, .store 51 (.t 2) (.t 8), none⟩] [2])
 .ret))), [.cell 2 true 51]⟩
abbrev n_step_own : Nat := 74
def c_step_work_do_D0 : List O := [
⟨(some 7), .mov (.t 0), none⟩,
⟨(some 8), .mov (.t 0), none⟩,
⟨(some 9), .nilck (.t 8), none⟩,
⟨(some 10), .faddr 51 (.t 9), none⟩,
⟨(some 11), .faddr 2 (.t 10), none⟩,
⟨(some 12), .load false 1 (.t 11), none⟩,
⟨(some 13), .call 96 [(.t 7), (.t 12)], none⟩,
⟨(some 14), .mov (.t 0), none⟩,
⟨(some 15), .mov (.t 0), none⟩,
⟨(some 16), .nilck (.t 15), none⟩,
⟨(some 17), .faddr 51 (.t 16), none⟩,
⟨(some 18), .faddr 3 (.t 17), none⟩,
⟨(some 19), .load false 1 (.t 18), none⟩,
⟨(some 20), .call 96 [(.t 14), (.t 19)], none⟩,
⟨(some 2), .mov (.t 13), none⟩,
⟨(some 3), .mov (.t 20), none⟩]
def c_step_work_do : F := ⟨false, 1, (.seq (.opsD c_step_work_do_D0 [0, 0, 2, 6, 14, 30, 63, 0, 0, 256, 768, 1792, 3840, 8191, 16383, 32767] [0, 2, 3])
 (.seq (.ops [
⟨(some 21), .mov (.t 0), none⟩,
⟨(some 22), .nilck (.t 21), none⟩,
⟨(some 23), .faddr 0 (.t 22), none⟩,
⟨(some 24), .faddr 49 (.t 23), none⟩,
⟨(some 25), .load false 1 (.t 24), none⟩,
⟨(some 26), .bin .add (.t 25) (.k (.int .i64 1)), none⟩,
⟨(some 4), .mov (.t 26), none⟩] [0, 2, 3, 4])
 (.seq (.seq (.ops [
⟨(some 27), .mov (.t 0), none⟩,
⟨(some 28), .nilck (.t 27), none⟩,
⟨(some 29), .faddr 51 (.t 28), none⟩,
⟨(some 30), .faddr 0 (.t 29), none⟩,
⟨(some 31), .load false 1 (.t 30), none⟩] [0, 2, 3, 4, 31])
 (.block 0 (.seq (.block 7 (.seq (.block 6 (.seq (.block 5 (.seq (.block 4 (.seq (.block 3 (.seq (.block 2 (.seq (.block 1 (.seq (.seq (.seq (.ops [
⟨(some 33), .bin .eql (.t 31) (.k (.int .i64 13)), none⟩,
⟨(some 32), .mov (.t 33), none⟩] [0, 2, 3, 4, 31, 32])
 (.cond (.t 32) (.exit 1)
 .skip))
 (.seq (.seq (.ops [
⟨(some 35), .bin .eql (.t 31) (.k (.int .i64 14)), none⟩,
⟨(some 34), .mov (.t 35), none⟩] [0, 2, 3, 4, 31, 34])
 (.cond (.t 34) (.exit 2)
 .skip))
 (.seq (.seq (.ops [
⟨(some 37), .bin .eql (.t 31) (.k (.int .i64 15)), none⟩,
⟨(some 36), .mov (.t 37), none⟩] [0, 2, 3, 4, 31, 36])
 (.cond (.t 36) (.exit 3)
 .skip))
 (.seq (.seq (.ops [
⟨(some 39), .bin .eql (.t 31) (.k (.int .i64 18)), none⟩,
⟨(some 38), .mov (.t 39), none⟩] [0, 2, 3, 4, 31, 38])
 (.cond (.t 38) (.exit 4)
 .skip))
 (.seq (.seq (.ops [
⟨(some 41), .bin .eql (.t 31) (.k (.int .i64 17)), none⟩,
⟨(some 40), .mov (.t 41), none⟩] [0, 2, 3, 4, 31, 40])
 (.cond (.t 40) (.exit 5)
 .skip))
 (.seq (.ops [
⟨(some 43), .bin .eql (.t 31) (.k (.int .i64 16)), none⟩,
⟨(some 42), .mov (.t 43), none⟩] [0, 2, 3, 4, 42])
 (.cond (.t 42) (.exit 6)
 .skip)))))))
 (.exit 7)))
 (.seq (.ops [
⟨(some 44), .mov (.t 0), none⟩,
⟨(some 45), .mov (.t 0), none⟩,
⟨(some 46), .nilck (.t 45), none⟩,
⟨(some 47), .faddr 0 (.t 46), none⟩,
⟨(some 48), .faddr 48 (.t 47), none⟩,
⟨(some 49), .load false 1 (.t 48), none⟩,
⟨(some 50), .mov (.t 2), none⟩,
⟨(some 51), .call 98 [(.t 49), (.t 50)], none⟩,
⟨(some 52), .extract (.t 51) 0, none⟩,
⟨(some 53), .extract (.t 51) 1, none⟩,
⟨(some 54), .call 97 [(.t 44), (.t 52), (.t 53)], none⟩] [0, 4])
 (.exit 0))))
 (.seq (.seq (.ops [
⟨(some 56), .mov (.t 0), none⟩,
⟨(some 57), .nilck (.t 56), none⟩,
⟨(some 58), .faddr 0 (.t 57), none⟩,
⟨(some 59), .faddr 48 (.t 58), none⟩,
⟨(some 60), .load false 1 (.t 59), none⟩,
⟨(some 61), .mov (.t 2), none⟩,
⟨(some 62), .mov (.t 3), none⟩,
⟨(some 63), .call 99 [(.t 60), (.t 61), (.t 62)], none⟩,
⟨(some 55), .mov (.t 63), none⟩,
⟨(some 64), .extract (.t 55) 0, none⟩,
⟨(some 65), .extract (.t 55) 1, none⟩,
⟨(some 5), .mov (.t 64), none⟩,
⟨(some 6), .mov (.t 65), none⟩] [0, 4, 5, 6])
 (.seq (.ops [
⟨(some 66), .mov (.t 0), none⟩,
⟨(some 67), .mov (.t 6), none⟩,
⟨(some 68), .nilck (.t 66), none⟩,
⟨(some 69), .faddr 59 (.t 68), none⟩,
⟨none, .store 1 (.t 69) (.t 67), none⟩] [0, 4, 5, 6])
 (.seq (.ops [
⟨(some 70), .mov (.t 6), none⟩,
⟨(some 71), .bin .eql (.t 70) (.k (.int .i64 0)), none⟩] [0, 4, 5, 71])
 (.cond (.t 71) (.ops [
⟨(some 72), .mov (.t 0), none⟩,
⟨(some 73), .mov (.t 5), none⟩,
⟨(some 74), .nilck (.t 72), none⟩,
⟨(some 75), .faddr 0 (.t 74), none⟩,
⟨(some 76), .faddr 48 (.t 75), none⟩,
⟨none, .store 1 (.t 76) (.t 73), none⟩] [0, 4])
 .skip))))
 (.exit 0))))
 (.seq (.ops [
⟨(some 77), .mov (.t 0), none⟩,
⟨(some 78), .mov (.t 2), none⟩,
⟨(some 79), .call 100 [(.t 77), (.t 78)], none⟩] [0, 4])
 (.exit 0))))
 (.seq (.ops [
⟨(some 80), .mov (.t 0), none⟩,
⟨(some 81), .mov (.t 0), none⟩,
⟨(some 82), .mov (.t 2), none⟩,
⟨(some 83), .nilck (.t 80), none⟩,
⟨(some 84), .faddr 59 (.t 83), none⟩,
⟨none, .store 1 (.t 84) (.k (.int .i64 1)), none⟩,
⟨(some 85), .nilck (.t 81), none⟩,
⟨(some 86), .faddr 60 (.t 85), none⟩,
⟨none, .store 1 (.t 86) (.t 82), none⟩] [0, 4])
 (.exit 0))))
 (.seq (.ops [
⟨(some 87), .mov (.t 2), none⟩,
⟨(some 88), .bin .neq (.t 87) (.k (.int .i64 0)), none⟩] [0, 4, 88])
 (.cond (.t 88) (.exit 0)
 .skip))))
 (.seq (.ops [
⟨(some 89), .mov (.t 0), none⟩,
⟨(some 90), .nilck (.t 89), none⟩,
⟨(some 91), .faddr 51 (.t 90), none⟩,
⟨(some 92), .faddr 5 (.t 91), none⟩,
⟨(some 93), .load false 1 (.t 92), none⟩,
⟨(some 4), .mov (.t 93), none⟩] [0, 4])
 (.exit 0))))
 (.seq (.seq (.seq (.ops [
⟨(some 94), .mov (.t 0), none⟩,
⟨(some 95), .nilck (.t 94), none⟩,
⟨(some 96), .faddr 51 (.t 95), none⟩,
⟨(some 97), .load true 6 (.t 96), none⟩,
⟨(some 98), .call 84 [(.t 97)], none⟩,
⟨(some 99), .un .not (.t 98), none⟩] [0, 2, 3, 4, 99])
 (.cond (.t 99) (.seq (.ops [
⟨(some 100), .mov (.t 0), none⟩,
⟨(some 101), .mov (.t 0), none⟩,
⟨(some 102), .nilck (.t 101), none⟩,
⟨(some 103), .faddr 51 (.t 102), none⟩,
⟨(some 104), .faddr 0 (.t 103), none⟩,
⟨(some 105), .load false 1 (.t 104), none⟩,
⟨(some 106), .mov (.t 2), none⟩,
⟨(some 107), .mov (.t 3), none⟩,
⟨(some 108), .call 101 [(.t 105), (.t 106), (.t 107)], none⟩,
⟨(some 109), .extract (.t 108) 0, none⟩,
⟨(some 110), .extract (.t 108) 1, none⟩,
⟨(some 111), .call 97 [(.t 100), (.t 109), (.t 110)], none⟩] [0, 4])
 (.exit 0))
 .skip))
 (.ops [
⟨(some 112), .mov (.t 0), none⟩,
⟨(some 113), .call 102 [(.t 112)], none⟩] [0, 4]))
 (.exit 0)))))
 (.seq (.ops [
⟨(some 114), .mov (.t 0), none⟩,
⟨(some 115), .nilck (.t 114), none⟩,
⟨(some 116), .faddr 59 (.t 115), none⟩,
⟨(some 117), .load false 1 (.t 116), none⟩,
⟨(some 118), .bin .eql (.t 117) (.k (.int .i64 0)), none⟩] [0, 4, 118])
 (.cond (.t 118) (.ops [
⟨(some 119), .mov (.t 0), none⟩,
⟨(some 120), .mov (.t 4), none⟩,
⟨(some 121), .nilck (.t 119), none⟩,
⟨(some 122), .faddr 0 (.t 121), none⟩,
⟨(some 123), .faddr 49 (.t 122), none⟩,
⟨none, .store 1 (.t 123) (.t 120), none⟩] [])
 .skip))))), []⟩
abbrev n_step_work_do : Nat := 75
def c_joineryref03_Check_D0 : List O := [
⟨(some 5), .faddr 0 (.t 2), none⟩,
⟨(some 6), .load false 1 (.t 5), none⟩,
⟨(some 7), .bin .lss (.t 6) (.k (.int .i64 1)), none⟩,
⟨(some 8), .mov (.t 7), none⟩,
⟨(some 9), .faddr 0 (.t 2), (some (8, false))⟩,
⟨(some 10), .load false 1 (.t 9), (some (8, false))⟩,
⟨(some 11), .bin .gtr (.t 10) (.k (.int .i64 18)), (some (8, false))⟩,
⟨(some 12), .pick (.t 8) (.k (.bool true)) (.t 11), none⟩,
⟨(some 13), .mov (.t 12), none⟩,
⟨(some 14), .load true 6 (.t 2), (some (13, false))⟩,
⟨(some 15), .call 103 [(.t 14)], (some (13, false))⟩,
⟨(some 16), .load true 6 (.t 2), (some (13, false))⟩,
⟨(some 17), .eq true (.tst [(1, .ti), (1, .ti), (1, .ti), (1, .ti), (1, .ti), (1, .ti)]) (.t 15) (.t 16), (some (13, false))⟩,
⟨(some 18), .pick (.t 13) (.k (.bool true)) (.t 17), none⟩,
⟨(some 19), .mov (.t 18), none⟩,
⟨(some 20), .faddr 0 (.t 2), (some (19, false))⟩,
⟨(some 21), .load false 1 (.t 20), (some (19, false))⟩,
⟨(some 22), .bin .eql (.t 21) (.k (.int .i64 15)), (some (19, false))⟩,
⟨(some 23), .mov (.t 22), (some (19, false))⟩,
⟨(some 24), .faddr 4 (.t 2), (some (23, true))⟩,
⟨(some 25), .load false 1 (.t 24), (some (23, true))⟩,
⟨(some 26), .bin .lss (.t 25) (.k (.int .i64 0)), (some (23, true))⟩,
⟨(some 27), .mov (.t 26), (some (23, true))⟩,
⟨(some 28), .faddr 4 (.t 2), (some (27, false))⟩,
⟨(some 29), .load false 1 (.t 28), (some (27, false))⟩,
⟨(some 30), .bin .gtr (.t 29) (.k (.int .i64 99)), (some (27, false))⟩,
⟨(some 31), .pick (.t 27) (.k (.bool true)) (.t 30), (some (23, true))⟩,
⟨(some 32), .pick (.t 23) (.t 31) (.k (.bool false)), (some (19, false))⟩,
⟨(some 33), .pick (.t 19) (.k (.bool true)) (.t 32), none⟩]
def c_joineryref03_Check : F := ⟨true, 2, (.seq (.ops [
⟨(some 2), .box (.t 0), none⟩,
⟨(some 4), .mov (.k (.int .i64 0)), none⟩] [1, 2])
 (.seq (.seq (.opsD c_joineryref03_Check_D0 [0, 1, 3, 7, 15, 31, 63, 127, 255, 511, 1023, 511, 4095, 8191, 16383, 32767, 65535, 131071, 262143, 524287, 1048575, 2097151, 4194303, 8388607, 16777215, 33554431, 67108863, 134217727, 268435455] [1, 2, 33])
 (.cond (.t 33) (.seq (.ops [
⟨(some 4), .mov (.k (.int .i64 1)), none⟩] [4])
 .ret)
 .skip))
 (.seq (.seq (.ops [
⟨(some 34), .faddr 0 (.t 2), none⟩,
⟨(some 35), .load false 1 (.t 34), none⟩,
⟨(some 36), .bin .leq (.t 35) (.k (.int .i64 3)), none⟩] [1, 2, 36])
 (.cond (.t 36) (.seq (.ops [
⟨(some 37), .faddr 1 (.t 2), none⟩,
⟨(some 38), .load false 1 (.t 37), none⟩,
⟨(some 39), .call 104 [(.t 38)], none⟩,
⟨(some 40), .un .not (.t 39), none⟩,
⟨(some 41), .mov (.t 40), none⟩,
⟨(some 42), .faddr 2 (.t 2), (some (41, false))⟩,
⟨(some 43), .load false 1 (.t 42), (some (41, false))⟩,
⟨(some 44), .call 104 [(.t 43)], (some (41, false))⟩,
⟨(some 45), .un .not (.t 44), (some (41, false))⟩,
⟨(some 46), .pick (.t 41) (.k (.bool true)) (.t 45), none⟩] [1, 2, 46])
 (.cond (.t 46) (.seq (.ops [
⟨(some 4), .mov (.k (.int .i64 6)), none⟩] [4])
 .ret)
 .skip))
 (.seq (.ops [
⟨(some 47), .faddr 1 (.t 2), none⟩,
⟨(some 48), .load false 1 (.t 47), none⟩,
⟨(some 49), .call 105 [(.t 48)], none⟩,
⟨(some 50), .un .not (.t 49), none⟩,
⟨(some 51), .mov (.t 50), none⟩,
⟨(some 52), .faddr 2 (.t 2), (some (51, false))⟩,
⟨(some 53), .load false 1 (.t 52), (some (51, false))⟩,
⟨(some 54), .call 105 [(.t 53)], (some (51, false))⟩,
⟨(some 55), .un .not (.t 54), (some (51, false))⟩,
⟨(some 56), .pick (.t 51) (.k (.bool true)) (.t 55), none⟩,
⟨(some 57), .mov (.t 56), none⟩,
⟨(some 58), .faddr 3 (.t 2), (some (57, false))⟩,
⟨(some 59), .load false 1 (.t 58), (some (57, false))⟩,
⟨(some 60), .call 105 [(.t 59)], (some (57, false))⟩,
⟨(some 61), .un .not (.t 60), (some (57, false))⟩,
⟨(some 62), .pick (.t 57) (.k (.bool true)) (.t 61), none⟩] [1, 2, 62])
 (.cond (.t 62) (.seq (.ops [
⟨(some 4), .mov (.k (.int .i64 6)), none⟩] [4])
 .ret)
 .skip))))
 (.seq (.seq (.ops [
⟨(some 63), .faddr 0 (.t 2), none⟩,
⟨(some 64), .load false 1 (.t 63), none⟩,
⟨(some 65), .bin .eql (.t 64) (.k (.int .i64 16)), none⟩,
⟨(some 66), .mov (.t 65), none⟩,
⟨(some 67), .faddr 0 (.t 2), (some (66, false))⟩,
⟨(some 68), .load false 1 (.t 67), (some (66, false))⟩,
⟨(some 69), .bin .eql (.t 68) (.k (.int .i64 17)), (some (66, false))⟩,
⟨(some 70), .pick (.t 66) (.k (.bool true)) (.t 69), none⟩,
⟨(some 71), .mov (.t 70), none⟩,
⟨(some 72), .faddr 5 (.t 2), (some (71, true))⟩,
⟨(some 73), .load false 1 (.t 72), (some (71, true))⟩,
⟨(some 74), .bin .lss (.t 73) (.k (.int .i64 0)), (some (71, true))⟩,
⟨(some 75), .mov (.t 74), (some (71, true))⟩,
⟨(some 76), .faddr 5 (.t 2), (some (75, false))⟩,
⟨(some 77), .load false 1 (.t 76), (some (75, false))⟩,
⟨(some 78), .mov (.t 1), (some (75, false))⟩,
⟨(some 79), .bin .geq (.t 77) (.t 78), (some (75, false))⟩,
⟨(some 80), .pick (.t 75) (.k (.bool true)) (.t 79), (some (71, true))⟩,
⟨(some 81), .pick (.t 71) (.t 80) (.k (.bool false)), none⟩] [81])
 (.cond (.t 81) (.seq (.ops [
⟨(some 4), .mov (.k (.int .i64 4)), none⟩] [4])
 .ret)
 .skip))
 (.seq (.ops [
⟨(some 4), .mov (.k (.int .i64 0)), none⟩] [4])
 .ret))))), [.tmp 4]⟩
abbrev n_joineryref03_Check : Nat := 76
def c_asm_Parse_1_D0 : List O := [
⟨(some 17), .load false 1 (.t 3), none⟩,
⟨(some 18), .load true 6 (.t 7), none⟩,
⟨(some 19), .lit 66 6 false [(.int .i64 0), (.int .i64 0), (.int .i64 0), (.int .i64 0), (.int .i64 0), (.int .i64 0)] 1 [(0, (.t 18))], none⟩,
⟨(some 20), .append 66 6 48 false (.t 17) (.t 19), none⟩,
⟨(some 21), .load false 1 (.t 4), none⟩,
⟨(some 22), .load false 1 (.t 2), none⟩,
⟨(some 23), .lit 3 1 false [(.int .i64 0)] 1 [(0, (.t 22))], none⟩,
⟨(some 24), .append 3 1 8 false (.t 21) (.t 23), none⟩,
⟨none, .store 1 (.t 3) (.t 20), none⟩,
⟨none, .store 1 (.t 4) (.t 24), none⟩]
def c_asm_Parse_1 : F := ⟨false, 5, (.seq (.ops [
⟨(some 6), .mov (.k (.bool false)), none⟩] [0, 1, 2, 3, 4])
 (.seq (.ops [
⟨(some 10), .load false 1 (.t 1), none⟩,
⟨(some 11), .load false 1 (.t 2), none⟩,
⟨(some 12), .mov (.t 0), none⟩,
⟨(some 13), .sliceS (.t 10) (some (.t 11)) (some (.t 12)), none⟩,
⟨(some 14), .call 78 [(.t 13)], none⟩,
⟨(some 9), .mov (.t 14), none⟩,
⟨(some 15), .extract (.t 9) 0, none⟩,
⟨(some 16), .extract (.t 9) 1, none⟩,
⟨(some 7), .alloc [(.int .i64 0), (.int .i64 0), (.int .i64 0), (.int .i64 0), (.int .i64 0), (.int .i64 0)], none⟩,
⟨none, .store 6 (.t 7) (.t 15), none⟩,
⟨(some 8), .mov (.t 16), none⟩] [2, 3, 4, 7, 8])
 (.seq (.opsD c_asm_Parse_1_D0 [0, 0, 2, 7, 0, 0, 32, 127, 255, 511] [8])
 (.seq (.ops [
⟨(some 25), .mov (.t 8), none⟩,
⟨(some 26), .bin .eql (.t 25) (.k (.int .i64 0)), none⟩,
⟨(some 6), .mov (.t 26), none⟩] [6])
 .ret)))), [.tmp 6]⟩
abbrev n_asm_Parse_1 : Nat := 77
def c_ins_Parse_D0 : List O := [
⟨(some 18), .faddr 0 (.t 6), none⟩,
⟨(some 19), .load false 1 (.t 18), none⟩,
⟨(some 20), .mov (.t 4), none⟩,
⟨(some 21), .iaddr 1 (.t 20) (.k (.int .i64 0)), none⟩,
⟨(some 22), .load false 1 (.t 21), none⟩,
⟨(some 23), .bin .neq (.t 19) (.t 22), none⟩,
⟨(some 24), .mov (.t 23), none⟩,
⟨(some 25), .faddr 1 (.t 6), (some (24, false))⟩,
⟨(some 26), .load false 1 (.t 25), (some (24, false))⟩,
⟨(some 27), .len 1 (.t 26), (some (24, false))⟩,
⟨(some 28), .mov (.t 4), (some (24, false))⟩,
⟨(some 29), .len 0 (.t 28), (some (24, false))⟩,
⟨(some 30), .bin .sub (.t 29) (.k (.int .i64 1)), (some (24, false))⟩,
⟨(some 31), .bin .neq (.t 27) (.t 30), (some (24, false))⟩,
⟨(some 32), .pick (.t 24) (.k (.bool true)) (.t 31), none⟩]
def c_ins_Parse_L1 : C := (.seq (.ops [
⟨(some 39), .next (.t 38), none⟩,
⟨(some 40), .extract (.t 39) 0, none⟩] [2, 4, 7, 38, 39, 40])
 (.seq (.cond (.t 40) .skip
 (.exit 2))
 (.block 3 (.seq (.ops [
⟨(some 41), .extract (.t 39) 1, none⟩,
⟨(some 42), .extract (.t 39) 2, none⟩,
⟨(some 8), .mov (.t 41), none⟩,
⟨(some 9), .mov (.t 42), none⟩] [2, 4, 7, 8, 9, 38])
 (.seq (.ops [
⟨(some 43), .mov (.t 9), none⟩,
⟨(some 44), .mov (.t 4), none⟩,
⟨(some 45), .mov (.t 8), none⟩,
⟨(some 46), .bin .add (.t 45) (.k (.int .i64 1)), none⟩,
⟨(some 47), .iaddr 1 (.t 44) (.t 46), none⟩,
⟨(some 48), .load false 1 (.t 47), none⟩,
⟨(some 49), .call 107 [(.t 7), (.t 43), (.t 48)], none⟩,
⟨(some 10), .mov (.t 49), none⟩] [2, 4, 7, 10, 38])
 (.seq (.ops [
⟨(some 50), .mov (.t 10), none⟩,
⟨(some 51), .bin .neq (.t 50) (.k (.int .i64 0)), none⟩] [2, 4, 7, 38, 51])
 (.cond (.t 51) (.seq (.ops [
⟨(some 52), .build [(.int .i64 0), (.int .i64 0), (.int .i64 0), (.int .i64 0), (.int .i64 0), (.int .i64 0)] [], none⟩,
⟨none, .store 6 (.t 2) (.t 52), none⟩,
⟨(some 3), .mov (.k (.int .i64 2)), none⟩] [2, 3])
 .ret)
 .skip)))))))
def c_ins_Parse_L2 : C := (.seq (.ops [
⟨(some 15), .bin .lss (.t 14) (.k (.int .i64 18)), none⟩] [2, 4, 13, 14, 15])
 (.seq (.cond (.t 15) .skip
 (.exit 0))
 (.seq (.block 1 (.seq (.ops [
⟨(some 16), .mov (.t 14), none⟩,
⟨(some 17), .idxA true 18 2 (.t 13) (.t 14), none⟩,
⟨(some 6), .alloc [(.str []), (.str [])], none⟩,
⟨(some 5), .mov (.t 16), none⟩,
⟨none, .store 2 (.t 6) (.t 17), none⟩] [2, 4, 5, 6, 13, 14])
 (.seq (.seq (.opsD c_ins_Parse_D0 [0, 1, 0, 4, 12, 31, 63, 127, 255, 511, 127, 1151, 3199, 8191, 16383] [2, 4, 5, 6, 13, 14, 32])
 (.cond (.t 32) (.exit 1)
 .skip))
 (.seq (.ops [
⟨(some 33), .mov (.t 5), none⟩,
⟨(some 34), .bin .add (.k (.int .i64 1)) (.t 33), none⟩,
⟨(some 35), .build [(.int .i64 0), (.int .i64 0), (.int .i64 0), (.int .i64 0), (.int .i64 0), (.int .i64 0)] [(0, 1, (.t 34))], none⟩,
⟨(some 7), .alloc [(.int .i64 0), (.int .i64 0), (.int .i64 0), (.int .i64 0), (.int .i64 0), (.int .i64 0)], none⟩,
⟨none, .store 6 (.t 7) (.t 35), none⟩] [2, 4, 6, 7])
 (.seq (.seq (.ops [
⟨(some 36), .faddr 1 (.t 6), none⟩,
⟨(some 37), .load false 1 (.t 36), none⟩,
⟨(some 38), .range (.t 37), none⟩] [2, 4, 7, 38])
 (.block 2 (.loop c_ins_Parse_L1)))
 (.seq (.seq (.ops [
⟨(some 53), .load true 6 (.t 7), none⟩,
⟨(some 54), .call 108 [(.t 53), (.k (.int .i64 200))], none⟩,
⟨(some 55), .bin .neq (.t 54) (.k (.int .i64 0)), none⟩] [2, 7, 55])
 (.cond (.t 55) (.exit 0)
 .skip))
 (.seq (.ops [
⟨(some 56), .load true 6 (.t 7), none⟩,
⟨none, .store 6 (.t 2) (.t 56), none⟩,
⟨(some 3), .mov (.k (.int .i64 0)), none⟩] [2, 3])
 .ret)))))))
 (.ops [
⟨(some 57), .bin .add (.t 14) (.k (.int .i64 1)), none⟩,
⟨(some 14), .mov (.t 57), none⟩] [2, 4, 13, 14]))))
def c_ins_Parse : F := ⟨true, 1, (.seq (.ops [
⟨(some 2), .alloc [(.int .i64 0), (.int .i64 0), (.int .i64 0), (.int .i64 0), (.int .i64 0), (.int .i64 0)], none⟩,
⟨(some 3), .mov (.k (.int .i64 0)), none⟩] [0, 2])
 (.seq (.ops [
⟨(some 11), .mov (.t 0), none⟩,
⟨(some 12), .call 106 [(.t 11)], none⟩,
⟨(some 4), .mov (.t 12), none⟩] [2, 4])
 (.seq (.seq (.ops [
⟨(some 13), .load true 36 (.k (.fp gl_1)), none⟩,
⟨(some 14), .mov (.k (.int .i64 0)), none⟩] [2, 4, 13, 14])
 (.block 0 (.loop c_ins_Parse_L2)))
 (.seq (.ops [
⟨(some 58), .build [(.int .i64 0), (.int .i64 0), (.int .i64 0), (.int .i64 0), (.int .i64 0), (.int .i64 0)] [], none⟩,
⟨none, .store 6 (.t 2) (.t 58), none⟩,
⟨(some 3), .mov (.k (.int .i64 2)), none⟩] [2, 3])
 .ret)))), [.cell 2 true 6, .tmp 3]⟩
abbrev n_ins_Parse : Nat := 78
def c_asm_Check_L0 : C := (.seq (.ops [
⟨(some 19), .bin .lss (.t 18) (.t 17), none⟩] [0, 16, 17, 18, 19])
 (.seq (.cond (.t 19) .skip
 (.exit 1))
 (.seq (.block 2 (.seq (.ops [
⟨(some 20), .mov (.t 18), none⟩,
⟨(some 21), .iaddr 6 (.t 16) (.t 18), none⟩,
⟨(some 22), .load true 6 (.t 21), none⟩,
⟨(some 5), .alloc [(.int .i64 0), (.int .i64 0), (.int .i64 0), (.int .i64 0), (.int .i64 0), (.int .i64 0)], none⟩,
⟨(some 4), .mov (.t 20), none⟩,
⟨none, .store 6 (.t 5) (.t 22), none⟩] [0, 4, 5, 16, 17, 18])
 (.seq (.ops [
⟨(some 23), .load true 6 (.t 5), none⟩,
⟨(some 24), .mov (.t 0), none⟩,
⟨(some 25), .len 0 (.t 24), none⟩,
⟨(some 26), .call 108 [(.t 23), (.t 25)], none⟩,
⟨(some 6), .mov (.t 26), none⟩] [0, 4, 6, 16, 17, 18])
 (.seq (.ops [
⟨(some 27), .mov (.t 6), none⟩,
⟨(some 28), .bin .neq (.t 27) (.k (.int .i64 0)), none⟩] [0, 4, 6, 16, 17, 18, 28])
 (.cond (.t 28) (.seq (.ops [
⟨(some 29), .mov (.t 4), none⟩,
⟨(some 30), .mov (.t 6), none⟩,
⟨(some 2), .mov (.t 29), none⟩,
⟨(some 3), .mov (.t 30), none⟩] [2, 3])
 .ret)
 .skip)))))
 (.ops [
⟨(some 31), .bin .add (.t 18) (.k (.int .i64 1)), none⟩,
⟨(some 18), .mov (.t 31), none⟩] [0, 16, 17, 18]))))
def c_asm_Check : F := ⟨true, 1, (.seq (.ops [
⟨(some 2), .mov (.k (.int .i64 0)), none⟩,
⟨(some 3), .mov (.k (.int .i64 0)), none⟩] [0])
 (.seq (.block 0 (.seq (.ops [
⟨(some 9), .mov (.t 0), none⟩,
⟨(some 10), .len 0 (.t 9), none⟩,
⟨(some 11), .bin .gtr (.t 10) (.k (.int .i64 200)), none⟩,
⟨(some 8), .mov (.t 11), none⟩] [0, 8])
 (.cond (.t 8) (.seq (.ops [
⟨(some 2), .mov (.k (.int .i64 0)), none⟩,
⟨(some 3), .mov (.k (.int .i64 3)), none⟩] [2, 3])
 .ret)
 (.seq (.ops [
⟨(some 13), .mov (.t 0), none⟩,
⟨(some 14), .len 0 (.t 13), none⟩,
⟨(some 15), .bin .eql (.t 14) (.k (.int .i64 0)), none⟩,
⟨(some 12), .mov (.t 15), none⟩] [0, 12])
 (.cond (.t 12) (.seq (.ops [
⟨(some 2), .mov (.k (.int .i64 0)), none⟩,
⟨(some 3), .mov (.k (.int .i64 5)), none⟩] [2, 3])
 .ret)
 .skip)))))
 (.seq (.seq (.ops [
⟨(some 16), .mov (.t 0), none⟩,
⟨(some 17), .len 0 (.t 16), none⟩,
⟨(some 18), .mov (.k (.int .i64 0)), none⟩] [0, 16, 17, 18])
 (.block 1 (.loop c_asm_Check_L0)))
 (.seq (.seq (.ops [
⟨(some 32), .mov (.t 0), none⟩,
⟨(some 33), .len 0 (.t 32), none⟩,
⟨(some 34), .bin .sub (.t 33) (.k (.int .i64 1)), none⟩,
⟨(some 7), .mov (.t 34), none⟩] [0, 7])
 (.seq (.ops [
⟨(some 35), .mov (.t 0), none⟩,
⟨(some 36), .mov (.t 7), none⟩,
⟨(some 37), .iaddr 6 (.t 35) (.t 36), none⟩,
⟨(some 38), .faddr 0 (.t 37), none⟩,
⟨(some 39), .load false 1 (.t 38), none⟩,
⟨(some 40), .bin .neq (.t 39) (.k (.int .i64 16)), none⟩,
⟨(some 41), .mov (.t 40), none⟩,
⟨(some 42), .mov (.t 0), (some (41, true))⟩,
⟨(some 43), .mov (.t 7), (some (41, true))⟩,
⟨(some 44), .iaddr 6 (.t 42) (.t 43), (some (41, true))⟩,
⟨(some 45), .faddr 0 (.t 44), (some (41, true))⟩,
⟨(some 46), .load false 1 (.t 45), (some (41, true))⟩,
⟨(some 47), .bin .neq (.t 46) (.k (.int .i64 18)), (some (41, true))⟩,
⟨(some 48), .pick (.t 41) (.t 47) (.k (.bool false)), none⟩] [7, 48])
 (.cond (.t 48) (.seq (.ops [
⟨(some 49), .mov (.t 7), none⟩,
⟨(some 2), .mov (.t 49), none⟩,
⟨(some 3), .mov (.k (.int .i64 5)), none⟩] [2, 3])
 .ret)
 .skip)))
 (.seq (.ops [
⟨(some 2), .mov (.k (.int .i64 0)), none⟩,
⟨(some 3), .mov (.k (.int .i64 0)), none⟩] [2, 3])
 .ret))))), [.tmp 2, .tmp 3]⟩
abbrev n_asm_Check : Nat := 79
def c_loc_Right : F := ⟨true, 1, (.seq (.ops [
⟨(some 2), .mov (.k (.bool false)), none⟩] [0])
 (.seq (.ops [
⟨(some 3), .mov (.t 0), none⟩,
⟨(some 4), .bin .geq (.t 3) (.k (.int .i64 0)), none⟩,
⟨(some 5), .mov (.t 4), none⟩,
⟨(some 6), .mov (.t 0), (some (5, true))⟩,
⟨(some 7), .bin .lss (.t 6) (.k (.int .i64 24)), (some (5, true))⟩,
⟨(some 8), .pick (.t 5) (.t 7) (.k (.bool false)), none⟩,
⟨(some 2), .mov (.t 8), none⟩] [2])
 .ret)), [.tmp 2]⟩
abbrev n_loc_Right : Nat := 81
def c_env_New_L0 : C := (.seq (.ops [
⟨(some 4), .bin .lss (.t 3) (.k (.int .i64 24)), none⟩] [0, 1, 3, 4])
 (.seq (.cond (.t 4) .skip
 (.exit 0))
 (.seq (.block 1 (.seq (.ops [
⟨(some 5), .mov (.t 3), none⟩,
⟨(some 2), .mov (.t 5), none⟩] [0, 1, 2, 3])
 (.ops [
⟨(some 6), .mov (.t 2), none⟩,
⟨(some 7), .mov (.t 2), none⟩,
⟨(some 8), .build [(.int .i64 0)] [(0, 1, (.t 7))], none⟩,
⟨(some 9), .iface 164 (.t 8), none⟩,
⟨(some 10), .iaddrA 24 1 (.t 1) (.t 6), none⟩,
⟨none, .store 1 (.t 10) (.t 9), none⟩] [0, 1, 3])))
 (.ops [
⟨(some 11), .bin .add (.t 3) (.k (.int .i64 1)), none⟩,
⟨(some 3), .mov (.t 11), none⟩] [0, 1, 3]))))
def c_env_New : F := ⟨true, 0, (.seq (.ops [
⟨(some 0), .alloc [.nilI, .nilI, .nilI, .nilI, .nilI, .nilI, .nilI, .nilI, .nilI, .nilI, .nilI, .nilI, .nilI, .nilI, .nilI, .nilI, .nilI, .nilI, .nilI, .nilI, .nilI, .nilI, .nilI, .nilI], none⟩] [0])
 (.seq (.ops [
⟨(some 1), .alloc [.nilI, .nilI, .nilI, .nilI, .nilI, .nilI, .nilI, .nilI, .nilI, .nilI, .nilI, .nilI, .nilI, .nilI, .nilI, .nilI, .nilI, .nilI, .nilI, .nilI, .nilI, .nilI, .nilI, .nilI], none⟩] [0, 1])
 (.seq (.seq (.ops [
⟨(some 3), .mov (.k (.int .i64 0)), none⟩] [0, 1, 3])
 (.block 0 (.loop c_env_New_L0)))
 (.seq (.ops [
⟨(some 12), .load true 24 (.t 1), none⟩,
⟨none, .store 24 (.t 0) (.t 12), none⟩] [0])
 .ret)))), [.cell 0 true 24]⟩
abbrev n_env_New : Nat := 82
def c_path_From_1 : F := ⟨false, 3, (.seq (.ops [
⟨(some 3), .mov (.k (.bool false)), none⟩] [0, 1, 2])
 (.seq (.ops [
⟨(some 5), .load false 1 (.t 0), none⟩,
⟨(some 6), .faddr 0 (.t 1), none⟩,
⟨(some 7), .load false 1 (.t 6), none⟩,
⟨(some 8), .iaddr 6 (.t 5) (.t 7), none⟩,
⟨(some 9), .load true 6 (.t 8), none⟩,
⟨(some 4), .alloc [(.int .i64 0), (.int .i64 0), (.int .i64 0), (.int .i64 0), (.int .i64 0), (.int .i64 0)], none⟩,
⟨none, .store 6 (.t 4) (.t 9), none⟩] [1, 2, 4])
 (.seq (.seq (.ops [
⟨(some 10), .load true 6 (.t 4), none⟩,
⟨(some 11), .call 84 [(.t 10)], none⟩,
⟨(some 12), .un .not (.t 11), none⟩,
⟨(some 13), .mov (.t 12), none⟩,
⟨(some 14), .faddr 0 (.t 1), (some (13, false))⟩,
⟨(some 15), .load false 1 (.t 14), (some (13, false))⟩,
⟨(some 16), .iaddrA 200 1 (.t 2) (.t 15), (some (13, false))⟩,
⟨(some 17), .load false 1 (.t 16), (some (13, false))⟩,
⟨(some 18), .pick (.t 13) (.k (.bool true)) (.t 17), none⟩] [1, 2, 4, 18])
 (.cond (.t 18) (.seq (.ops [
⟨(some 3), .mov (.k (.bool false)), none⟩] [3])
 .ret)
 .skip))
 (.seq (.ops [
⟨(some 19), .faddr 0 (.t 1), none⟩,
⟨(some 20), .load false 1 (.t 19), none⟩,
⟨(some 21), .iaddrA 200 1 (.t 2) (.t 20), none⟩,
⟨none, .store 1 (.t 21) (.k (.bool true)), none⟩] [1, 4])
 (.seq (.ops [
⟨(some 22), .faddr 1 (.t 1), none⟩,
⟨(some 23), .load true 24 (.t 22), none⟩,
⟨(some 24), .load true 6 (.t 4), none⟩,
⟨(some 25), .call 85 [(.t 23), (.t 24)], none⟩,
⟨(some 26), .faddr 1 (.t 1), none⟩,
⟨none, .store 24 (.t 26) (.t 25), none⟩] [1, 4])
 (.seq (.ops [
⟨(some 27), .faddr 25 (.t 1), none⟩,
⟨(some 28), .load false 1 (.t 27), none⟩,
⟨(some 29), .bin .add (.t 28) (.k (.int .i64 1)), none⟩,
⟨(some 30), .faddr 25 (.t 1), none⟩,
⟨none, .store 1 (.t 30) (.t 29), none⟩] [1, 4])
 (.seq (.ops [
⟨(some 31), .faddr 0 (.t 1), none⟩,
⟨(some 32), .load false 1 (.t 31), none⟩,
⟨(some 33), .bin .add (.t 32) (.k (.int .i64 1)), none⟩,
⟨(some 34), .faddr 0 (.t 1), none⟩,
⟨none, .store 1 (.t 34) (.t 33), none⟩] [1, 4])
 (.seq (.seq (.ops [
⟨(some 35), .faddr 0 (.t 4), none⟩,
⟨(some 36), .load false 1 (.t 35), none⟩,
⟨(some 37), .bin .eql (.t 36) (.k (.int .i64 16)), none⟩] [1, 4, 37])
 (.cond (.t 37) (.ops [
⟨(some 38), .faddr 5 (.t 4), none⟩,
⟨(some 39), .load false 1 (.t 38), none⟩,
⟨(some 40), .faddr 0 (.t 1), none⟩,
⟨none, .store 1 (.t 40) (.t 39), none⟩] [])
 .skip))
 (.seq (.ops [
⟨(some 3), .mov (.k (.bool true)), none⟩] [3])
 .ret))))))))), [.tmp 3]⟩
abbrev n_path_From_1 : Nat := 83
def c_ins_Moves : F := ⟨true, 1, (.seq (.ops [
⟨(some 1), .box (.t 0), none⟩,
⟨(some 2), .mov (.k (.bool false)), none⟩] [1])
 (.seq (.ops [
⟨(some 3), .faddr 0 (.t 1), none⟩,
⟨(some 4), .load false 1 (.t 3), none⟩,
⟨(some 5), .bin .eql (.t 4) (.k (.int .i64 1)), none⟩,
⟨(some 6), .mov (.t 5), none⟩,
⟨(some 7), .faddr 0 (.t 1), (some (6, false))⟩,
⟨(some 8), .load false 1 (.t 7), (some (6, false))⟩,
⟨(some 9), .bin .eql (.t 8) (.k (.int .i64 2)), (some (6, false))⟩,
⟨(some 10), .pick (.t 6) (.k (.bool true)) (.t 9), none⟩,
⟨(some 11), .mov (.t 10), none⟩,
⟨(some 12), .faddr 0 (.t 1), (some (11, false))⟩,
⟨(some 13), .load false 1 (.t 12), (some (11, false))⟩,
⟨(some 14), .bin .eql (.t 13) (.k (.int .i64 3)), (some (11, false))⟩,
⟨(some 15), .pick (.t 11) (.k (.bool true)) (.t 14), none⟩,
⟨(some 16), .mov (.t 15), none⟩,
⟨(some 17), .faddr 0 (.t 1), (some (16, false))⟩,
⟨(some 18), .load false 1 (.t 17), (some (16, false))⟩,
⟨(some 19), .bin .eql (.t 18) (.k (.int .i64 16)), (some (16, false))⟩,
⟨(some 20), .pick (.t 16) (.k (.bool true)) (.t 19), none⟩,
⟨(some 2), .mov (.t 20), none⟩] [2])
 .ret)), [.tmp 2]⟩
abbrev n_ins_Moves : Nat := 84
def c_env_After_D0 : List O := [
⟨(some 36), .faddr 1 (.t 3), none⟩,
⟨(some 37), .load false 1 (.t 36), none⟩,
⟨(some 38), .faddr 2 (.t 3), none⟩,
⟨(some 39), .load false 1 (.t 38), none⟩,
⟨(some 40), .iaddrA 24 1 (.t 2) (.t 39), none⟩,
⟨(some 41), .load false 1 (.t 40), none⟩,
⟨(some 42), .iaddrA 24 1 (.t 2) (.t 37), none⟩,
⟨none, .store 1 (.t 42) (.t 41), none⟩]
def c_env_After_D1 : List O := [
⟨(some 45), .faddr 1 (.t 3), none⟩,
⟨(some 46), .load false 1 (.t 45), none⟩,
⟨(some 47), .faddr 2 (.t 3), none⟩,
⟨(some 48), .load false 1 (.t 47), none⟩,
⟨(some 49), .faddr 2 (.t 3), none⟩,
⟨(some 50), .load false 1 (.t 49), none⟩,
⟨(some 51), .iaddrA 24 1 (.t 2) (.t 50), none⟩,
⟨(some 52), .load false 1 (.t 51), none⟩,
⟨(some 53), .faddr 1 (.t 3), none⟩,
⟨(some 54), .load false 1 (.t 53), none⟩,
⟨(some 55), .iaddrA 24 1 (.t 2) (.t 54), none⟩,
⟨(some 56), .load false 1 (.t 55), none⟩,
⟨(some 57), .iaddrA 24 1 (.t 2) (.t 46), none⟩,
⟨none, .store 1 (.t 57) (.t 52), none⟩,
⟨(some 58), .iaddrA 24 1 (.t 2) (.t 48), none⟩,
⟨none, .store 1 (.t 58) (.t 56), none⟩]
def c_env_After : F := ⟨true, 2, (.seq (.ops [
⟨(some 2), .box (.t 0), none⟩,
⟨(some 3), .box (.t 1), none⟩,
⟨(some 4), .alloc [.nilI, .nilI, .nilI, .nilI, .nilI, .nilI, .nilI, .nilI, .nilI, .nilI, .nilI, .nilI, .nilI, .nilI, .nilI, .nilI, .nilI, .nilI, .nilI, .nilI, .nilI, .nilI, .nilI, .nilI], none⟩] [2, 3, 4])
 (.seq (.ops [
⟨(some 5), .load true 24 (.t 2), none⟩,
⟨(some 6), .call 109 [(.t 5)], none⟩,
⟨none, .store 24 (.t 2) (.t 6), none⟩] [2, 3, 4])
 (.seq (.seq (.ops [
⟨(some 7), .load true 6 (.t 3), none⟩,
⟨(some 8), .call 84 [(.t 7)], none⟩,
⟨(some 9), .un .not (.t 8), none⟩,
⟨(some 10), .mov (.t 9), none⟩,
⟨(some 11), .faddr 1 (.t 3), (some (10, false))⟩,
⟨(some 12), .load false 1 (.t 11), (some (10, false))⟩,
⟨(some 13), .call 81 [(.t 12)], (some (10, false))⟩,
⟨(some 14), .un .not (.t 13), (some (10, false))⟩,
⟨(some 15), .pick (.t 10) (.k (.bool true)) (.t 14), none⟩,
⟨(some 16), .mov (.t 15), none⟩,
⟨(some 17), .faddr 2 (.t 3), (some (16, false))⟩,
⟨(some 18), .load false 1 (.t 17), (some (16, false))⟩,
⟨(some 19), .call 81 [(.t 18)], (some (16, false))⟩,
⟨(some 20), .un .not (.t 19), (some (16, false))⟩,
⟨(some 21), .pick (.t 16) (.k (.bool true)) (.t 20), none⟩] [2, 3, 4, 21])
 (.cond (.t 21) (.seq (.ops [
⟨(some 22), .load true 24 (.t 2), none⟩,
⟨none, .store 24 (.t 4) (.t 22), none⟩] [4])
 .ret)
 .skip))
 (.seq (.seq (.ops [
⟨(some 23), .faddr 0 (.t 3), none⟩,
⟨(some 24), .load false 1 (.t 23), none⟩] [2, 3, 4, 24])
 (.block 0 (.seq (.ops [
⟨(some 26), .bin .eql (.t 24) (.k (.int .i64 1)), none⟩,
⟨(some 25), .mov (.t 26), none⟩] [2, 3, 4, 24, 25])
 (.cond (.t 25) (.ops [
⟨(some 27), .faddr 1 (.t 3), none⟩,
⟨(some 28), .load false 1 (.t 27), none⟩,
⟨(some 29), .faddr 4 (.t 3), none⟩,
⟨(some 30), .load false 1 (.t 29), none⟩,
⟨(some 31), .build [(.int .i64 0)] [(0, 1, (.t 30))], none⟩,
⟨(some 32), .iface 161 (.t 31), none⟩,
⟨(some 33), .iaddrA 24 1 (.t 2) (.t 28), none⟩,
⟨none, .store 1 (.t 33) (.t 32), none⟩] [2, 4])
 (.seq (.ops [
⟨(some 35), .bin .eql (.t 24) (.k (.int .i64 2)), none⟩,
⟨(some 34), .mov (.t 35), none⟩] [2, 3, 4, 24, 34])
 (.cond (.t 34) (.opsD c_env_After_D0 [0, 1, 0, 4, 12, 28, 63, 127] [2, 4])
 (.seq (.ops [
⟨(some 44), .bin .eql (.t 24) (.k (.int .i64 3)), none⟩,
⟨(some 43), .mov (.t 44), none⟩] [2, 3, 4, 43])
 (.cond (.t 43) (.opsD c_env_After_D1 [0, 1, 0, 4, 0, 16, 48, 112, 0, 256, 768, 1792, 4083, 8179, 16383, 32767] [2, 4])
 .skip))))))))
 (.seq (.ops [
⟨(some 59), .load true 24 (.t 2), none⟩,
⟨none, .store 24 (.t 4) (.t 59), none⟩] [4])
 .ret))))), [.cell 4 true 24]⟩
abbrev n_env_After : Nat := 85
def c_loc_Reg : F := ⟨true, 1, (.seq (.ops [
⟨(some 2), .mov (.k (.bool false)), none⟩] [0])
 (.seq (.ops [
⟨(some 3), .mov (.t 0), none⟩,
⟨(some 4), .bin .geq (.t 3) (.k (.int .i64 0)), none⟩,
⟨(some 5), .mov (.t 4), none⟩,
⟨(some 6), .mov (.t 0), (some (5, true))⟩,
⟨(some 7), .bin .lss (.t 6) (.k (.int .i64 8)), (some (5, true))⟩,
⟨(some 8), .pick (.t 5) (.t 7) (.k (.bool false)), none⟩,
⟨(some 2), .mov (.t 8), none⟩] [2])
 .ret)), [.tmp 2]⟩
abbrev n_loc_Reg : Nat := 86
def c_joineryref09_From_D0 : List O := [
⟨(some 35), .mov (.t 8), none⟩,
⟨(some 36), .faddr 1 (.t 5), none⟩,
⟨(some 37), .load false 1 (.t 36), none⟩,
⟨(some 38), .load true 6 (.t 7), none⟩,
⟨(some 39), .call 111 [(.t 37), (.t 38)], none⟩,
⟨(some 40), .faddr 2 (.t 5), none⟩,
⟨(some 41), .load false 1 (.t 40), none⟩,
⟨(some 42), .bin .add (.t 41) (.k (.int .i64 1)), none⟩,
⟨(some 43), .build [(.int .i64 0), .nils, (.int .i64 0)] [(0, 1, (.t 35)), (1, 1, (.t 39)), (2, 1, (.t 42))], none⟩,
⟨none, .store 3 (.t 5) (.t 43), none⟩]
def c_joineryref09_From_L1 : C := (.seq (.seq (.ops [
⟨(some 12), .mov (.t 6), none⟩,
⟨(some 13), .mov (.t 0), none⟩,
⟨(some 14), .len 0 (.t 13), none⟩,
⟨(some 15), .bin .leq (.t 12) (.t 14), none⟩] [0, 4, 5, 6, 15])
 (.cond (.t 15) .skip
 (.exit 0)))
 (.seq (.block 1 (.seq (.ops [
⟨(some 18), .mov (.t 0), none⟩,
⟨(some 19), .faddr 0 (.t 5), none⟩,
⟨(some 20), .load false 1 (.t 19), none⟩,
⟨(some 21), .iaddr 6 (.t 18) (.t 20), none⟩,
⟨(some 22), .load true 6 (.t 21), none⟩,
⟨(some 7), .alloc [(.int .i64 0), (.int .i64 0), (.int .i64 0), (.int .i64 0), (.int .i64 0), (.int .i64 0)], none⟩,
⟨none, .store 6 (.t 7) (.t 22), none⟩] [0, 4, 5, 6, 7])
 (.seq (.seq (.ops [
⟨(some 23), .load true 6 (.t 7), none⟩,
⟨(some 24), .call 40 [(.t 23)], none⟩,
⟨(some 25), .un .not (.t 24), none⟩] [0, 4, 5, 6, 7, 25])
 (.cond (.t 25) (.seq (.ops [
⟨(some 26), .load true 3 (.t 5), none⟩,
⟨none, .store 3 (.t 4) (.t 26), none⟩] [4])
 .ret)
 .skip))
 (.seq (.ops [
⟨(some 27), .faddr 0 (.t 5), none⟩,
⟨(some 28), .load false 1 (.t 27), none⟩,
⟨(some 29), .bin .add (.t 28) (.k (.int .i64 1)), none⟩,
⟨(some 8), .mov (.t 29), none⟩] [0, 4, 5, 6, 7, 8])
 (.seq (.seq (.ops [
⟨(some 30), .faddr 0 (.t 7), none⟩,
⟨(some 31), .load false 1 (.t 30), none⟩,
⟨(some 32), .bin .eql (.t 31) (.k (.int .i64 16)), none⟩] [0, 4, 5, 6, 7, 8, 32])
 (.cond (.t 32) (.ops [
⟨(some 33), .faddr 5 (.t 7), none⟩,
⟨(some 34), .load false 1 (.t 33), none⟩,
⟨(some 8), .mov (.t 34), none⟩] [0, 4, 5, 6, 7, 8])
 .skip))
 (.opsD c_joineryref09_From_D0 [0, 0, 2, 0, 14, 0, 32, 96, 255, 511] [0, 4, 5, 6]))))))
 (.ops [
⟨(some 16), .mov (.t 6), none⟩,
⟨(some 17), .bin .add (.t 16) (.k (.int .i64 1)), none⟩,
⟨(some 6), .mov (.t 17), none⟩] [0, 4, 5, 6])))
def c_joineryref09_From : F := ⟨true, 2, (.seq (.ops [
⟨(some 4), .alloc [(.int .i64 0), .nils, (.int .i64 0)], none⟩] [0, 1, 4])
 (.seq (.ops [
⟨(some 9), .mov (.t 1), none⟩,
⟨(some 10), .call 110 [], none⟩,
⟨(some 11), .build [(.int .i64 0), .nils, (.int .i64 0)] [(0, 1, (.t 9)), (1, 1, (.t 10))], none⟩,
⟨(some 5), .alloc [(.int .i64 0), .nils, (.int .i64 0)], none⟩,
⟨none, .store 3 (.t 5) (.t 11), none⟩] [0, 4, 5])
 (.seq (.seq (.ops [
⟨(some 6), .mov (.k (.int .i64 0)), none⟩] [0, 4, 5, 6])
 (.block 0 (.loop c_joineryref09_From_L1)))
 (.seq (.ops [
⟨(some 44), .call 110 [], none⟩,
⟨(some 45), .build [(.int .i64 0), .nils, (.int .i64 0)] [(0, 1, (.k (.int .i64 (-1)))), (1, 1, (.t 44))], none⟩,
⟨none, .store 3 (.t 4) (.t 45), none⟩] [4])
 .ret)))), [.cell 4 true 3]⟩
abbrev n_joineryref09_From : Nat := 88
def c_ins_of : F := ⟨true, 1, (.seq (.ops [
⟨(some 2), .alloc [(.str []), (.str [])], none⟩,
⟨(some 3), .mov (.k (.bool false)), none⟩] [0, 2])
 (.seq (.seq (.ops [
⟨(some 4), .mov (.t 0), none⟩,
⟨(some 5), .bin .lss (.t 4) (.k (.int .i64 1)), none⟩,
⟨(some 6), .mov (.t 5), none⟩,
⟨(some 7), .mov (.t 0), (some (6, false))⟩,
⟨(some 8), .bin .gtr (.t 7) (.k (.int .i64 18)), (some (6, false))⟩,
⟨(some 9), .pick (.t 6) (.k (.bool true)) (.t 8), none⟩] [0, 2, 9])
 (.cond (.t 9) (.seq (.ops [
⟨(some 10), .build [(.str []), (.str [])] [], none⟩,
⟨none, .store 2 (.t 2) (.t 10), none⟩,
⟨(some 3), .mov (.k (.bool false)), none⟩] [2, 3])
 .ret)
 .skip))
 (.seq (.ops [
⟨(some 11), .mov (.t 0), none⟩,
⟨(some 12), .bin .sub (.t 11) (.k (.int .i64 1)), none⟩,
⟨(some 13), .iaddrA 18 2 (.k (.fp gl_1)) (.t 12), none⟩,
⟨(some 14), .load true 2 (.t 13), none⟩,
⟨none, .store 2 (.t 2) (.t 14), none⟩,
⟨(some 3), .mov (.k (.bool true)), none⟩] [2, 3])
 .ret))), [.cell 2 true 2, .tmp 3]⟩
abbrev n_ins_of : Nat := 91
def c_ins_field : F := ⟨false, 2, (.seq (.ops [
⟨(some 4), .mov (.k .nilp), none⟩] [0, 1])
 (.seq (.seq (.ops [
⟨(some 5), .mov (.t 1), none⟩] [0, 5])
 (.block 0 (.seq (.seq (.ops [
⟨(some 7), .bin .eql (.t 5) (.k (.int .i32 68)), none⟩,
⟨(some 6), .mov (.t 7), none⟩] [0, 5, 6])
 (.cond (.t 6) .skip
 (.ops [
⟨(some 8), .bin .eql (.t 5) (.k (.int .i32 100)), none⟩,
⟨(some 6), .mov (.t 8), none⟩] [0, 5, 6])))
 (.cond (.t 6) (.seq (.ops [
⟨(some 9), .mov (.t 0), none⟩,
⟨(some 10), .nilck (.t 9), none⟩,
⟨(some 11), .faddr 1 (.t 10), none⟩,
⟨(some 4), .mov (.t 11), none⟩] [4])
 .ret)
 (.seq (.seq (.ops [
⟨(some 13), .bin .eql (.t 5) (.k (.int .i32 65)), none⟩,
⟨(some 12), .mov (.t 13), none⟩] [0, 5, 12])
 (.cond (.t 12) .skip
 (.ops [
⟨(some 14), .bin .eql (.t 5) (.k (.int .i32 97)), none⟩,
⟨(some 12), .mov (.t 14), none⟩] [0, 12])))
 (.cond (.t 12) (.seq (.ops [
⟨(some 15), .mov (.t 0), none⟩,
⟨(some 16), .nilck (.t 15), none⟩,
⟨(some 17), .faddr 2 (.t 16), none⟩,
⟨(some 4), .mov (.t 17), none⟩] [4])
 .ret)
 .skip))))))
 (.seq (.ops [
⟨(some 18), .mov (.t 0), none⟩,
⟨(some 19), .nilck (.t 18), none⟩,
⟨(some 20), .faddr 3 (.t 19), none⟩,
⟨(some 4), .mov (.t 20), none⟩] [4])
 .ret))), [.tmp 4]⟩
abbrev n_ins_field : Nat := 92
def c_run_Run_D0 : List O := [
⟨(some 59), .load true 51 (.t 9), none⟩,
⟨(some 60), .load true 3 (.t 11), none⟩,
⟨none, .store 51 (.t 8) (.t 59), none⟩,
⟨(some 61), .faddr 1 (.t 7), none⟩,
⟨none, .store 3 (.t 61) (.t 60), none⟩]
def c_run_Run_L1 : C := (.seq (.ops [
⟨(some 28), .bin .lss (.t 27) (.t 26), none⟩] [0, 3, 4, 5, 7, 8, 26, 27, 28])
 (.seq (.cond (.t 28) .skip
 (.exit 0))
 (.seq (.block 1 (.seq (.seq (.ops [
⟨(some 29), .mov (.t 0), none⟩,
⟨(some 30), .faddr 49 (.t 8), none⟩,
⟨(some 31), .load false 1 (.t 30), none⟩,
⟨(some 32), .iaddr 6 (.t 29) (.t 31), none⟩,
⟨(some 33), .load true 6 (.t 32), none⟩,
⟨(some 34), .call 84 [(.t 33)], none⟩,
⟨(some 35), .un .not (.t 34), none⟩] [0, 3, 4, 5, 7, 8, 26, 27, 35])
 (.cond (.t 35) (.ops [
⟨(some 36), .faddr 5 (.t 7), none⟩,
⟨(some 37), .load false 1 (.t 36), none⟩,
⟨(some 38), .bin .add (.t 37) (.k (.int .i64 1)), none⟩,
⟨(some 39), .faddr 5 (.t 7), none⟩,
⟨none, .store 1 (.t 39) (.t 38), none⟩] [0, 3, 4, 5, 7, 8, 26, 27])
 .skip))
 (.seq (.ops [
⟨(some 40), .faddr 4 (.t 7), none⟩,
⟨(some 41), .load false 1 (.t 40), none⟩,
⟨(some 42), .bin .add (.t 41) (.k (.int .i64 1)), none⟩,
⟨(some 43), .faddr 4 (.t 7), none⟩,
⟨none, .store 1 (.t 43) (.t 42), none⟩] [0, 3, 4, 5, 7, 8, 26, 27])
 (.seq (.ops [
⟨(some 45), .mov (.t 0), none⟩,
⟨(some 46), .load true 51 (.t 8), none⟩,
⟨(some 47), .faddr 9 (.t 3), none⟩,
⟨(some 48), .load false 1 (.t 47), none⟩,
⟨(some 49), .call 41 [(.t 45), (.t 46), (.t 48)], none⟩,
⟨(some 44), .mov (.t 49), none⟩,
⟨(some 50), .extract (.t 44) 0, none⟩,
⟨(some 51), .extract (.t 44) 1, none⟩,
⟨(some 52), .extract (.t 44) 2, none⟩,
⟨(some 53), .extract (.t 44) 3, none⟩,
⟨(some 9), .alloc [(.bool false), (.int .i64 0), (.bool false), (.int .i64 0), (.bool false), (.int .i64 0), (.bool false), (.int .i64 0), (.bool false), (.int .i64 0), (.bool false), (.int .i64 0), (.bool false), (.int .i64 0), (.bool false), (.int .i64 0), (.bool false), (.int .i64 0), (.bool false), (.int .i64 0), (.bool false), (.int .i64 0), (.bool false), (.int .i64 0), (.bool false), (.int .i64 0), (.bool false), (.int .i64 0), (.bool false), (.int .i64 0), (.bool false), (.int .i64 0), (.bool false), (.int .i64 0), (.bool false), (.int .i64 0), (.bool false), (.int .i64 0), (.bool false), (.int .i64 0), (.bool false), (.int .i64 0), (.bool false), (.int .i64 0), (.bool false), (.int .i64 0), (.bool false), (.int .i64 0), .nils, (.int .i64 0), (.int .i64 0)], none⟩,
⟨(some 11), .alloc [(.int .i64 0), (.int .i64 0), .nils], none⟩,
⟨none, .store 51 (.t 9) (.t 50), none⟩,
⟨(some 10), .mov (.t 51), none⟩,
⟨none, .store 3 (.t 11) (.t 52), none⟩,
⟨(some 12), .mov (.t 53), none⟩] [0, 3, 4, 5, 7, 8, 9, 10, 11, 26, 27])
 (.seq (.ops [
⟨(some 54), .faddr 0 (.t 7), none⟩,
⟨(some 55), .load false 1 (.t 54), none⟩,
⟨(some 56), .mov (.t 10), none⟩,
⟨(some 57), .append 140 3 24 false (.t 55) (.t 56), none⟩,
⟨(some 58), .faddr 0 (.t 7), none⟩,
⟨none, .store 1 (.t 58) (.t 57), none⟩] [0, 3, 4, 5, 7, 8, 9, 11, 26, 27])
 (.seq (.opsD c_run_Run_D0 [0, 0, 1, 7, 15] [0, 3, 4, 5, 7, 8, 11, 26, 27])
 (.seq (.ops [
⟨(some 62), .faddr 0 (.t 11), none⟩,
⟨(some 63), .load false 1 (.t 62), none⟩,
⟨(some 64), .bin .neq (.t 63) (.k (.int .i64 0)), none⟩] [0, 3, 4, 5, 7, 8, 26, 27, 64])
 (.cond (.t 64) (.exit 0)
 .skip))))))))
 (.ops [
⟨(some 65), .bin .add (.t 27) (.k (.int .i64 1)), none⟩,
⟨(some 27), .mov (.t 65), none⟩] [0, 3, 4, 5, 7, 8, 26, 27]))))
def c_run_Run_D2 : List O := [
⟨(some 66), .load true 6 (.t 7), none⟩,
⟨(some 67), .load true 51 (.t 8), none⟩,
⟨none, .store 6 (.t 4) (.t 66), none⟩,
⟨none, .store 51 (.t 5) (.t 67), none⟩,
⟨(some 6), .mov (.k (.int .i64 0)), none⟩]
def c_run_Run : F := ⟨true, 2, (.seq (.ops [
⟨(some 3), .box (.t 1), none⟩,
⟨(some 4), .alloc [.nils, (.int .i64 0), (.int .i64 0), .nils, (.int .i64 0), (.int .i64 0)], none⟩,
⟨(some 5), .alloc [(.bool false), (.int .i64 0), (.bool false), (.int .i64 0), (.bool false), (.int .i64 0), (.bool false), (.int .i64 0), (.bool false), (.int .i64 0), (.bool false), (.int .i64 0), (.bool false), (.int .i64 0), (.bool false), (.int .i64 0), (.bool false), (.int .i64 0), (.bool false), (.int .i64 0), (.bool false), (.int .i64 0), (.bool false), (.int .i64 0), (.bool false), (.int .i64 0), (.bool false), (.int .i64 0), (.bool false), (.int .i64 0), (.bool false), (.int .i64 0), (.bool false), (.int .i64 0), (.bool false), (.int .i64 0), (.bool false), (.int .i64 0), (.bool false), (.int .i64 0), (.bool false), (.int .i64 0), (.bool false), (.int .i64 0), (.bool false), (.int .i64 0), (.bool false), (.int .i64 0), .nils, (.int .i64 0), (.int .i64 0)], none⟩,
⟨(some 6), .mov (.k (.int .i64 0)), none⟩] [0, 3, 4, 5])
 (.seq (.seq (.ops [
⟨(some 13), .mov (.t 0), none⟩,
⟨(some 14), .call 45 [(.t 13)], none⟩,
⟨(some 15), .un .not (.t 14), none⟩,
⟨(some 16), .mov (.t 15), none⟩,
⟨(some 17), .load true 11 (.t 3), (some (16, false))⟩,
⟨(some 18), .call 112 [(.t 17)], (some (16, false))⟩,
⟨(some 19), .un .not (.t 18), (some (16, false))⟩,
⟨(some 20), .pick (.t 16) (.k (.bool true)) (.t 19), none⟩] [0, 3, 4, 5, 20])
 (.cond (.t 20) (.seq (.ops [
⟨(some 21), .build [.nils, (.int .i64 0), (.int .i64 0), .nils, (.int .i64 0), (.int .i64 0)] [], none⟩,
⟨(some 22), .build [(.bool false), (.int .i64 0), (.bool false), (.int .i64 0), (.bool false), (.int .i64 0), (.bool false), (.int .i64 0), (.bool false), (.int .i64 0), (.bool false), (.int .i64 0), (.bool false), (.int .i64 0), (.bool false), (.int .i64 0), (.bool false), (.int .i64 0), (.bool false), (.int .i64 0), (.bool false), (.int .i64 0), (.bool false), (.int .i64 0), (.bool false), (.int .i64 0), (.bool false), (.int .i64 0), (.bool false), (.int .i64 0), (.bool false), (.int .i64 0), (.bool false), (.int .i64 0), (.bool false), (.int .i64 0), (.bool false), (.int .i64 0), (.bool false), (.int .i64 0), (.bool false), (.int .i64 0), (.bool false), (.int .i64 0), (.bool false), (.int .i64 0), (.bool false), (.int .i64 0), .nils, (.int .i64 0), (.int .i64 0)] [], none⟩,
⟨none, .store 6 (.t 4) (.t 21), none⟩,
⟨none, .store 51 (.t 5) (.t 22), none⟩,
⟨(some 6), .mov (.k (.int .i64 1)), none⟩] [4, 5, 6])
 .ret)
 .skip))
 (.seq (.ops [
⟨(some 7), .allocOwn [.nils, (.int .i64 0), (.int .i64 0), .nils, (.int .i64 0), (.int .i64 0)] [(0, 140, 3, false)], none⟩] [0, 3, 4, 5, 7])
 (.seq (.ops [
⟨(some 23), .load true 11 (.t 3), none⟩,
⟨(some 24), .call 39 [(.t 23)], none⟩,
⟨(some 8), .alloc [(.bool false), (.int .i64 0), (.bool false), (.int .i64 0), (.bool false), (.int .i64 0), (.bool false), (.int .i64 0), (.bool false), (.int .i64 0), (.bool false), (.int .i64 0), (.bool false), (.int .i64 0), (.bool false), (.int .i64 0), (.bool false), (.int .i64 0), (.bool false), (.int .i64 0), (.bool false), (.int .i64 0), (.bool false), (.int .i64 0), (.bool false), (.int .i64 0), (.bool false), (.int .i64 0), (.bool false), (.int .i64 0), (.bool false), (.int .i64 0), (.bool false), (.int .i64 0), (.bool false), (.int .i64 0), (.bool false), (.int .i64 0), (.bool false), (.int .i64 0), (.bool false), (.int .i64 0), (.bool false), (.int .i64 0), (.bool false), (.int .i64 0), (.bool false), (.int .i64 0), .nils, (.int .i64 0), (.int .i64 0)], none⟩,
⟨none, .store 51 (.t 8) (.t 24), none⟩] [0, 3, 4, 5, 7, 8])
 (.seq (.seq (.ops [
⟨(some 25), .faddr 10 (.t 3), none⟩,
⟨(some 26), .load false 1 (.t 25), none⟩,
⟨(some 27), .mov (.k (.int .i64 0)), none⟩] [0, 3, 4, 5, 7, 8, 26, 27])
 (.block 0 (.loop c_run_Run_L1)))
 (.seq (.opsD c_run_Run_D2 [0, 0, 1, 7, 15] [4, 5, 6])
 .ret)))))), [.cell 4 true 6, .cell 5 true 51, .tmp 6]⟩
abbrev n_run_Run : Nat := 93
def c_heap_Right : F := ⟨true, 1, (.seq (.ops [
⟨(some 2), .mov (.k (.bool false)), none⟩] [0])
 (.seq (.ops [
⟨(some 3), .mov (.t 0), none⟩,
⟨(some 4), .len 0 (.t 3), none⟩,
⟨(some 5), .bin .leq (.t 4) (.k (.int .i64 16)), none⟩,
⟨(some 2), .mov (.t 5), none⟩] [2])
 .ret)), [.tmp 2]⟩
abbrev n_heap_Right : Nat := 95
def c_step_work_number : F := ⟨true, 2, (.seq (.ops [
⟨(some 4), .mov (.k (.int .i64 0)), none⟩] [0, 1])
 (.seq (.ops [
⟨(some 5), .mov (.t 0), none⟩,
⟨(some 6), .mov (.t 1), none⟩,
⟨(some 7), .nilck (.t 5), none⟩,
⟨(some 8), .faddr 0 (.t 7), none⟩,
⟨(some 9), .faddr 0 (.t 8), none⟩,
⟨(some 10), .iaddrA 24 2 (.t 9) (.t 6), none⟩,
⟨(some 11), .faddr 1 (.t 10), none⟩,
⟨(some 12), .load false 1 (.t 11), none⟩,
⟨(some 4), .mov (.t 12), none⟩] [4])
 .ret)), [.tmp 4]⟩
abbrev n_step_work_number : Nat := 96
def c_step_work_set_D0 : List O := [
⟨(some 12), .mov (.t 0), none⟩,
⟨(some 13), .mov (.t 0), none⟩,
⟨(some 14), .nilck (.t 13), none⟩,
⟨(some 15), .faddr 51 (.t 14), none⟩,
⟨(some 16), .faddr 1 (.t 15), none⟩,
⟨(some 17), .load false 1 (.t 16), none⟩,
⟨(some 18), .mov (.t 1), none⟩,
⟨(some 19), .build [(.bool false), (.int .i64 0)] [(0, 1, (.k (.bool true))), (1, 1, (.t 18))], none⟩,
⟨(some 20), .nilck (.t 12), none⟩,
⟨(some 21), .faddr 0 (.t 20), none⟩,
⟨(some 22), .faddr 0 (.t 21), none⟩,
⟨(some 23), .iaddrA 24 2 (.t 22) (.t 17), none⟩,
⟨none, .store 2 (.t 23) (.t 19), none⟩]
def c_step_work_set : F := ⟨false, 3, (.seq (.ops [
⟨(some 6), .mov (.t 0), none⟩,
⟨(some 7), .mov (.t 2), none⟩,
⟨(some 8), .nilck (.t 6), none⟩,
⟨(some 9), .faddr 59 (.t 8), none⟩,
⟨none, .store 1 (.t 9) (.t 7), none⟩] [0, 1, 2])
 (.seq (.ops [
⟨(some 10), .mov (.t 2), none⟩,
⟨(some 11), .bin .eql (.t 10) (.k (.int .i64 0)), none⟩] [0, 1, 11])
 (.cond (.t 11) (.opsD c_step_work_set_D0 [0, 0, 2, 6, 14, 30, 0, 64, 1, 257, 769, 2047, 4095] [])
 .skip))), []⟩
abbrev n_step_work_set : Nat := 97
def c_heap_Load : F := ⟨true, 2, (.seq (.ops [
⟨(some 4), .mov (.k (.int .i64 0)), none⟩,
⟨(some 5), .mov (.k (.int .i64 0)), none⟩] [0, 1])
 (.seq (.seq (.ops [
⟨(some 6), .mov (.t 0), none⟩,
⟨(some 7), .mov (.t 1), none⟩,
⟨(some 8), .call 117 [(.t 6), (.t 7)], none⟩,
⟨(some 9), .un .not (.t 8), none⟩] [0, 1, 9])
 (.cond (.t 9) (.seq (.ops [
⟨(some 4), .mov (.k (.int .i64 0)), none⟩,
⟨(some 5), .mov (.k (.int .i64 4)), none⟩] [4, 5])
 .ret)
 .skip))
 (.seq (.ops [
⟨(some 10), .mov (.t 0), none⟩,
⟨(some 11), .mov (.t 1), none⟩,
⟨(some 12), .iaddr 1 (.t 10) (.t 11), none⟩,
⟨(some 13), .load false 1 (.t 12), none⟩,
⟨(some 4), .mov (.t 13), none⟩,
⟨(some 5), .mov (.k (.int .i64 0)), none⟩] [4, 5])
 .ret))), [.tmp 4, .tmp 5]⟩
abbrev n_heap_Load : Nat := 98
def c_heap_Store : F := ⟨true, 3, (.seq (.ops [
⟨(some 6), .mov (.k .nils), none⟩,
⟨(some 7), .mov (.k (.int .i64 0)), none⟩] [0, 1, 2])
 (.seq (.seq (.ops [
⟨(some 9), .mov (.t 0), none⟩,
⟨(some 10), .mov (.t 1), none⟩,
⟨(some 11), .call 117 [(.t 9), (.t 10)], none⟩,
⟨(some 12), .un .not (.t 11), none⟩] [0, 1, 2, 12])
 (.cond (.t 12) (.seq (.ops [
⟨(some 6), .mov (.k .nils), none⟩,
⟨(some 7), .mov (.k (.int .i64 4)), none⟩] [6, 7])
 .ret)
 .skip))
 (.seq (.ops [
⟨(some 13), .mov (.t 0), none⟩,
⟨(some 14), .len 0 (.t 13), none⟩,
⟨(some 15), .mkslice 2 1 8 false [(.int .i64 0)] (.t 14), none⟩,
⟨(some 8), .mov (.t 15), none⟩] [0, 1, 2, 8])
 (.seq (.ops [
⟨(some 16), .mov (.t 8), none⟩,
⟨(some 17), .mov (.t 0), none⟩,
⟨(some 18), .copy 1 (.t 16) (.t 17), none⟩] [1, 2, 8])
 (.seq (.ops [
⟨(some 19), .mov (.t 8), none⟩,
⟨(some 20), .mov (.t 1), none⟩,
⟨(some 21), .mov (.t 2), none⟩,
⟨(some 22), .iaddr 1 (.t 19) (.t 20), none⟩,
⟨none, .store 1 (.t 22) (.t 21), none⟩] [8])
 (.seq (.ops [
⟨(some 23), .mov (.t 8), none⟩,
⟨(some 6), .mov (.t 23), none⟩,
⟨(some 7), .mov (.k (.int .i64 0)), none⟩] [6, 7])
 .ret)))))), [.tmp 6, .tmp 7]⟩
abbrev n_heap_Store : Nat := 99
def c_step_work_call_D0 : List O := [
⟨(some 5), .mov (.t 0), none⟩,
⟨(some 6), .nilck (.t 5), none⟩,
⟨(some 7), .faddr 0 (.t 6), none⟩,
⟨(some 8), .faddr 50 (.t 7), none⟩,
⟨(some 9), .load false 1 (.t 8), none⟩,
⟨(some 10), .mov (.t 0), none⟩,
⟨(some 11), .nilck (.t 10), none⟩,
⟨(some 12), .faddr 57 (.t 11), none⟩,
⟨(some 13), .load false 1 (.t 12), none⟩,
⟨(some 14), .len 0 (.t 13), none⟩,
⟨(some 15), .bin .geq (.t 9) (.t 14), none⟩]
def c_step_work_call_D1 : List O := [
⟨(some 19), .mov (.t 0), none⟩,
⟨(some 20), .nilck (.t 19), none⟩,
⟨(some 21), .faddr 57 (.t 20), none⟩,
⟨(some 22), .load false 1 (.t 21), none⟩,
⟨(some 23), .mov (.t 0), none⟩,
⟨(some 24), .nilck (.t 23), none⟩,
⟨(some 25), .faddr 0 (.t 24), none⟩,
⟨(some 26), .faddr 50 (.t 25), none⟩,
⟨(some 27), .load false 1 (.t 26), none⟩,
⟨(some 28), .iaddr 1 (.t 22) (.t 27), none⟩,
⟨(some 29), .load false 1 (.t 28), none⟩,
⟨(some 4), .mov (.t 29), none⟩]
def c_step_work_call : F := ⟨false, 2, (.seq (.seq (.opsD c_step_work_call_D0 [0, 1, 3, 7, 15, 0, 32, 96, 224, 480, 1023] [0, 1, 15])
 (.cond (.t 15) (.seq (.ops [
⟨(some 16), .mov (.t 0), none⟩,
⟨(some 17), .nilck (.t 16), none⟩,
⟨(some 18), .faddr 59 (.t 17), none⟩,
⟨none, .store 1 (.t 18) (.k (.int .i64 5)), none⟩] [])
 .ret)
 .skip))
 (.seq (.opsD c_step_work_call_D1 [0, 1, 3, 7, 0, 16, 48, 112, 240, 511, 1023, 2047] [0, 1, 4])
 (.seq (.ops [
⟨(some 30), .mov (.t 0), none⟩,
⟨(some 31), .mov (.t 0), none⟩,
⟨(some 32), .nilck (.t 31), none⟩,
⟨(some 33), .faddr 51 (.t 32), none⟩,
⟨(some 34), .faddr 4 (.t 33), none⟩,
⟨(some 35), .load false 1 (.t 34), none⟩,
⟨(some 36), .mov (.t 1), none⟩,
⟨(some 37), .mov (.t 4), none⟩,
⟨(some 38), .build [(.int .i64 0), (.int .i64 0), (.int .i64 0)] [(0, 1, (.t 35)), (1, 1, (.t 36)), (2, 1, (.t 37))], none⟩,
⟨(some 39), .lit 140 3 false [(.int .i64 0), (.int .i64 0), (.int .i64 0)] 1 [(0, (.t 38))], none⟩,
⟨(some 40), .nilck (.t 30), none⟩,
⟨(some 41), .faddr 58 (.t 40), none⟩,
⟨none, .store 1 (.t 41) (.t 39), none⟩] [0, 4])
 (.seq (.ops [
⟨(some 42), .mov (.t 0), none⟩,
⟨(some 43), .nilck (.t 42), none⟩,
⟨(some 44), .faddr 0 (.t 43), none⟩,
⟨(some 45), .faddr 50 (.t 44), none⟩,
⟨(some 46), .load false 1 (.t 45), none⟩,
⟨(some 47), .bin .add (.t 46) (.k (.int .i64 1)), none⟩,
⟨(some 48), .nilck (.t 42), none⟩,
⟨(some 49), .faddr 0 (.t 48), none⟩,
⟨(some 50), .faddr 50 (.t 49), none⟩,
⟨none, .store 1 (.t 50) (.t 47), none⟩] [0, 4])
 (.ops [
⟨(some 51), .mov (.t 0), none⟩,
⟨(some 52), .mov (.t 4), none⟩,
⟨(some 53), .call 97 [(.t 51), (.t 52), (.k (.int .i64 0))], none⟩] []))))), []⟩
abbrev n_step_work_call : Nat := 100
def c_num_Do : F := ⟨true, 3, (.seq (.ops [
⟨(some 6), .mov (.k (.int .i64 0)), none⟩,
⟨(some 7), .mov (.k (.int .i64 0)), none⟩] [0, 1, 2])
 (.seq (.ops [
⟨(some 9), .call 118 [], none⟩,
⟨(some 10), .mov (.t 0), none⟩,
⟨(some 11), .lookup false .ti .nilF (.t 9) (.t 10), none⟩,
⟨(some 8), .mov (.t 11), none⟩] [0, 1, 2, 8])
 (.seq (.block 0 (.seq (.ops [
⟨(some 13), .mov (.t 8), none⟩,
⟨(some 14), .eq false .tf (.t 13) (.k .nilF), none⟩,
⟨(some 12), .mov (.t 14), none⟩] [0, 1, 2, 8, 12])
 (.cond (.t 12) (.seq (.ops [
⟨(some 6), .mov (.k (.int .i64 0)), none⟩,
⟨(some 7), .mov (.k (.int .i64 2)), none⟩] [6, 7])
 .ret)
 (.seq (.ops [
⟨(some 16), .mov (.t 0), none⟩,
⟨(some 17), .bin .eql (.t 16) (.k (.int .i64 7)), none⟩,
⟨(some 18), .mov (.t 17), none⟩,
⟨(some 19), .mov (.t 2), (some (18, true))⟩,
⟨(some 20), .bin .eql (.t 19) (.k (.int .i64 0)), (some (18, true))⟩,
⟨(some 21), .pick (.t 18) (.t 20) (.k (.bool false)), none⟩,
⟨(some 15), .mov (.t 21), none⟩] [1, 2, 8, 15])
 (.cond (.t 15) (.seq (.ops [
⟨(some 6), .mov (.k (.int .i64 0)), none⟩,
⟨(some 7), .mov (.k (.int .i64 3)), none⟩] [6, 7])
 .ret)
 .skip)))))
 (.seq (.ops [
⟨(some 22), .mov (.t 8), none⟩,
⟨(some 23), .mov (.t 1), none⟩,
⟨(some 24), .mov (.t 2), none⟩,
⟨(some 25), .callv (.t 22) [(.t 23), (.t 24)], none⟩,
⟨(some 6), .mov (.t 25), none⟩,
⟨(some 7), .mov (.k (.int .i64 0)), none⟩] [6, 7])
 .ret)))), [.tmp 6, .tmp 7]⟩
abbrev n_num_Do : Nat := 101
def c_step_work_move_D0 : List O := [
⟨(some 14), .mov (.t 2), none⟩,
⟨(some 15), .mov (.t 0), none⟩,
⟨(some 16), .nilck (.t 15), none⟩,
⟨(some 17), .faddr 51 (.t 16), none⟩,
⟨(some 18), .faddr 1 (.t 17), none⟩,
⟨(some 19), .load false 1 (.t 18), none⟩,
⟨(some 20), .mov (.t 0), none⟩,
⟨(some 21), .nilck (.t 20), none⟩,
⟨(some 22), .faddr 51 (.t 21), none⟩,
⟨(some 23), .faddr 4 (.t 22), none⟩,
⟨(some 24), .load false 1 (.t 23), none⟩,
⟨(some 25), .build [(.bool false), (.int .i64 0)] [(0, 1, (.k (.bool true))), (1, 1, (.t 24))], none⟩,
⟨(some 26), .nilck (.t 14), none⟩,
⟨(some 27), .iaddrA 24 2 (.t 26) (.t 19), none⟩,
⟨none, .store 2 (.t 27) (.t 25), none⟩]
def c_step_work_move_D1 : List O := [
⟨(some 30), .mov (.t 2), none⟩,
⟨(some 31), .mov (.t 0), none⟩,
⟨(some 32), .nilck (.t 31), none⟩,
⟨(some 33), .faddr 51 (.t 32), none⟩,
⟨(some 34), .faddr 1 (.t 33), none⟩,
⟨(some 35), .load false 1 (.t 34), none⟩,
⟨(some 36), .mov (.t 2), none⟩,
⟨(some 37), .mov (.t 0), none⟩,
⟨(some 38), .nilck (.t 37), none⟩,
⟨(some 39), .faddr 51 (.t 38), none⟩,
⟨(some 40), .faddr 2 (.t 39), none⟩,
⟨(some 41), .load false 1 (.t 40), none⟩,
⟨(some 42), .nilck (.t 36), none⟩,
⟨(some 43), .iaddrA 24 2 (.t 42) (.t 41), none⟩,
⟨(some 44), .load true 2 (.t 43), none⟩,
⟨(some 45), .nilck (.t 30), none⟩,
⟨(some 46), .iaddrA 24 2 (.t 45) (.t 35), none⟩,
⟨none, .store 2 (.t 46) (.t 44), none⟩]
def c_step_work_move_D2 : List O := [
⟨(some 49), .mov (.t 2), none⟩,
⟨(some 50), .mov (.t 0), none⟩,
⟨(some 51), .nilck (.t 50), none⟩,
⟨(some 52), .faddr 51 (.t 51), none⟩,
⟨(some 53), .faddr 1 (.t 52), none⟩,
⟨(some 54), .load false 1 (.t 53), none⟩,
⟨(some 55), .mov (.t 2), none⟩,
⟨(some 56), .mov (.t 0), none⟩,
⟨(some 57), .nilck (.t 56), none⟩,
⟨(some 58), .faddr 51 (.t 57), none⟩,
⟨(some 59), .faddr 2 (.t 58), none⟩,
⟨(some 60), .load false 1 (.t 59), none⟩,
⟨(some 61), .mov (.t 2), none⟩,
⟨(some 62), .mov (.t 0), none⟩,
⟨(some 63), .nilck (.t 62), none⟩,
⟨(some 64), .faddr 51 (.t 63), none⟩,
⟨(some 65), .faddr 2 (.t 64), none⟩,
⟨(some 66), .load false 1 (.t 65), none⟩,
⟨(some 67), .nilck (.t 61), none⟩,
⟨(some 68), .iaddrA 24 2 (.t 67) (.t 66), none⟩,
⟨(some 69), .load true 2 (.t 68), none⟩,
⟨(some 70), .mov (.t 2), none⟩,
⟨(some 71), .mov (.t 0), none⟩,
⟨(some 72), .nilck (.t 71), none⟩,
⟨(some 73), .faddr 51 (.t 72), none⟩,
⟨(some 74), .faddr 1 (.t 73), none⟩,
⟨(some 75), .load false 1 (.t 74), none⟩,
⟨(some 76), .nilck (.t 70), none⟩,
⟨(some 77), .iaddrA 24 2 (.t 76) (.t 75), none⟩,
⟨(some 78), .load true 2 (.t 77), none⟩,
⟨(some 79), .nilck (.t 49), none⟩,
⟨(some 80), .iaddrA 24 2 (.t 79) (.t 54), none⟩,
⟨none, .store 2 (.t 80) (.t 69), none⟩,
⟨(some 81), .nilck (.t 55), none⟩,
⟨(some 82), .iaddrA 24 2 (.t 81) (.t 60), none⟩,
⟨none, .store 2 (.t 82) (.t 78), none⟩]
def c_step_work_move : F := ⟨false, 1, (.seq (.ops [
⟨(some 3), .mov (.t 0), none⟩,
⟨(some 4), .nilck (.t 3), none⟩,
⟨(some 5), .faddr 0 (.t 4), none⟩,
⟨(some 6), .faddr 0 (.t 5), none⟩,
⟨(some 2), .mov (.t 6), none⟩] [0, 2])
 (.seq (.ops [
⟨(some 7), .mov (.t 0), none⟩,
⟨(some 8), .nilck (.t 7), none⟩,
⟨(some 9), .faddr 51 (.t 8), none⟩,
⟨(some 10), .faddr 0 (.t 9), none⟩,
⟨(some 11), .load false 1 (.t 10), none⟩] [0, 2, 11])
 (.block 0 (.seq (.ops [
⟨(some 13), .bin .eql (.t 11) (.k (.int .i64 1)), none⟩,
⟨(some 12), .mov (.t 13), none⟩] [0, 2, 11, 12])
 (.cond (.t 12) (.opsD c_step_work_move_D0 [0, 0, 2, 6, 14, 30, 0, 64, 192, 448, 960, 1984, 1, 8191, 16383] [])
 (.seq (.ops [
⟨(some 29), .bin .eql (.t 11) (.k (.int .i64 2)), none⟩,
⟨(some 28), .mov (.t 29), none⟩] [0, 2, 11, 28])
 (.cond (.t 28) (.opsD c_step_work_move_D1 [0, 0, 2, 6, 14, 30, 0, 0, 128, 384, 896, 1920, 64, 8128, 16320, 1, 65535, 131071] [])
 (.seq (.ops [
⟨(some 48), .bin .eql (.t 11) (.k (.int .i64 3)), none⟩,
⟨(some 47), .mov (.t 48), none⟩] [0, 2, 47])
 (.cond (.t 47) (.opsD c_step_work_move_D2 [0, 0, 2, 6, 14, 30, 0, 0, 128, 384, 896, 1920, 0, 0, 8192, 24576, 57344, 122880, 4096, 520192, 1044480, 0, 0, 4194304, 12582912, 29360128, 62914560, 2097152, 266338304, 534773760, 1, 2147483583, 4294967231, 64, 17179869183, 34359738367] [])
 .skip))))))))), []⟩
abbrev n_step_work_move : Nat := 102
def c_joineryref03_only : F := ⟨true, 1, (.seq (.ops [
⟨(some 1), .box (.t 0), none⟩,
⟨(some 2), .alloc [(.int .i64 0), (.int .i64 0), (.int .i64 0), (.int .i64 0), (.int .i64 0), (.int .i64 0)], none⟩] [1, 2])
 (.seq (.ops [
⟨(some 4), .faddr 0 (.t 1), none⟩,
⟨(some 5), .load false 1 (.t 4), none⟩,
⟨(some 6), .build [(.int .i64 0), (.int .i64 0), (.int .i64 0), (.int .i64 0), (.int .i64 0), (.int .i64 0)] [(0, 1, (.t 5))], none⟩,
⟨(some 3), .alloc [(.int .i64 0), (.int .i64 0), (.int .i64 0), (.int .i64 0), (.int .i64 0), (.int .i64 0)], none⟩,
⟨none, .store 6 (.t 3) (.t 6), none⟩] [1, 2, 3])
 (.seq (.seq (.ops [
⟨(some 7), .faddr 0 (.t 1), none⟩,
⟨(some 8), .load false 1 (.t 7), none⟩,
⟨(some 9), .bin .eql (.t 8) (.k (.int .i64 1)), none⟩,
⟨(some 10), .mov (.t 9), none⟩,
⟨(some 11), .faddr 0 (.t 1), (some (10, false))⟩,
⟨(some 12), .load false 1 (.t 11), (some (10, false))⟩,
⟨(some 13), .bin .eql (.t 12) (.k (.int .i64 15)), (some (10, false))⟩,
⟨(some 14), .pick (.t 10) (.k (.bool true)) (.t 13), none⟩] [1, 2, 3, 14])
 (.cond (.t 14) (.ops [
⟨(some 15), .faddr 4 (.t 1), none⟩,
⟨(some 16), .load false 1 (.t 15), none⟩,
⟨(some 17), .faddr 4 (.t 3), none⟩,
⟨none, .store 1 (.t 17) (.t 16), none⟩] [1, 2, 3])
 .skip))
 (.seq (.seq (.ops [
⟨(some 18), .faddr 0 (.t 1), none⟩,
⟨(some 19), .load false 1 (.t 18), none⟩,
⟨(some 20), .bin .eql (.t 19) (.k (.int .i64 16)), none⟩,
⟨(some 21), .mov (.t 20), none⟩,
⟨(some 22), .faddr 0 (.t 1), (some (21, false))⟩,
⟨(some 23), .load false 1 (.t 22), (some (21, false))⟩,
⟨(some 24), .bin .eql (.t 23) (.k (.int .i64 17)), (some (21, false))⟩,
⟨(some 25), .pick (.t 21) (.k (.bool true)) (.t 24), none⟩] [1, 2, 3, 25])
 (.cond (.t 25) (.ops [
⟨(some 26), .faddr 5 (.t 1), none⟩,
⟨(some 27), .load false 1 (.t 26), none⟩,
⟨(some 28), .faddr 5 (.t 3), none⟩,
⟨none, .store 1 (.t 28) (.t 27), none⟩] [1, 2, 3])
 .skip))
 (.seq (.seq (.ops [
⟨(some 29), .faddr 0 (.t 1), none⟩,
⟨(some 30), .load false 1 (.t 29), none⟩,
⟨(some 31), .bin .leq (.t 30) (.k (.int .i64 13)), none⟩,
⟨(some 32), .mov (.t 31), none⟩,
⟨(some 33), .faddr 0 (.t 1), (some (32, false))⟩,
⟨(some 34), .load false 1 (.t 33), (some (32, false))⟩,
⟨(some 35), .bin .eql (.t 34) (.k (.int .i64 15)), (some (32, false))⟩,
⟨(some 36), .pick (.t 32) (.k (.bool true)) (.t 35), none⟩] [1, 2, 3, 36])
 (.cond (.t 36) (.ops [
⟨(some 37), .faddr 1 (.t 1), none⟩,
⟨(some 38), .load false 1 (.t 37), none⟩,
⟨(some 39), .faddr 1 (.t 3), none⟩,
⟨none, .store 1 (.t 39) (.t 38), none⟩] [1, 2, 3])
 .skip))
 (.seq (.seq (.ops [
⟨(some 40), .faddr 0 (.t 1), none⟩,
⟨(some 41), .load false 1 (.t 40), none⟩,
⟨(some 42), .bin .neq (.t 41) (.k (.int .i64 1)), none⟩,
⟨(some 43), .mov (.t 42), none⟩,
⟨(some 44), .faddr 0 (.t 1), (some (43, true))⟩,
⟨(some 45), .load false 1 (.t 44), (some (43, true))⟩,
⟨(some 46), .bin .neq (.t 45) (.k (.int .i64 16)), (some (43, true))⟩,
⟨(some 47), .pick (.t 43) (.t 46) (.k (.bool false)), none⟩] [1, 2, 3, 47])
 (.cond (.t 47) (.ops [
⟨(some 48), .faddr 2 (.t 1), none⟩,
⟨(some 49), .load false 1 (.t 48), none⟩,
⟨(some 50), .faddr 2 (.t 3), none⟩,
⟨none, .store 1 (.t 50) (.t 49), none⟩] [1, 2, 3])
 .skip))
 (.seq (.seq (.ops [
⟨(some 51), .faddr 0 (.t 1), none⟩,
⟨(some 52), .load false 1 (.t 51), none⟩,
⟨(some 53), .bin .geq (.t 52) (.k (.int .i64 4)), none⟩,
⟨(some 54), .mov (.t 53), none⟩,
⟨(some 55), .faddr 0 (.t 1), (some (54, true))⟩,
⟨(some 56), .load false 1 (.t 55), (some (54, true))⟩,
⟨(some 57), .bin .leq (.t 56) (.k (.int .i64 12)), (some (54, true))⟩,
⟨(some 58), .pick (.t 54) (.t 57) (.k (.bool false)), none⟩,
⟨(some 59), .mov (.t 58), none⟩,
⟨(some 60), .faddr 0 (.t 1), (some (59, false))⟩,
⟨(some 61), .load false 1 (.t 60), (some (59, false))⟩,
⟨(some 62), .bin .eql (.t 61) (.k (.int .i64 14)), (some (59, false))⟩,
⟨(some 63), .pick (.t 59) (.k (.bool true)) (.t 62), none⟩] [1, 2, 3, 63])
 (.cond (.t 63) (.ops [
⟨(some 64), .faddr 3 (.t 1), none⟩,
⟨(some 65), .load false 1 (.t 64), none⟩,
⟨(some 66), .faddr 3 (.t 3), none⟩,
⟨none, .store 1 (.t 66) (.t 65), none⟩] [2, 3])
 .skip))
 (.seq (.ops [
⟨(some 67), .load true 6 (.t 3), none⟩,
⟨none, .store 6 (.t 2) (.t 67), none⟩] [2])
 .ret)))))))), [.cell 2 true 6]⟩
abbrev n_joineryref03_only : Nat := 103
def c_joineryref03_place : F := ⟨true, 1, (.seq (.ops [
⟨(some 2), .mov (.k (.bool false)), none⟩] [0])
 (.seq (.ops [
⟨(some 3), .mov (.t 0), none⟩,
⟨(some 4), .bin .geq (.t 3) (.k (.int .i64 0)), none⟩,
⟨(some 5), .mov (.t 4), none⟩,
⟨(some 6), .mov (.t 0), (some (5, true))⟩,
⟨(some 7), .bin .lss (.t 6) (.k (.int .i64 24)), (some (5, true))⟩,
⟨(some 8), .pick (.t 5) (.t 7) (.k (.bool false)), none⟩,
⟨(some 2), .mov (.t 8), none⟩] [2])
 .ret)), [.tmp 2]⟩
abbrev n_joineryref03_place : Nat := 104
def c_joineryref03_reg : F := ⟨true, 1, (.seq (.ops [
⟨(some 2), .mov (.k (.bool false)), none⟩] [0])
 (.seq (.ops [
⟨(some 3), .mov (.t 0), none⟩,
⟨(some 4), .bin .geq (.t 3) (.k (.int .i64 0)), none⟩,
⟨(some 5), .mov (.t 4), none⟩,
⟨(some 6), .mov (.t 0), (some (5, true))⟩,
⟨(some 7), .bin .lss (.t 6) (.k (.int .i64 8)), (some (5, true))⟩,
⟨(some 8), .pick (.t 5) (.t 7) (.k (.bool false)), none⟩,
⟨(some 2), .mov (.t 8), none⟩] [2])
 .ret)), [.tmp 2]⟩
abbrev n_joineryref03_reg : Nat := 105
def c_ins_words_L0 : C := (.seq (.ops [
⟨(some 9), .next (.t 8), none⟩,
⟨(some 10), .extract (.t 9) 0, none⟩] [0, 3, 4, 8, 9, 10])
 (.seq (.cond (.t 10) .skip
 (.exit 0))
 (.block 1 (.seq (.ops [
⟨(some 11), .extract (.t 9) 1, none⟩,
⟨(some 12), .extract (.t 9) 2, none⟩,
⟨(some 5), .mov (.t 11), none⟩,
⟨(some 6), .mov (.t 12), none⟩] [0, 3, 4, 5, 6, 8])
 (.seq (.ops [
⟨(some 13), .mov (.t 6), none⟩,
⟨(some 14), .bin .eql (.t 13) (.k (.int .i32 32)), none⟩] [0, 3, 4, 5, 8, 14])
 (.cond (.t 14) (.seq (.ops [
⟨(some 15), .mov (.t 3), none⟩,
⟨(some 16), .mov (.t 0), none⟩,
⟨(some 17), .mov (.t 4), none⟩,
⟨(some 18), .mov (.t 5), none⟩,
⟨(some 19), .sliceS (.t 16) (some (.t 17)) (some (.t 18)), none⟩,
⟨(some 20), .lit 9 1 false [(.str [])] 1 [(0, (.t 19))], none⟩,
⟨(some 21), .append 9 1 16 false (.t 15) (.t 20), none⟩,
⟨(some 3), .mov (.t 21), none⟩] [0, 3, 5, 8])
 (.ops [
⟨(some 22), .mov (.t 5), none⟩,
⟨(some 23), .bin .add (.t 22) (.k (.int .i64 1)), none⟩,
⟨(some 4), .mov (.t 23), none⟩] [0, 3, 4, 8]))
 .skip))))))
def c_ins_words : F := ⟨true, 1, (.seq (.ops [
⟨(some 2), .mov (.k .nils), none⟩] [0])
 (.seq (.ops [
⟨(some 3), .ownnil 9 1 false, none⟩] [0, 3])
 (.seq (.ops [
⟨(some 4), .mov (.k (.int .i64 0)), none⟩] [0, 3, 4])
 (.seq (.seq (.ops [
⟨(some 7), .mov (.t 0), none⟩,
⟨(some 8), .range (.t 7), none⟩] [0, 3, 4, 8])
 (.block 0 (.loop c_ins_words_L0)))
 (.seq (.ops [
⟨(some 24), .mov (.t 3), none⟩,
⟨(some 25), .mov (.t 0), none⟩,
⟨(some 26), .mov (.t 4), none⟩,
⟨(some 27), .sliceS (.t 25) (some (.t 26)) none, none⟩,
⟨(some 28), .lit 9 1 false [(.str [])] 1 [(0, (.t 27))], none⟩,
⟨(some 29), .append 9 1 16 false (.t 24) (.t 28), none⟩,
⟨(some 2), .mov (.t 29), none⟩] [2])
 .ret))))), [.tmp 2]⟩
abbrev n_ins_words : Nat := 106
def c_ins_fill : F := ⟨false, 3, (.seq (.ops [
⟨(some 6), .mov (.k (.int .i64 0)), none⟩] [0, 1, 2])
 (.seq (.seq (.ops [
⟨(some 11), .mov (.t 1), none⟩] [0, 1, 2, 11])
 (.block 0 (.seq (.seq (.ops [
⟨(some 13), .bin .eql (.t 11) (.k (.int .i32 78)), none⟩,
⟨(some 12), .mov (.t 13), none⟩] [0, 1, 2, 11, 12])
 (.cond (.t 12) .skip
 (.ops [
⟨(some 14), .bin .eql (.t 11) (.k (.int .i32 84)), none⟩,
⟨(some 12), .mov (.t 14), none⟩] [0, 1, 2, 12])))
 (.cond (.t 12) (.seq (.ops [
⟨(some 16), .mov (.t 2), none⟩,
⟨(some 17), .call 119 [(.t 16)], none⟩,
⟨(some 15), .mov (.t 17), none⟩,
⟨(some 18), .extract (.t 15) 0, none⟩,
⟨(some 19), .extract (.t 15) 1, none⟩,
⟨(some 7), .mov (.t 18), none⟩,
⟨(some 8), .mov (.t 19), none⟩] [0, 1, 7, 8])
 (.seq (.seq (.ops [
⟨(some 20), .mov (.t 1), none⟩,
⟨(some 21), .bin .eql (.t 20) (.k (.int .i32 78)), none⟩] [0, 7, 8, 21])
 (.cond (.t 21) (.ops [
⟨(some 22), .mov (.t 0), none⟩,
⟨(some 23), .mov (.t 7), none⟩,
⟨(some 24), .nilck (.t 22), none⟩,
⟨(some 25), .faddr 4 (.t 24), none⟩,
⟨none, .store 1 (.t 25) (.t 23), none⟩] [8])
 (.ops [
⟨(some 26), .mov (.t 0), none⟩,
⟨(some 27), .mov (.t 7), none⟩,
⟨(some 28), .nilck (.t 26), none⟩,
⟨(some 29), .faddr 5 (.t 28), none⟩,
⟨none, .store 1 (.t 29) (.t 27), none⟩] [8])))
 (.seq (.ops [
⟨(some 30), .mov (.t 8), none⟩,
⟨(some 6), .mov (.t 30), none⟩] [6])
 .ret)))
 .skip))))
 (.seq (.ops [
⟨(some 32), .mov (.t 2), none⟩,
⟨(some 33), .call 120 [(.t 32)], none⟩,
⟨(some 31), .mov (.t 33), none⟩,
⟨(some 34), .extract (.t 31) 0, none⟩,
⟨(some 35), .extract (.t 31) 1, none⟩,
⟨(some 9), .mov (.t 34), none⟩,
⟨(some 10), .mov (.t 35), none⟩] [0, 1, 9, 10])
 (.seq (.ops [
⟨(some 36), .mov (.t 0), none⟩,
⟨(some 37), .mov (.t 1), none⟩,
⟨(some 38), .call 92 [(.t 36), (.t 37)], none⟩,
⟨(some 39), .mov (.t 9), none⟩,
⟨(some 40), .nilck (.t 38), none⟩,
⟨none, .store 1 (.t 40) (.t 39), none⟩] [10])
 (.seq (.ops [
⟨(some 41), .mov (.t 10), none⟩,
⟨(some 6), .mov (.t 41), none⟩] [6])
 .ret))))), [.tmp 6]⟩
abbrev n_ins_fill : Nat := 107
def c_ins_Check_L0 : C := (.seq (.ops [
⟨(some 43), .next (.t 42), none⟩,
⟨(some 44), .extract (.t 43) 0, none⟩] [1, 2, 7, 42, 43, 44])
 (.seq (.cond (.t 44) .skip
 (.exit 0))
 (.block 1 (.seq (.ops [
⟨(some 45), .extract (.t 43) 2, none⟩,
⟨(some 9), .mov (.t 45), none⟩] [1, 2, 7, 9, 42])
 (.block 2 (.seq (.ops [
⟨(some 47), .mov (.t 9), none⟩,
⟨(some 48), .bin .eql (.t 47) (.k (.int .i32 78)), none⟩,
⟨(some 46), .mov (.t 48), none⟩] [1, 2, 7, 9, 42, 46])
 (.cond (.t 46) .skip
 (.seq (.ops [
⟨(some 50), .mov (.t 9), none⟩,
⟨(some 51), .bin .eql (.t 50) (.k (.int .i32 84)), none⟩,
⟨(some 49), .mov (.t 51), none⟩] [1, 2, 7, 9, 42, 49])
 (.cond (.t 49) (.ops [
⟨(some 52), .faddr 5 (.t 2), none⟩,
⟨(some 53), .load false 1 (.t 52), none⟩,
⟨(some 54), .bin .lss (.t 53) (.k (.int .i64 0)), none⟩,
⟨(some 55), .mov (.t 54), none⟩,
⟨(some 56), .faddr 5 (.t 2), (some (55, false))⟩,
⟨(some 57), .load false 1 (.t 56), (some (55, false))⟩,
⟨(some 58), .mov (.t 1), (some (55, false))⟩,
⟨(some 59), .bin .geq (.t 57) (.t 58), (some (55, false))⟩,
⟨(some 60), .pick (.t 55) (.k (.bool true)) (.t 59), none⟩,
⟨(some 7), .mov (.t 60), none⟩] [1, 2, 7, 42])
 (.seq (.seq (.ops [
⟨(some 62), .mov (.t 9), none⟩,
⟨(some 63), .bin .geq (.t 62) (.k (.int .i32 97)), none⟩,
⟨(some 64), .mov (.t 63), none⟩,
⟨(some 65), .mov (.t 9), (some (64, true))⟩,
⟨(some 66), .call 92 [(.t 2), (.t 65)], (some (64, true))⟩,
⟨(some 67), .nilck (.t 66), (some (64, true))⟩,
⟨(some 68), .load false 1 (.t 67), (some (64, true))⟩,
⟨(some 69), .call 81 [(.t 68)], (some (64, true))⟩,
⟨(some 70), .un .not (.t 69), (some (64, true))⟩,
⟨(some 71), .pick (.t 64) (.t 70) (.k (.bool false)), none⟩,
⟨(some 61), .mov (.t 71), none⟩] [1, 2, 7, 9, 42, 61])
 (.cond (.t 61) .skip
 (.ops [
⟨(some 72), .mov (.t 9), none⟩,
⟨(some 73), .bin .lss (.t 72) (.k (.int .i32 97)), none⟩,
⟨(some 74), .mov (.t 73), none⟩,
⟨(some 75), .mov (.t 9), (some (74, true))⟩,
⟨(some 76), .call 92 [(.t 2), (.t 75)], (some (74, true))⟩,
⟨(some 77), .nilck (.t 76), (some (74, true))⟩,
⟨(some 78), .load false 1 (.t 77), (some (74, true))⟩,
⟨(some 79), .call 86 [(.t 78)], (some (74, true))⟩,
⟨(some 80), .un .not (.t 79), (some (74, true))⟩,
⟨(some 81), .pick (.t 74) (.t 80) (.k (.bool false)), none⟩,
⟨(some 61), .mov (.t 81), none⟩] [1, 2, 7, 42, 61])))
 (.cond (.t 61) (.seq (.ops [
⟨(some 4), .mov (.k (.int .i64 6)), none⟩] [4])
 .ret)
 .skip)))))))))))
def c_ins_Check : F := ⟨true, 2, (.seq (.ops [
⟨(some 2), .box (.t 0), none⟩,
⟨(some 4), .mov (.k (.int .i64 0)), none⟩] [1, 2])
 (.seq (.ops [
⟨(some 11), .faddr 0 (.t 2), none⟩,
⟨(some 12), .load false 1 (.t 11), none⟩,
⟨(some 13), .call 91 [(.t 12)], none⟩,
⟨(some 10), .mov (.t 13), none⟩,
⟨(some 14), .extract (.t 10) 0, none⟩,
⟨(some 15), .extract (.t 10) 1, none⟩,
⟨(some 5), .alloc [(.str []), (.str [])], none⟩,
⟨none, .store 2 (.t 5) (.t 14), none⟩,
⟨(some 6), .mov (.t 15), none⟩] [1, 2, 5, 6])
 (.seq (.seq (.ops [
⟨(some 16), .mov (.t 6), none⟩,
⟨(some 17), .un .not (.t 16), none⟩,
⟨(some 18), .mov (.t 17), none⟩,
⟨(some 19), .load true 6 (.t 2), (some (18, false))⟩,
⟨(some 20), .load true 2 (.t 5), (some (18, false))⟩,
⟨(some 21), .call 121 [(.t 19), (.t 20)], (some (18, false))⟩,
⟨(some 22), .build [(.int .i64 0), (.int .i64 0), (.int .i64 0), (.int .i64 0), (.int .i64 0), (.int .i64 0)] [], (some (18, false))⟩,
⟨(some 23), .eq true (.tst [(1, .ti), (1, .ti), (1, .ti), (1, .ti), (1, .ti), (1, .ti)]) (.t 21) (.t 22), (some (18, false))⟩,
⟨(some 24), .pick (.t 18) (.k (.bool true)) (.t 23), none⟩,
⟨(some 25), .mov (.t 24), none⟩,
⟨(some 26), .faddr 0 (.t 2), (some (25, false))⟩,
⟨(some 27), .load false 1 (.t 26), (some (25, false))⟩,
⟨(some 28), .bin .eql (.t 27) (.k (.int .i64 15)), (some (25, false))⟩,
⟨(some 29), .mov (.t 28), (some (25, false))⟩,
⟨(some 30), .faddr 4 (.t 2), (some (29, true))⟩,
⟨(some 31), .load false 1 (.t 30), (some (29, true))⟩,
⟨(some 32), .bin .lss (.t 31) (.k (.int .i64 0)), (some (29, true))⟩,
⟨(some 33), .mov (.t 32), (some (29, true))⟩,
⟨(some 34), .faddr 4 (.t 2), (some (33, false))⟩,
⟨(some 35), .load false 1 (.t 34), (some (33, false))⟩,
⟨(some 36), .bin .gtr (.t 35) (.k (.int .i64 99)), (some (33, false))⟩,
⟨(some 37), .pick (.t 33) (.k (.bool true)) (.t 36), (some (29, true))⟩,
⟨(some 38), .pick (.t 29) (.t 37) (.k (.bool false)), (some (25, false))⟩,
⟨(some 39), .pick (.t 25) (.k (.bool true)) (.t 38), none⟩] [1, 2, 5, 39])
 (.cond (.t 39) (.seq (.ops [
⟨(some 4), .mov (.k (.int .i64 1)), none⟩] [4])
 .ret)
 .skip))
 (.seq (.ops [
⟨(some 7), .mov (.k (.bool false)), none⟩] [1, 2, 5, 7])
 (.seq (.seq (.ops [
⟨(some 40), .faddr 1 (.t 5), none⟩,
⟨(some 41), .load false 1 (.t 40), none⟩,
⟨(some 42), .range (.t 41), none⟩] [1, 2, 7, 42])
 (.block 0 (.loop c_ins_Check_L0)))
 (.seq (.seq (.ops [
⟨(some 82), .mov (.t 7), none⟩] [82])
 (.cond (.t 82) (.seq (.ops [
⟨(some 4), .mov (.k (.int .i64 4)), none⟩] [4])
 .ret)
 .skip))
 (.seq (.ops [
⟨(some 4), .mov (.k (.int .i64 0)), none⟩] [4])
 .ret))))))), [.tmp 4]⟩
abbrev n_ins_Check : Nat := 108
def c_env_good : F := ⟨true, 1, (.seq (.ops [
⟨(some 1), .box (.t 0), none⟩,
⟨(some 2), .alloc [.nilI, .nilI, .nilI, .nilI, .nilI, .nilI, .nilI, .nilI, .nilI, .nilI, .nilI, .nilI, .nilI, .nilI, .nilI, .nilI, .nilI, .nilI, .nilI, .nilI, .nilI, .nilI, .nilI, .nilI], none⟩] [1, 2])
 (.seq (.seq (.ops [
⟨(some 3), .load true 24 (.t 1), none⟩,
⟨(some 4), .call 122 [(.t 3)], none⟩] [1, 2, 4])
 (.cond (.t 4) (.seq (.ops [
⟨(some 5), .load true 24 (.t 1), none⟩,
⟨none, .store 24 (.t 2) (.t 5), none⟩] [2])
 .ret)
 .skip))
 (.seq (.ops [
⟨(some 6), .call 82 [], none⟩,
⟨none, .store 24 (.t 2) (.t 6), none⟩] [2])
 .ret))), [.cell 2 true 24]⟩
abbrev n_env_good : Nat := 109
def c_joineryref05_New_L0 : C := (.seq (.seq (.ops [
⟨(some 3), .mov (.t 2), none⟩,
⟨(some 4), .bin .lss (.t 3) (.k (.int .i64 24)), none⟩] [1, 2, 4])
 (.cond (.t 4) .skip
 (.exit 0)))
 (.seq (.block 1 (.ops [
⟨(some 7), .mov (.t 1), none⟩,
⟨(some 8), .mov (.t 2), none⟩,
⟨(some 9), .build [(.int .i64 0), (.int .i64 0)] [(1, 1, (.t 8))], none⟩,
⟨(some 10), .lit 124 2 false [(.int .i64 0), (.int .i64 0)] 1 [(0, (.t 9))], none⟩,
⟨(some 11), .append 124 2 16 false (.t 7) (.t 10), none⟩,
⟨(some 1), .mov (.t 11), none⟩] [1, 2]))
 (.ops [
⟨(some 5), .mov (.t 2), none⟩,
⟨(some 6), .bin .add (.t 5) (.k (.int .i64 1)), none⟩,
⟨(some 2), .mov (.t 6), none⟩] [1, 2])))
def c_joineryref05_New : F := ⟨true, 0, (.seq (.ops [
⟨(some 0), .mov (.k .nils), none⟩] [])
 (.seq (.ops [
⟨(some 1), .ownnil 124 2 false, none⟩] [1])
 (.seq (.seq (.ops [
⟨(some 2), .mov (.k (.int .i64 0)), none⟩] [1, 2])
 (.block 0 (.loop c_joineryref05_New_L0)))
 (.seq (.ops [
⟨(some 12), .mov (.t 1), none⟩,
⟨(some 0), .mov (.t 12), none⟩] [0])
 .ret)))), [.tmp 0]⟩
abbrev n_joineryref05_New : Nat := 110
def c_joineryref05_After_D0 : List O := [
⟨(some 23), .mov (.t 5), none⟩,
⟨(some 24), .faddr 1 (.t 3), none⟩,
⟨(some 25), .load false 1 (.t 24), none⟩,
⟨(some 26), .iaddr 2 (.t 23) (.t 25), none⟩,
⟨(some 27), .load true 2 (.t 26), none⟩,
⟨(some 28), .mov (.t 5), none⟩,
⟨(some 29), .faddr 2 (.t 3), none⟩,
⟨(some 30), .load false 1 (.t 29), none⟩,
⟨(some 31), .iaddr 2 (.t 28) (.t 30), none⟩,
⟨(some 32), .load true 2 (.t 31), none⟩,
⟨(some 6), .alloc [(.int .i64 0), (.int .i64 0)], none⟩,
⟨(some 7), .alloc [(.int .i64 0), (.int .i64 0)], none⟩,
⟨none, .store 2 (.t 6) (.t 27), none⟩,
⟨none, .store 2 (.t 7) (.t 32), none⟩]
def c_joineryref05_After : F := ⟨true, 2, (.seq (.ops [
⟨(some 3), .box (.t 1), none⟩,
⟨(some 4), .mov (.k .nils), none⟩] [0, 3])
 (.seq (.ops [
⟨(some 8), .lit 124 2 false [(.int .i64 0), (.int .i64 0)] 0 [], none⟩,
⟨(some 9), .mov (.t 0), none⟩,
⟨(some 10), .call 123 [(.t 9)], none⟩,
⟨(some 11), .append 124 2 16 false (.t 8) (.t 10), none⟩,
⟨(some 5), .mov (.t 11), none⟩] [3, 5])
 (.seq (.seq (.ops [
⟨(some 12), .faddr 1 (.t 3), none⟩,
⟨(some 13), .load false 1 (.t 12), none⟩,
⟨(some 14), .call 124 [(.t 13)], none⟩,
⟨(some 15), .un .not (.t 14), none⟩,
⟨(some 16), .mov (.t 15), none⟩,
⟨(some 17), .faddr 2 (.t 3), (some (16, false))⟩,
⟨(some 18), .load false 1 (.t 17), (some (16, false))⟩,
⟨(some 19), .call 124 [(.t 18)], (some (16, false))⟩,
⟨(some 20), .un .not (.t 19), (some (16, false))⟩,
⟨(some 21), .pick (.t 16) (.k (.bool true)) (.t 20), none⟩] [3, 5, 21])
 (.cond (.t 21) (.seq (.ops [
⟨(some 22), .mov (.t 5), none⟩,
⟨(some 4), .mov (.t 22), none⟩] [4])
 .ret)
 .skip))
 (.seq (.opsD c_joineryref05_After_D0 [0, 0, 2, 7, 15, 0, 0, 64, 224, 480, 0, 0, 3103, 8191] [3, 5, 6, 7])
 (.seq (.seq (.ops [
⟨(some 33), .faddr 0 (.t 3), none⟩,
⟨(some 34), .load false 1 (.t 33), none⟩,
⟨(some 35), .bin .eql (.t 34) (.k (.int .i64 1)), none⟩] [3, 5, 6, 7, 35])
 (.cond (.t 35) (.ops [
⟨(some 36), .mov (.t 5), none⟩,
⟨(some 37), .faddr 1 (.t 3), none⟩,
⟨(some 38), .load false 1 (.t 37), none⟩,
⟨(some 39), .faddr 4 (.t 3), none⟩,
⟨(some 40), .load false 1 (.t 39), none⟩,
⟨(some 41), .build [(.int .i64 0), (.int .i64 0)] [(0, 1, (.k (.int .i64 1))), (1, 1, (.t 40))], none⟩,
⟨(some 42), .iaddr 2 (.t 36) (.t 38), none⟩,
⟨none, .store 2 (.t 42) (.t 41), none⟩] [3, 5, 6, 7])
 .skip))
 (.seq (.seq (.ops [
⟨(some 43), .faddr 0 (.t 3), none⟩,
⟨(some 44), .load false 1 (.t 43), none⟩,
⟨(some 45), .bin .eql (.t 44) (.k (.int .i64 2)), none⟩,
⟨(some 46), .mov (.t 45), none⟩,
⟨(some 47), .faddr 0 (.t 3), (some (46, false))⟩,
⟨(some 48), .load false 1 (.t 47), (some (46, false))⟩,
⟨(some 49), .bin .eql (.t 48) (.k (.int .i64 3)), (some (46, false))⟩,
⟨(some 50), .pick (.t 46) (.k (.bool true)) (.t 49), none⟩] [3, 5, 6, 7, 50])
 (.cond (.t 50) (.ops [
⟨(some 51), .mov (.t 5), none⟩,
⟨(some 52), .faddr 1 (.t 3), none⟩,
⟨(some 53), .load false 1 (.t 52), none⟩,
⟨(some 54), .load true 2 (.t 7), none⟩,
⟨(some 55), .iaddr 2 (.t 51) (.t 53), none⟩,
⟨none, .store 2 (.t 55) (.t 54), none⟩] [3, 5, 6])
 .skip))
 (.seq (.seq (.ops [
⟨(some 56), .faddr 0 (.t 3), none⟩,
⟨(some 57), .load false 1 (.t 56), none⟩,
⟨(some 58), .bin .eql (.t 57) (.k (.int .i64 3)), none⟩] [3, 5, 6, 58])
 (.cond (.t 58) (.ops [
⟨(some 59), .mov (.t 5), none⟩,
⟨(some 60), .faddr 2 (.t 3), none⟩,
⟨(some 61), .load false 1 (.t 60), none⟩,
⟨(some 62), .load true 2 (.t 6), none⟩,
⟨(some 63), .iaddr 2 (.t 59) (.t 61), none⟩,
⟨none, .store 2 (.t 63) (.t 62), none⟩] [5])
 .skip))
 (.seq (.ops [
⟨(some 64), .mov (.t 5), none⟩,
⟨(some 4), .mov (.t 64), none⟩] [4])
 .ret)))))))), [.tmp 4]⟩
abbrev n_joineryref05_After : Nat := 111
def c_run_Right : F := ⟨true, 1, (.seq (.ops [
⟨(some 1), .box (.t 0), none⟩,
⟨(some 2), .mov (.k (.bool false)), none⟩] [1])
 (.seq (.ops [
⟨(some 3), .faddr 8 (.t 1), none⟩,
⟨(some 4), .load false 1 (.t 3), none⟩,
⟨(some 5), .call 95 [(.t 4)], none⟩,
⟨(some 6), .mov (.t 5), none⟩,
⟨(some 7), .faddr 9 (.t 1), (some (6, true))⟩,
⟨(some 8), .load false 1 (.t 7), (some (6, true))⟩,
⟨(some 9), .len 0 (.t 8), (some (6, true))⟩,
⟨(some 10), .bin .leq (.t 9) (.k (.int .i64 5000)), (some (6, true))⟩,
⟨(some 11), .pick (.t 6) (.t 10) (.k (.bool false)), none⟩,
⟨(some 12), .mov (.t 11), none⟩,
⟨(some 13), .faddr 10 (.t 1), (some (12, true))⟩,
⟨(some 14), .load false 1 (.t 13), (some (12, true))⟩,
⟨(some 15), .bin .geq (.t 14) (.k (.int .i64 0)), (some (12, true))⟩,
⟨(some 16), .pick (.t 12) (.t 15) (.k (.bool false)), none⟩,
⟨(some 17), .mov (.t 16), none⟩,
⟨(some 18), .faddr 10 (.t 1), (some (17, true))⟩,
⟨(some 19), .load false 1 (.t 18), (some (17, true))⟩,
⟨(some 20), .bin .leq (.t 19) (.k (.int .i64 5000)), (some (17, true))⟩,
⟨(some 21), .pick (.t 17) (.t 20) (.k (.bool false)), none⟩,
⟨(some 2), .mov (.t 21), none⟩] [2])
 .ret)), [.tmp 2]⟩
abbrev n_run_Right : Nat := 112
def c_heap_in : F := ⟨true, 2, (.seq (.ops [
⟨(some 4), .mov (.k (.bool false)), none⟩] [0, 1])
 (.seq (.ops [
⟨(some 5), .mov (.t 0), none⟩,
⟨(some 6), .call 95 [(.t 5)], none⟩,
⟨(some 7), .mov (.t 6), none⟩,
⟨(some 8), .mov (.t 1), (some (7, true))⟩,
⟨(some 9), .bin .geq (.t 8) (.k (.int .i64 0)), (some (7, true))⟩,
⟨(some 10), .pick (.t 7) (.t 9) (.k (.bool false)), none⟩,
⟨(some 11), .mov (.t 10), none⟩,
⟨(some 12), .mov (.t 1), (some (11, true))⟩,
⟨(some 13), .mov (.t 0), (some (11, true))⟩,
⟨(some 14), .len 0 (.t 13), (some (11, true))⟩,
⟨(some 15), .bin .lss (.t 12) (.t 14), (some (11, true))⟩,
⟨(some 16), .pick (.t 11) (.t 15) (.k (.bool false)), none⟩,
⟨(some 4), .mov (.t 16), none⟩] [4])
 .ret)), [.tmp 4]⟩
abbrev n_heap_in : Nat := 117
def c_num_deeds : F := ⟨false, 0, (.seq (.ops [
⟨(some 0), .mov (.k .nilm), none⟩] [])
 (.seq (.ops [
⟨(some 1), .mkmap, none⟩,
⟨none, .mapset .ti (.t 1) (.k (.int .i64 4)) (.k (.fn 125 [])), none⟩,
⟨none, .mapset .ti (.t 1) (.k (.int .i64 5)) (.k (.fn 126 [])), none⟩,
⟨none, .mapset .ti (.t 1) (.k (.int .i64 6)) (.k (.fn 127 [])), none⟩,
⟨none, .mapset .ti (.t 1) (.k (.int .i64 7)) (.k (.fn 128 [])), none⟩,
⟨none, .mapset .ti (.t 1) (.k (.int .i64 8)) (.k (.fn 129 [])), none⟩,
⟨none, .mapset .ti (.t 1) (.k (.int .i64 9)) (.k (.fn 130 [])), none⟩,
⟨none, .mapset .ti (.t 1) (.k (.int .i64 10)) (.k (.fn 131 [])), none⟩,
⟨none, .mapset .ti (.t 1) (.k (.int .i64 11)) (.k (.fn 132 [])), none⟩,
⟨none, .mapset .ti (.t 1) (.k (.int .i64 12)) (.k (.fn 134 [])), none⟩,
⟨(some 2), .mov (.t 1), none⟩,
⟨(some 0), .mov (.t 2), none⟩] [0])
 .ret)), [.tmp 0]⟩
abbrev n_num_deeds : Nat := 118
def c_num_Parse_L0 : C := (.seq (.ops [
⟨(some 44), .next (.t 43), none⟩,
⟨(some 45), .extract (.t 44) 0, none⟩] [5, 6, 43, 44, 45])
 (.seq (.cond (.t 45) .skip
 (.exit 0))
 (.block 1 (.seq (.ops [
⟨(some 46), .extract (.t 44) 2, none⟩,
⟨(some 8), .mov (.t 46), none⟩] [5, 6, 8, 43])
 (.seq (.seq (.ops [
⟨(some 47), .mov (.t 8), none⟩,
⟨(some 48), .bin .lss (.t 47) (.k (.int .i32 48)), none⟩,
⟨(some 49), .mov (.t 48), none⟩,
⟨(some 50), .mov (.t 8), (some (49, false))⟩,
⟨(some 51), .bin .gtr (.t 50) (.k (.int .i32 57)), (some (49, false))⟩,
⟨(some 52), .pick (.t 49) (.k (.bool true)) (.t 51), none⟩] [5, 6, 8, 43, 52])
 (.cond (.t 52) (.seq (.ops [
⟨(some 2), .mov (.k (.int .i64 0)), none⟩,
⟨(some 3), .mov (.k (.int .i64 2)), none⟩] [2, 3])
 .ret)
 .skip))
 (.ops [
⟨(some 53), .mov (.t 6), none⟩,
⟨(some 54), .bin .mul (.t 53) (.k (.int .u64 10)), none⟩,
⟨(some 55), .mov (.t 8), none⟩,
⟨(some 56), .bin .sub (.t 55) (.k (.int .i32 48)), none⟩,
⟨(some 57), .convI .u64 (.t 56), none⟩,
⟨(some 58), .bin .add (.t 54) (.t 57), none⟩,
⟨(some 6), .mov (.t 58), none⟩] [5, 6, 43]))))))
def c_num_Parse : F := ⟨true, 1, (.seq (.ops [
⟨(some 2), .mov (.k (.int .i64 0)), none⟩,
⟨(some 3), .mov (.k (.int .i64 0)), none⟩] [0])
 (.seq (.ops [
⟨(some 10), .mov (.t 0), none⟩,
⟨(some 4), .mov (.t 10), none⟩,
⟨(some 5), .mov (.k (.bool false)), none⟩] [0, 4, 5])
 (.seq (.seq (.ops [
⟨(some 11), .mov (.t 0), none⟩,
⟨(some 12), .len 1 (.t 11), none⟩,
⟨(some 13), .bin .gtr (.t 12) (.k (.int .i64 0)), none⟩,
⟨(some 14), .mov (.t 13), none⟩,
⟨(some 15), .mov (.t 0), (some (14, true))⟩,
⟨(some 16), .idxS (.t 15) (.k (.int .i64 0)), (some (14, true))⟩,
⟨(some 17), .bin .eql (.t 16) (.k (.int .u8 45)), (some (14, true))⟩,
⟨(some 18), .pick (.t 14) (.t 17) (.k (.bool false)), none⟩] [0, 4, 5, 18])
 (.cond (.t 18) (.ops [
⟨(some 19), .mov (.t 0), none⟩,
⟨(some 20), .sliceS (.t 19) (some (.k (.int .i64 1))) none, none⟩,
⟨(some 4), .mov (.t 20), none⟩,
⟨(some 5), .mov (.k (.bool true)), none⟩] [4, 5])
 .skip))
 (.seq (.seq (.ops [
⟨(some 21), .mov (.t 4), none⟩,
⟨(some 22), .len 1 (.t 21), none⟩,
⟨(some 23), .bin .eql (.t 22) (.k (.int .i64 0)), none⟩,
⟨(some 24), .mov (.t 23), none⟩,
⟨(some 25), .mov (.t 4), (some (24, false))⟩,
⟨(some 26), .len 1 (.t 25), (some (24, false))⟩,
⟨(some 27), .bin .gtr (.t 26) (.k (.int .i64 19)), (some (24, false))⟩,
⟨(some 28), .pick (.t 24) (.k (.bool true)) (.t 27), none⟩,
⟨(some 29), .mov (.t 28), none⟩,
⟨(some 30), .mov (.t 4), (some (29, false))⟩,
⟨(some 31), .idxS (.t 30) (.k (.int .i64 0)), (some (29, false))⟩,
⟨(some 32), .bin .eql (.t 31) (.k (.int .u8 48)), (some (29, false))⟩,
⟨(some 33), .mov (.t 32), (some (29, false))⟩,
⟨(some 34), .mov (.t 4), (some (33, true))⟩,
⟨(some 35), .len 1 (.t 34), (some (33, true))⟩,
⟨(some 36), .bin .gtr (.t 35) (.k (.int .i64 1)), (some (33, true))⟩,
⟨(some 37), .mov (.t 36), (some (33, true))⟩,
⟨(some 38), .mov (.t 5), (some (37, false))⟩,
⟨(some 39), .pick (.t 37) (.k (.bool true)) (.t 38), (some (33, true))⟩,
⟨(some 40), .pick (.t 33) (.t 39) (.k (.bool false)), (some (29, false))⟩,
⟨(some 41), .pick (.t 29) (.k (.bool true)) (.t 40), none⟩] [4, 5, 41])
 (.cond (.t 41) (.seq (.ops [
⟨(some 2), .mov (.k (.int .i64 0)), none⟩,
⟨(some 3), .mov (.k (.int .i64 2)), none⟩] [2, 3])
 .ret)
 .skip))
 (.seq (.ops [
⟨(some 6), .mov (.k (.int .u64 0)), none⟩] [4, 5, 6])
 (.seq (.seq (.ops [
⟨(some 42), .mov (.t 4), none⟩,
⟨(some 43), .range (.t 42), none⟩] [5, 6, 43])
 (.block 0 (.loop c_num_Parse_L0)))
 (.seq (.ops [
⟨(some 9), .mov (.k (.int .u64 9223372036854775807)), none⟩] [5, 6, 9])
 (.seq (.seq (.ops [
⟨(some 59), .mov (.t 5), none⟩] [6, 9, 59])
 (.cond (.t 59) (.seq (.ops [
⟨(some 60), .mov (.t 9), none⟩,
⟨(some 61), .bin .add (.t 60) (.k (.int .u64 1)), none⟩,
⟨(some 9), .mov (.t 61), none⟩] [6, 9])
 (.seq (.ops [
⟨(some 62), .mov (.t 6), none⟩,
⟨(some 63), .un .neg (.t 62), none⟩,
⟨(some 64), .mov (.t 9), none⟩,
⟨(some 65), .un .neg (.t 64), none⟩,
⟨(some 6), .mov (.t 63), none⟩,
⟨(some 9), .mov (.t 65), none⟩] [6, 9])
 (.seq (.seq (.ops [
⟨(some 66), .mov (.t 6), none⟩,
⟨(some 67), .mov (.t 9), none⟩,
⟨(some 68), .bin .lss (.t 66) (.t 67), none⟩] [6, 68])
 (.cond (.t 68) (.seq (.ops [
⟨(some 2), .mov (.k (.int .i64 0)), none⟩,
⟨(some 3), .mov (.k (.int .i64 2)), none⟩] [2, 3])
 .ret)
 .skip))
 (.seq (.ops [
⟨(some 69), .mov (.t 6), none⟩,
⟨(some 70), .convI .i64 (.t 69), none⟩,
⟨(some 2), .mov (.t 70), none⟩,
⟨(some 3), .mov (.k (.int .i64 0)), none⟩] [2, 3])
 .ret))))
 .skip))
 (.seq (.seq (.ops [
⟨(some 71), .mov (.t 6), none⟩,
⟨(some 72), .mov (.t 9), none⟩,
⟨(some 73), .bin .gtr (.t 71) (.t 72), none⟩] [6, 73])
 (.cond (.t 73) (.seq (.ops [
⟨(some 2), .mov (.k (.int .i64 0)), none⟩,
⟨(some 3), .mov (.k (.int .i64 2)), none⟩] [2, 3])
 .ret)
 .skip))
 (.seq (.ops [
⟨(some 74), .mov (.t 6), none⟩,
⟨(some 75), .convI .i64 (.t 74), none⟩,
⟨(some 2), .mov (.t 75), none⟩,
⟨(some 3), .mov (.k (.int .i64 0)), none⟩] [2, 3])
 .ret)))))))))), [.tmp 2, .tmp 3]⟩
abbrev n_num_Parse : Nat := 119
def c_loc_Parse_L0 : C := (.seq (.ops [
⟨(some 11), .next (.t 10), none⟩,
⟨(some 12), .extract (.t 11) 0, none⟩] [0, 4, 5, 6, 10, 11, 12])
 (.seq (.cond (.t 12) .skip
 (.exit 0))
 (.block 1 (.seq (.ops [
⟨(some 13), .extract (.t 11) 1, none⟩,
⟨(some 14), .extract (.t 11) 2, none⟩,
⟨(some 7), .mov (.t 13), none⟩,
⟨(some 8), .mov (.t 14), none⟩] [0, 4, 5, 6, 7, 8, 10])
 (.block 2 (.seq (.ops [
⟨(some 22), .mov (.t 7), none⟩,
⟨(some 23), .bin .eql (.t 22) (.k (.int .i64 0)), none⟩,
⟨(some 24), .mov (.t 23), none⟩,
⟨(some 25), .mov (.t 8), (some (24, true))⟩,
⟨(some 26), .bin .eql (.t 25) (.k (.int .i32 114)), (some (24, true))⟩,
⟨(some 27), .pick (.t 24) (.t 26) (.k (.bool false)), none⟩,
⟨(some 21), .mov (.t 27), none⟩] [0, 4, 5, 6, 7, 8, 10, 21])
 (.cond (.t 21) (.ops [
⟨(some 6), .mov (.k (.int .i64 8)), none⟩] [0, 4, 5, 6, 10])
 (.seq (.ops [
⟨(some 29), .mov (.t 7), none⟩,
⟨(some 30), .bin .eql (.t 29) (.k (.int .i64 0)), none⟩,
⟨(some 31), .mov (.t 30), none⟩,
⟨(some 32), .mov (.t 8), (some (31, true))⟩,
⟨(some 33), .bin .eql (.t 32) (.k (.int .i32 115)), (some (31, true))⟩,
⟨(some 34), .pick (.t 31) (.t 33) (.k (.bool false)), none⟩,
⟨(some 28), .mov (.t 34), none⟩] [0, 4, 5, 6, 7, 8, 10, 28])
 (.cond (.t 28) (.ops [
⟨(some 4), .mov (.k (.int .i64 8)), none⟩,
⟨(some 6), .mov (.k (.int .i64 16)), none⟩] [0, 4, 5, 6, 10])
 (.seq (.ops [
⟨(some 36), .mov (.t 7), none⟩,
⟨(some 37), .bin .eql (.t 36) (.k (.int .i64 0)), none⟩,
⟨(some 38), .mov (.t 37), none⟩,
⟨(some 39), .mov (.t 7), (some (38, false))⟩,
⟨(some 40), .bin .gtr (.t 39) (.k (.int .i64 2)), (some (38, false))⟩,
⟨(some 41), .pick (.t 38) (.k (.bool true)) (.t 40), none⟩,
⟨(some 42), .mov (.t 41), none⟩,
⟨(some 43), .mov (.t 8), (some (42, false))⟩,
⟨(some 44), .bin .lss (.t 43) (.k (.int .i32 48)), (some (42, false))⟩,
⟨(some 45), .pick (.t 42) (.k (.bool true)) (.t 44), none⟩,
⟨(some 46), .mov (.t 45), none⟩,
⟨(some 47), .mov (.t 8), (some (46, false))⟩,
⟨(some 48), .bin .gtr (.t 47) (.k (.int .i32 57)), (some (46, false))⟩,
⟨(some 49), .pick (.t 46) (.k (.bool true)) (.t 48), none⟩,
⟨(some 50), .mov (.t 49), none⟩,
⟨(some 51), .mov (.t 7), (some (50, false))⟩,
⟨(some 52), .bin .eql (.t 51) (.k (.int .i64 2)), (some (50, false))⟩,
⟨(some 53), .mov (.t 52), (some (50, false))⟩,
⟨(some 54), .mov (.t 5), (some (53, true))⟩,
⟨(some 55), .bin .eql (.t 54) (.k (.int .i64 0)), (some (53, true))⟩,
⟨(some 56), .pick (.t 53) (.t 55) (.k (.bool false)), (some (50, false))⟩,
⟨(some 57), .pick (.t 50) (.k (.bool true)) (.t 56), none⟩,
⟨(some 35), .mov (.t 57), none⟩] [0, 4, 5, 6, 8, 10, 35])
 (.cond (.t 35) (.seq (.ops [
⟨(some 2), .mov (.k (.int .i64 0)), none⟩,
⟨(some 3), .mov (.k (.int .i64 2)), none⟩] [2, 3])
 .ret)
 (.ops [
⟨(some 15), .mov (.t 5), none⟩,
⟨(some 16), .bin .mul (.t 15) (.k (.int .i64 10)), none⟩,
⟨(some 17), .mov (.t 8), none⟩,
⟨(some 18), .bin .sub (.t 17) (.k (.int .i32 48)), none⟩,
⟨(some 19), .convI .i64 (.t 18), none⟩,
⟨(some 20), .bin .add (.t 16) (.t 19), none⟩,
⟨(some 5), .mov (.t 20), none⟩] [0, 4, 5, 6, 10]))))))))))))
def c_loc_Parse : F := ⟨true, 1, (.seq (.ops [
⟨(some 2), .mov (.k (.int .i64 0)), none⟩,
⟨(some 3), .mov (.k (.int .i64 0)), none⟩] [0])
 (.seq (.ops [
⟨(some 4), .mov (.k (.int .i64 0)), none⟩,
⟨(some 5), .mov (.k (.int .i64 0)), none⟩,
⟨(some 6), .mov (.k (.int .i64 0)), none⟩] [0, 4, 5, 6])
 (.seq (.seq (.ops [
⟨(some 9), .mov (.t 0), none⟩,
⟨(some 10), .range (.t 9), none⟩] [0, 4, 5, 6, 10])
 (.block 0 (.loop c_loc_Parse_L0)))
 (.seq (.seq (.ops [
⟨(some 58), .mov (.t 0), none⟩,
⟨(some 59), .len 1 (.t 58), none⟩,
⟨(some 60), .bin .lss (.t 59) (.k (.int .i64 2)), none⟩,
⟨(some 61), .mov (.t 60), none⟩,
⟨(some 62), .mov (.t 5), (some (61, false))⟩,
⟨(some 63), .mov (.t 6), (some (61, false))⟩,
⟨(some 64), .bin .geq (.t 62) (.t 63), (some (61, false))⟩,
⟨(some 65), .pick (.t 61) (.k (.bool true)) (.t 64), none⟩] [4, 5, 65])
 (.cond (.t 65) (.seq (.ops [
⟨(some 2), .mov (.k (.int .i64 0)), none⟩,
⟨(some 3), .mov (.k (.int .i64 2)), none⟩] [2, 3])
 .ret)
 .skip))
 (.seq (.ops [
⟨(some 66), .mov (.t 4), none⟩,
⟨(some 67), .mov (.t 5), none⟩,
⟨(some 68), .bin .add (.t 66) (.t 67), none⟩,
⟨(some 2), .mov (.t 68), none⟩,
⟨(some 3), .mov (.k (.int .i64 0)), none⟩] [2, 3])
 .ret))))), [.tmp 2, .tmp 3]⟩
abbrev n_loc_Parse : Nat := 120
def c_ins_rest_L0 : C := (.seq (.ops [
⟨(some 11), .next (.t 10), none⟩,
⟨(some 12), .extract (.t 11) 0, none⟩] [2, 4, 10, 11, 12])
 (.seq (.cond (.t 12) .skip
 (.exit 0))
 (.block 1 (.seq (.ops [
⟨(some 13), .extract (.t 11) 2, none⟩,
⟨(some 6), .mov (.t 13), none⟩] [2, 4, 6, 10])
 (.seq (.ops [
⟨(some 14), .mov (.t 6), none⟩] [2, 4, 6, 10, 14])
 (.block 2 (.seq (.ops [
⟨(some 19), .bin .eql (.t 14) (.k (.int .i32 78)), none⟩,
⟨(some 18), .mov (.t 19), none⟩] [2, 4, 6, 10, 14, 18])
 (.cond (.t 18) (.ops [
⟨(some 20), .faddr 4 (.t 2), none⟩,
⟨none, .store 1 (.t 20) (.k (.int .i64 0)), none⟩] [2, 4, 10])
 (.seq (.ops [
⟨(some 22), .bin .eql (.t 14) (.k (.int .i32 84)), none⟩,
⟨(some 21), .mov (.t 22), none⟩] [2, 4, 6, 10, 21])
 (.cond (.t 21) (.ops [
⟨(some 23), .faddr 5 (.t 2), none⟩,
⟨none, .store 1 (.t 23) (.k (.int .i64 0)), none⟩] [2, 4, 10])
 (.ops [
⟨(some 15), .mov (.t 6), none⟩,
⟨(some 16), .call 92 [(.t 2), (.t 15)], none⟩,
⟨(some 17), .nilck (.t 16), none⟩,
⟨none, .store 1 (.t 17) (.k (.int .i64 0)), none⟩] [2, 4, 10])))))))))))
def c_ins_rest : F := ⟨true, 2, (.seq (.ops [
⟨(some 2), .box (.t 0), none⟩,
⟨(some 3), .box (.t 1), none⟩,
⟨(some 4), .alloc [(.int .i64 0), (.int .i64 0), (.int .i64 0), (.int .i64 0), (.int .i64 0), (.int .i64 0)], none⟩] [2, 3, 4])
 (.seq (.ops [
⟨(some 7), .faddr 0 (.t 2), none⟩,
⟨none, .store 1 (.t 7) (.k (.int .i64 0)), none⟩] [2, 3, 4])
 (.seq (.seq (.ops [
⟨(some 8), .faddr 1 (.t 3), none⟩,
⟨(some 9), .load false 1 (.t 8), none⟩,
⟨(some 10), .range (.t 9), none⟩] [2, 4, 10])
 (.block 0 (.loop c_ins_rest_L0)))
 (.seq (.ops [
⟨(some 24), .load true 6 (.t 2), none⟩,
⟨none, .store 6 (.t 4) (.t 24), none⟩] [4])
 .ret)))), [.cell 4 true 6]⟩
abbrev n_ins_rest : Nat := 121
def c_env_Good_L0 : C := (.seq (.ops [
⟨(some 7), .bin .lss (.t 6) (.k (.int .i64 24)), none⟩] [5, 6, 7])
 (.seq (.cond (.t 7) .skip
 (.exit 0))
 (.seq (.block 1 (.seq (.ops [
⟨(some 8), .idxA false 24 1 (.t 5) (.t 6), none⟩,
⟨(some 4), .mov (.t 8), none⟩] [4, 5, 6])
 (.seq (.ops [
⟨(some 9), .mov (.t 4), none⟩,
⟨(some 10), .call 135 [(.t 9)], none⟩,
⟨(some 11), .un .not (.t 10), none⟩] [5, 6, 11])
 (.cond (.t 11) (.seq (.ops [
⟨(some 2), .mov (.k (.bool false)), none⟩] [2])
 .ret)
 .skip))))
 (.ops [
⟨(some 12), .bin .add (.t 6) (.k (.int .i64 1)), none⟩,
⟨(some 6), .mov (.t 12), none⟩] [5, 6]))))
def c_env_Good : F := ⟨true, 1, (.seq (.ops [
⟨(some 1), .box (.t 0), none⟩,
⟨(some 2), .mov (.k (.bool false)), none⟩] [1])
 (.seq (.seq (.ops [
⟨(some 5), .load true 24 (.t 1), none⟩,
⟨(some 6), .mov (.k (.int .i64 0)), none⟩] [5, 6])
 (.block 0 (.loop c_env_Good_L0)))
 (.seq (.ops [
⟨(some 2), .mov (.k (.bool true)), none⟩] [2])
 .ret))), [.tmp 2]⟩
abbrev n_env_Good : Nat := 122
def c_joineryref05_good : F := ⟨true, 1, (.seq (.ops [
⟨(some 2), .mov (.k .nils), none⟩] [0])
 (.seq (.seq (.ops [
⟨(some 3), .mov (.t 0), none⟩,
⟨(some 4), .call 136 [(.t 3)], none⟩] [0, 4])
 (.cond (.t 4) (.seq (.ops [
⟨(some 5), .mov (.t 0), none⟩,
⟨(some 2), .mov (.t 5), none⟩] [2])
 .ret)
 .skip))
 (.seq (.ops [
⟨(some 6), .call 110 [], none⟩,
⟨(some 2), .mov (.t 6), none⟩] [2])
 .ret))), [.tmp 2]⟩
abbrev n_joineryref05_good : Nat := 123
def c_joineryref05_place : F := ⟨true, 1, (.seq (.ops [
⟨(some 2), .mov (.k (.bool false)), none⟩] [0])
 (.seq (.ops [
⟨(some 3), .mov (.t 0), none⟩,
⟨(some 4), .bin .geq (.t 3) (.k (.int .i64 0)), none⟩,
⟨(some 5), .mov (.t 4), none⟩,
⟨(some 6), .mov (.t 0), (some (5, true))⟩,
⟨(some 7), .bin .lss (.t 6) (.k (.int .i64 24)), (some (5, true))⟩,
⟨(some 8), .pick (.t 5) (.t 7) (.k (.bool false)), none⟩,
⟨(some 2), .mov (.t 8), none⟩] [2])
 .ret)), [.tmp 2]⟩
abbrev n_joineryref05_place : Nat := 124
def c_num_deeds_1 : F := ⟨true, 2, (.seq (.ops [
⟨(some 4), .mov (.k (.int .i64 0)), none⟩] [0, 1])
 (.seq (.ops [
⟨(some 5), .mov (.t 0), none⟩,
⟨(some 6), .mov (.t 1), none⟩,
⟨(some 7), .bin .add (.t 5) (.t 6), none⟩,
⟨(some 4), .mov (.t 7), none⟩] [4])
 .ret)), [.tmp 4]⟩
abbrev n_num_deeds_1 : Nat := 125
def c_num_deeds_2 : F := ⟨true, 2, (.seq (.ops [
⟨(some 4), .mov (.k (.int .i64 0)), none⟩] [0, 1])
 (.seq (.ops [
⟨(some 5), .mov (.t 0), none⟩,
⟨(some 6), .mov (.t 1), none⟩,
⟨(some 7), .bin .sub (.t 5) (.t 6), none⟩,
⟨(some 4), .mov (.t 7), none⟩] [4])
 .ret)), [.tmp 4]⟩
abbrev n_num_deeds_2 : Nat := 126
def c_num_deeds_3 : F := ⟨true, 2, (.seq (.ops [
⟨(some 4), .mov (.k (.int .i64 0)), none⟩] [0, 1])
 (.seq (.ops [
⟨(some 5), .mov (.t 0), none⟩,
⟨(some 6), .mov (.t 1), none⟩,
⟨(some 7), .bin .mul (.t 5) (.t 6), none⟩,
⟨(some 4), .mov (.t 7), none⟩] [4])
 .ret)), [.tmp 4]⟩
abbrev n_num_deeds_3 : Nat := 127
def c_num_deeds_4 : F := ⟨true, 2, (.seq (.ops [
⟨(some 4), .mov (.k (.int .i64 0)), none⟩] [0, 1])
 (.seq (.ops [
⟨(some 5), .mov (.t 0), none⟩,
⟨(some 6), .mov (.t 1), none⟩,
⟨(some 7), .bin .quo (.t 5) (.t 6), none⟩,
⟨(some 4), .mov (.t 7), none⟩] [4])
 .ret)), [.tmp 4]⟩
abbrev n_num_deeds_4 : Nat := 128
def c_num_deeds_5 : F := ⟨true, 2, (.seq (.ops [
⟨(some 4), .mov (.k (.int .i64 0)), none⟩] [0, 1])
 (.seq (.ops [
⟨(some 5), .mov (.t 0), none⟩,
⟨(some 6), .mov (.t 1), none⟩,
⟨(some 7), .bin .and (.t 5) (.t 6), none⟩,
⟨(some 4), .mov (.t 7), none⟩] [4])
 .ret)), [.tmp 4]⟩
abbrev n_num_deeds_5 : Nat := 129
def c_num_deeds_6 : F := ⟨true, 2, (.seq (.ops [
⟨(some 4), .mov (.k (.int .i64 0)), none⟩] [0, 1])
 (.seq (.ops [
⟨(some 5), .mov (.t 0), none⟩,
⟨(some 6), .mov (.t 1), none⟩,
⟨(some 7), .bin .or (.t 5) (.t 6), none⟩,
⟨(some 4), .mov (.t 7), none⟩] [4])
 .ret)), [.tmp 4]⟩
abbrev n_num_deeds_6 : Nat := 130
def c_num_deeds_7 : F := ⟨true, 2, (.seq (.ops [
⟨(some 4), .mov (.k (.int .i64 0)), none⟩] [0, 1])
 (.seq (.ops [
⟨(some 5), .mov (.t 0), none⟩,
⟨(some 6), .mov (.t 1), none⟩,
⟨(some 7), .bin .xor (.t 5) (.t 6), none⟩,
⟨(some 4), .mov (.t 7), none⟩] [4])
 .ret)), [.tmp 4]⟩
abbrev n_num_deeds_7 : Nat := 131
def c_num_deeds_8 : F := ⟨true, 2, (.seq (.ops [
⟨(some 4), .mov (.k (.int .i64 0)), none⟩] [0, 1])
 (.seq (.ops [
⟨(some 5), .mov (.t 0), none⟩,
⟨(some 6), .mov (.t 1), none⟩,
⟨(some 7), .bin .lss (.t 5) (.t 6), none⟩,
⟨(some 8), .call 133 [(.t 7)], none⟩,
⟨(some 4), .mov (.t 8), none⟩] [4])
 .ret)), [.tmp 4]⟩
abbrev n_num_deeds_8 : Nat := 132
def c_num_flag : F := ⟨true, 1, (.seq (.ops [
⟨(some 2), .mov (.k (.int .i64 0)), none⟩] [0])
 (.seq (.seq (.ops [
⟨(some 3), .mov (.t 0), none⟩] [3])
 (.cond (.t 3) (.seq (.ops [
⟨(some 2), .mov (.k (.int .i64 1)), none⟩] [2])
 .ret)
 .skip))
 (.seq (.ops [
⟨(some 2), .mov (.k (.int .i64 0)), none⟩] [2])
 .ret))), [.tmp 2]⟩
abbrev n_num_flag : Nat := 133
def c_num_deeds_9 : F := ⟨true, 2, (.seq (.ops [
⟨(some 4), .mov (.k (.int .i64 0)), none⟩] [0, 1])
 (.seq (.ops [
⟨(some 5), .mov (.t 0), none⟩,
⟨(some 6), .mov (.t 1), none⟩,
⟨(some 7), .bin .eql (.t 5) (.t 6), none⟩,
⟨(some 8), .call 133 [(.t 7)], none⟩,
⟨(some 4), .mov (.t 8), none⟩] [4])
 .ret)), [.tmp 4]⟩
abbrev n_num_deeds_9 : Nat := 134
def c_env_may : F := ⟨true, 1, (.seq (.ops [
⟨(some 2), .mov (.k (.bool false)), none⟩] [0])
 (.seq (.seq (.ops [
⟨(some 8), .mov (.t 0), none⟩,
⟨(some 9), .assert 164 true (.agg [(.int .i64 0)]) (.t 8), none⟩,
⟨(some 7), .mov (.t 9), none⟩,
⟨(some 10), .extract (.t 7) 0, none⟩,
⟨(some 11), .extract (.t 7) 1, none⟩,
⟨(some 3), .alloc [(.int .i64 0)], none⟩,
⟨none, .store 1 (.t 3) (.t 10), none⟩,
⟨(some 4), .mov (.t 11), none⟩] [0, 3, 4])
 (.seq (.ops [
⟨(some 12), .mov (.t 4), none⟩] [0, 3, 12])
 (.cond (.t 12) (.seq (.ops [
⟨(some 13), .faddr 0 (.t 3), none⟩,
⟨(some 14), .load false 1 (.t 13), none⟩,
⟨(some 15), .call 81 [(.t 14)], none⟩,
⟨(some 2), .mov (.t 15), none⟩] [2])
 .ret)
 .skip)))
 (.seq (.ops [
⟨(some 17), .mov (.t 0), none⟩,
⟨(some 18), .assert 161 true (.agg [(.int .i64 0)]) (.t 17), none⟩,
⟨(some 16), .mov (.t 18), none⟩,
⟨(some 19), .extract (.t 16) 0, none⟩,
⟨(some 20), .extract (.t 16) 1, none⟩,
⟨(some 5), .alloc [(.int .i64 0)], none⟩,
⟨none, .store 1 (.t 5) (.t 19), none⟩,
⟨(some 6), .mov (.t 20), none⟩] [6])
 (.seq (.ops [
⟨(some 21), .mov (.t 6), none⟩,
⟨(some 2), .mov (.t 21), none⟩] [2])
 .ret)))), [.tmp 2]⟩
abbrev n_env_may : Nat := 135
def c_joineryref05_Good_L0 : C := (.seq (.seq (.ops [
⟨(some 4), .mov (.t 3), none⟩,
⟨(some 5), .mov (.t 0), none⟩,
⟨(some 6), .len 0 (.t 5), none⟩,
⟨(some 7), .bin .lss (.t 4) (.t 6), none⟩] [0, 3, 7])
 (.cond (.t 7) .skip
 (.exit 0)))
 (.seq (.block 1 (.seq (.ops [
⟨(some 10), .mov (.t 0), none⟩,
⟨(some 11), .mov (.t 3), none⟩,
⟨(some 12), .iaddr 2 (.t 10) (.t 11), none⟩,
⟨(some 13), .faddr 0 (.t 12), none⟩,
⟨(some 14), .load false 1 (.t 13), none⟩,
⟨(some 15), .bin .neq (.t 14) (.k (.int .i64 1)), none⟩,
⟨(some 16), .mov (.t 15), none⟩,
⟨(some 17), .mov (.t 0), (some (16, true))⟩,
⟨(some 18), .mov (.t 3), (some (16, true))⟩,
⟨(some 19), .iaddr 2 (.t 17) (.t 18), (some (16, true))⟩,
⟨(some 20), .faddr 0 (.t 19), (some (16, true))⟩,
⟨(some 21), .load false 1 (.t 20), (some (16, true))⟩,
⟨(some 22), .bin .neq (.t 21) (.k (.int .i64 0)), (some (16, true))⟩,
⟨(some 23), .mov (.t 22), (some (16, true))⟩,
⟨(some 24), .mov (.t 0), (some (23, false))⟩,
⟨(some 25), .mov (.t 3), (some (23, false))⟩,
⟨(some 26), .iaddr 2 (.t 24) (.t 25), (some (23, false))⟩,
⟨(some 27), .faddr 1 (.t 26), (some (23, false))⟩,
⟨(some 28), .load false 1 (.t 27), (some (23, false))⟩,
⟨(some 29), .bin .lss (.t 28) (.k (.int .i64 0)), (some (23, false))⟩,
⟨(some 30), .pick (.t 23) (.k (.bool true)) (.t 29), (some (16, true))⟩,
⟨(some 31), .mov (.t 30), (some (16, true))⟩,
⟨(some 32), .mov (.t 0), (some (31, false))⟩,
⟨(some 33), .mov (.t 3), (some (31, false))⟩,
⟨(some 34), .iaddr 2 (.t 32) (.t 33), (some (31, false))⟩,
⟨(some 35), .faddr 1 (.t 34), (some (31, false))⟩,
⟨(some 36), .load false 1 (.t 35), (some (31, false))⟩,
⟨(some 37), .bin .gtr (.t 36) (.k (.int .i64 23)), (some (31, false))⟩,
⟨(some 38), .pick (.t 31) (.k (.bool true)) (.t 37), (some (16, true))⟩,
⟨(some 39), .pick (.t 16) (.t 38) (.k (.bool false)), none⟩] [0, 3, 39])
 (.cond (.t 39) (.seq (.ops [
⟨(some 2), .mov (.k (.bool false)), none⟩] [2])
 .ret)
 .skip)))
 (.ops [
⟨(some 8), .mov (.t 3), none⟩,
⟨(some 9), .bin .add (.t 8) (.k (.int .i64 1)), none⟩,
⟨(some 3), .mov (.t 9), none⟩] [0, 3])))
def c_joineryref05_Good : F := ⟨true, 1, (.seq (.ops [
⟨(some 2), .mov (.k (.bool false)), none⟩] [0])
 (.seq (.seq (.ops [
⟨(some 3), .mov (.k (.int .i64 0)), none⟩] [0, 3])
 (.block 0 (.loop c_joineryref05_Good_L0)))
 (.seq (.ops [
⟨(some 40), .mov (.t 0), none⟩,
⟨(some 41), .len 0 (.t 40), none⟩,
⟨(some 42), .bin .eql (.t 41) (.k (.int .i64 24)), none⟩,
⟨(some 2), .mov (.t 42), none⟩] [2])
 .ret))), [.tmp 2]⟩
abbrev n_joineryref05_Good : Nat := 136
def T : Nat → Option F
  | 9 => some c_joinerylaw18_DifferStays
  | 10 => some c_joinerylaw18_DifferBoth
  | 12 => some c_joinerylaw18_DifferFuel
  | 14 => some c_joineryref04_Right
  | 27 => some c_joinerylaw18_great
  | 28 => some c_joinerylaw18_knows
  | 29 => some c_differ_Tell
  | 30 => some c_differ_Begins
  | 32 => some c_differ_Halted
  | 34 => some c_joineryref08_Fair
  | 39 => some c_run_Begin
  | 40 => some c_joineryref03_Moves
  | 41 => some c_step_Do
  | 42 => some c_joineryref04_Check
  | 43 => some c_asm_Parse
  | 45 => some c_asm_Right
  | 47 => some c_path_From
  | 58 => some c_ins_Uses
  | 61 => some c_joinerylaw08_Great
  | 62 => some c_differ_of
  | 63 => some c_differ_either
  | 64 => some c_differ_Tell_1
  | 65 => some c_differ_Tell_2
  | 66 => some c_heap_Same
  | 67 => some c_differ_Tell_3
  | 68 => some c_joineryref08_Right
  | 73 => some c_step_Right
  | 74 => some c_step_own
  | 75 => some c_step_work_do
  | 76 => some c_joineryref03_Check
  | 77 => some c_asm_Parse_1
  | 78 => some c_ins_Parse
  | 79 => some c_asm_Check
  | 81 => some c_loc_Right
  | 82 => some c_env_New
  | 83 => some c_path_From_1
  | 84 => some c_ins_Moves
  | 85 => some c_env_After
  | 86 => some c_loc_Reg
  | 88 => some c_joineryref09_From
  | 91 => some c_ins_of
  | 92 => some c_ins_field
  | 93 => some c_run_Run
  | 95 => some c_heap_Right
  | 96 => some c_step_work_number
  | 97 => some c_step_work_set
  | 98 => some c_heap_Load
  | 99 => some c_heap_Store
  | 100 => some c_step_work_call
  | 101 => some c_num_Do
  | 102 => some c_step_work_move
  | 103 => some c_joineryref03_only
  | 104 => some c_joineryref03_place
  | 105 => some c_joineryref03_reg
  | 106 => some c_ins_words
  | 107 => some c_ins_fill
  | 108 => some c_ins_Check
  | 109 => some c_env_good
  | 110 => some c_joineryref05_New
  | 111 => some c_joineryref05_After
  | 112 => some c_run_Right
  | 117 => some c_heap_in
  | 118 => some c_num_deeds
  | 119 => some c_num_Parse
  | 120 => some c_loc_Parse
  | 121 => some c_ins_rest
  | 122 => some c_env_Good
  | 123 => some c_joineryref05_good
  | 124 => some c_joineryref05_place
  | 125 => some c_num_deeds_1
  | 126 => some c_num_deeds_2
  | 127 => some c_num_deeds_3
  | 128 => some c_num_deeds_4
  | 129 => some c_num_deeds_5
  | 130 => some c_num_deeds_6
  | 131 => some c_num_deeds_7
  | 132 => some c_num_deeds_8
  | 133 => some c_num_flag
  | 134 => some c_num_deeds_9
  | 135 => some c_env_may
  | 136 => some c_joineryref05_Good
  | _ => none
end Go.Proofs.YtbmlnfceanfbmaaDoor.M2
