/- M2's code of the functions. Printed by wip/gen. -/
import Derived.Test.YtfmhnfimkpffnaaGreatDoorCa
set_option linter.unusedSimpArgs false
set_option linter.unusedVariables false
set_option linter.unusedSectionVars false
namespace Go.Proofs.YtfmhnfimkpffnaaGreatDoor.M2
def gl_0 : List U := [(.int .i64 (-1)), (.int .i64 0)]
def gl_1 : List U := [(.str [99, 111, 110, 115, 116]), (.str [100, 78]), (.str [109, 111, 118]), (.str [100, 97]), (.str [115, 119, 97, 112]), (.str [100, 97]), (.str [97, 100, 100]), (.str [68, 65, 66]), (.str [115, 117, 98]), (.str [68, 65, 66]), (.str [109, 117, 108]), (.str [68, 65, 66]), (.str [100, 105, 118]), (.str [68, 65, 66]), (.str [97, 110, 100]), (.str [68, 65, 66]), (.str [111, 114]), (.str [68, 65, 66]), (.str [120, 111, 114]), (.str [68, 65, 66]), (.str [108, 101, 115, 115]), (.str [68, 65, 66]), (.str [115, 97, 109, 101]), (.str [68, 65, 66]), (.str [108, 111, 97, 100]), (.str [68, 65]), (.str [115, 116, 111, 114, 101]), (.str [65, 66]), (.str [99, 97, 108, 108]), (.str [68, 65, 78]), (.str [106, 117, 109, 112]), (.str [84]), (.str [122, 101, 114, 111]), (.str [65, 84]), (.str [114, 101, 116]), (.str [65])]
def gl_2 : List U := [(.str [99, 117, 116]), (.int .i64 0), (.int .i64 0), (.bool false), (.str []), (.int .i64 0), (.int .i64 0), (.bool false), (.str []), (.int .i64 0), (.int .i64 0), (.bool false), (.str []), (.int .i64 0), (.int .i64 0), (.bool false), (.str [97, 100, 100]), (.int .i64 2), (.int .i64 1), (.bool true), (.str [115, 117, 98]), (.int .i64 2), (.int .i64 1), (.bool true), (.str [109, 117, 108]), (.int .i64 2), (.int .i64 1), (.bool true), (.str [100, 105, 118]), (.int .i64 2), (.int .i64 1), (.bool true), (.str [97, 110, 100]), (.int .i64 2), (.int .i64 1), (.bool true), (.str [111, 114]), (.int .i64 2), (.int .i64 1), (.bool true), (.str [120, 111, 114]), (.int .i64 2), (.int .i64 1), (.bool true), (.str [108, 101, 115, 115]), (.int .i64 2), (.int .i64 1), (.bool true), (.str [115, 97, 109, 101]), (.int .i64 2), (.int .i64 1), (.bool true), (.str [108, 111, 97, 100]), (.int .i64 1), (.int .i64 1), (.bool true), (.str [115, 116, 111, 114, 101]), (.int .i64 2), (.int .i64 1), (.bool false), (.str [99, 97, 108, 108]), (.int .i64 1), (.int .i64 1), (.bool true), (.str []), (.int .i64 0), (.int .i64 0), (.bool false), (.str [122, 101, 114, 111]), (.int .i64 1), (.int .i64 2), (.bool false), (.str [114, 101, 116]), (.int .i64 1), (.int .i64 0), (.bool false)]
def c_joinerylaw15_EngineRuns_D0 : List O := [
⟨(some 31), .load true 6 (.t 5), none⟩,
⟨(some 32), .load true 3 (.t 2), none⟩,
⟨(some 33), .load true 11 (.t 3), none⟩,
⟨(some 34), .call 10 [(.t 32), (.t 33)], none⟩,
⟨(some 35), .call 9 [(.t 31), (.t 34)], none⟩,
⟨(some 36), .mov (.t 35), none⟩,
⟨(some 37), .mov (.t 6), (some (36, true))⟩,
⟨(some 38), .bin .eql (.t 37) (.k (.int .i64 0)), (some (36, true))⟩,
⟨(some 39), .pick (.t 36) (.t 38) (.k (.bool false)), none⟩,
⟨(some 40), .mov (.t 39), none⟩,
⟨(some 41), .call 6 [], (some (40, true))⟩,
⟨(some 42), .pick (.t 40) (.t 41) (.k (.bool false)), none⟩,
⟨(some 4), .mov (.t 42), none⟩]
def c_joinerylaw15_EngineRuns : F := ⟨true, 2, (.seq (.ops [
⟨(some 2), .box (.t 0), none⟩,
⟨(some 3), .box (.t 1), none⟩,
⟨(some 4), .mov (.k (.bool false)), none⟩] [2, 3])
 (.seq (.seq (.ops [
⟨(some 7), .load true 3 (.t 2), none⟩,
⟨(some 8), .load true 11 (.t 3), none⟩,
⟨(some 9), .call 5 [(.t 7), (.t 8)], none⟩] [2, 3, 9])
 (.cond (.t 9) (.seq (.ops [
⟨(some 10), .call 6 [], none⟩,
⟨(some 4), .mov (.t 10), none⟩] [4])
 .ret)
 .skip))
 (.seq (.ops [
⟨(some 12), .load true 3 (.t 2), none⟩,
⟨(some 13), .load true 11 (.t 3), none⟩,
⟨(some 14), .call 7 [(.t 12), (.t 13)], none⟩,
⟨(some 11), .mov (.t 14), none⟩,
⟨(some 15), .extract (.t 11) 0, none⟩,
⟨(some 16), .extract (.t 11) 1, none⟩,
⟨(some 5), .alloc [.nils, (.int .i64 0), (.int .i64 0), .nils, (.int .i64 0), (.int .i64 0)], none⟩,
⟨none, .store 6 (.t 5) (.t 15), none⟩,
⟨(some 6), .mov (.t 16), none⟩] [2, 3, 5, 6])
 (.seq (.seq (.ops [
⟨(some 17), .load true 3 (.t 2), none⟩,
⟨(some 18), .load true 11 (.t 3), none⟩,
⟨(some 19), .call 8 [(.t 17), (.t 18)], none⟩,
⟨(some 20), .un .not (.t 19), none⟩] [2, 3, 5, 6, 20])
 (.cond (.t 20) (.seq (.ops [
⟨(some 21), .load true 6 (.t 5), none⟩,
⟨(some 22), .build [.nils, (.int .i64 0), (.int .i64 0), .nils, (.int .i64 0), (.int .i64 0)] [], none⟩,
⟨(some 23), .call 9 [(.t 21), (.t 22)], none⟩,
⟨(some 24), .mov (.t 23), none⟩,
⟨(some 25), .mov (.t 6), (some (24, true))⟩,
⟨(some 26), .bin .eql (.t 25) (.k (.int .i64 1)), (some (24, true))⟩,
⟨(some 27), .pick (.t 24) (.t 26) (.k (.bool false)), none⟩,
⟨(some 28), .mov (.t 27), none⟩,
⟨(some 29), .call 6 [], (some (28, true))⟩,
⟨(some 30), .pick (.t 28) (.t 29) (.k (.bool false)), none⟩,
⟨(some 4), .mov (.t 30), none⟩] [4])
 .ret)
 .skip))
 (.seq (.opsD c_joinerylaw15_EngineRuns_D0 [0, 0, 0, 6, 15, 31, 63, 127, 255, 511, 1023, 2047, 4095] [4])
 .ret))))), [.tmp 4]⟩
abbrev n_joinerylaw15_EngineRuns : Nat := 3
def c_joinerylaw15_great : F := ⟨true, 2, (.seq (.ops [
⟨(some 2), .box (.t 0), none⟩,
⟨(some 3), .box (.t 1), none⟩,
⟨(some 4), .mov (.k (.bool false)), none⟩] [2, 3])
 (.seq (.ops [
⟨(some 5), .load true 3 (.t 2), none⟩,
⟨(some 6), .call 16 [(.t 5)], none⟩,
⟨(some 7), .mov (.t 6), none⟩,
⟨(some 8), .faddr 8 (.t 3), (some (7, false))⟩,
⟨(some 9), .load false 1 (.t 8), (some (7, false))⟩,
⟨(some 10), .len 0 (.t 9), (some (7, false))⟩,
⟨(some 11), .bin .gtr (.t 10) (.k (.int .i64 100)), (some (7, false))⟩,
⟨(some 12), .pick (.t 7) (.k (.bool true)) (.t 11), none⟩,
⟨(some 13), .mov (.t 12), none⟩,
⟨(some 14), .faddr 9 (.t 3), (some (13, false))⟩,
⟨(some 15), .load false 1 (.t 14), (some (13, false))⟩,
⟨(some 16), .len 0 (.t 15), (some (13, false))⟩,
⟨(some 17), .bin .gtr (.t 16) (.k (.int .i64 1000)), (some (13, false))⟩,
⟨(some 18), .pick (.t 13) (.k (.bool true)) (.t 17), none⟩,
⟨(some 19), .mov (.t 18), none⟩,
⟨(some 20), .faddr 10 (.t 3), (some (19, false))⟩,
⟨(some 21), .load false 1 (.t 20), (some (19, false))⟩,
⟨(some 22), .bin .gtr (.t 21) (.k (.int .i64 300)), (some (19, false))⟩,
⟨(some 23), .mov (.t 22), (some (19, false))⟩,
⟨(some 24), .faddr 10 (.t 3), (some (23, true))⟩,
⟨(some 25), .load false 1 (.t 24), (some (23, true))⟩,
⟨(some 26), .bin .leq (.t 25) (.k (.int .i64 5000)), (some (23, true))⟩,
⟨(some 27), .pick (.t 23) (.t 26) (.k (.bool false)), (some (19, false))⟩,
⟨(some 28), .pick (.t 19) (.k (.bool true)) (.t 27), none⟩,
⟨(some 4), .mov (.t 28), none⟩] [4])
 .ret)), [.tmp 4]⟩
abbrev n_joinerylaw15_great : Nat := 5
def c_joinerylaw15_knows : F := ⟨true, 0, (.seq (.ops [
⟨(some 0), .mov (.k (.bool false)), none⟩] [])
 (.seq (.ops [
⟨(some 10), .call 17 [(.k (.str [109, 111, 118, 32, 115, 48, 32, 114, 48, 10, 99, 97, 108, 108, 32, 114, 49, 32, 114, 48, 32, 55, 10, 109, 111, 118, 32, 114, 50, 32, 115, 48, 10, 114, 101, 116, 32, 114, 50, 10]))], none⟩,
⟨(some 9), .mov (.t 10), none⟩,
⟨(some 11), .extract (.t 9) 0, none⟩,
⟨(some 12), .extract (.t 9) 1, none⟩,
⟨(some 13), .extract (.t 9) 2, none⟩,
⟨(some 1), .mov (.t 11), none⟩,
⟨(some 2), .mov (.t 12), none⟩,
⟨(some 3), .mov (.t 13), none⟩] [1])
 (.seq (.ops [
⟨(some 15), .mov (.t 1), none⟩,
⟨(some 16), .call 13 [(.t 15)], none⟩,
⟨(some 14), .mov (.t 16), none⟩,
⟨(some 17), .extract (.t 14) 0, none⟩,
⟨(some 18), .extract (.t 14) 1, none⟩,
⟨(some 4), .alloc [(.int .i64 0), .nils, .nils], none⟩,
⟨none, .store 3 (.t 4) (.t 17), none⟩,
⟨(some 5), .mov (.t 18), none⟩] [4])
 (.seq (.ops [
⟨(some 19), .lit 2 1 false [(.int .i64 0)] 1 [(0, (.k (.int .i64 9)))], none⟩,
⟨(some 20), .build [(.int .i64 0), (.int .i64 0), (.int .i64 0), (.int .i64 0), (.int .i64 0), (.int .i64 0), (.int .i64 0), (.int .i64 0), .nils, .nils, (.int .i64 0)] [(9, 1, (.t 19)), (10, 1, (.k (.int .i64 9)))], none⟩,
⟨(some 6), .alloc [(.int .i64 0), (.int .i64 0), (.int .i64 0), (.int .i64 0), (.int .i64 0), (.int .i64 0), (.int .i64 0), (.int .i64 0), .nils, .nils, (.int .i64 0)], none⟩,
⟨none, .store 11 (.t 6) (.t 20), none⟩] [4, 6])
 (.seq (.ops [
⟨(some 21), .faddr 0 (.t 6), none⟩,
⟨(some 22), .iaddrA 8 1 (.t 21) (.k (.int .i64 0)), none⟩,
⟨none, .store 1 (.t 22) (.k (.int .i64 5)), none⟩] [4, 6])
 (.seq (.ops [
⟨(some 24), .load true 3 (.t 4), none⟩,
⟨(some 25), .load true 11 (.t 6), none⟩,
⟨(some 26), .call 7 [(.t 24), (.t 25)], none⟩,
⟨(some 23), .mov (.t 26), none⟩,
⟨(some 27), .extract (.t 23) 0, none⟩,
⟨(some 28), .extract (.t 23) 1, none⟩,
⟨(some 7), .alloc [.nils, (.int .i64 0), (.int .i64 0), .nils, (.int .i64 0), (.int .i64 0)], none⟩,
⟨none, .store 6 (.t 7) (.t 27), none⟩,
⟨(some 8), .mov (.t 28), none⟩] [7, 8])
 (.seq (.ops [
⟨(some 29), .mov (.t 8), none⟩,
⟨(some 30), .bin .eql (.t 29) (.k (.int .i64 0)), none⟩,
⟨(some 31), .mov (.t 30), none⟩,
⟨(some 32), .faddr 0 (.t 7), (some (31, true))⟩,
⟨(some 33), .load false 1 (.t 32), (some (31, true))⟩,
⟨(some 34), .len 0 (.t 33), (some (31, true))⟩,
⟨(some 35), .bin .eql (.t 34) (.k (.int .i64 1)), (some (31, true))⟩,
⟨(some 36), .pick (.t 31) (.t 35) (.k (.bool false)), none⟩,
⟨(some 37), .mov (.t 36), none⟩,
⟨(some 38), .faddr 0 (.t 7), (some (37, true))⟩,
⟨(some 39), .load false 1 (.t 38), (some (37, true))⟩,
⟨(some 40), .iaddr 3 (.t 39) (.k (.int .i64 0)), (some (37, true))⟩,
⟨(some 41), .load true 3 (.t 40), (some (37, true))⟩,
⟨(some 42), .build [(.int .i64 0), (.int .i64 0), (.int .i64 0)] [(0, 1, (.k (.int .i64 7))), (1, 1, (.k (.int .i64 5))), (2, 1, (.k (.int .i64 9)))], (some (37, true))⟩,
⟨(some 43), .eq false (.tst [(1, .ti), (1, .ti), (1, .ti)]) (.t 41) (.t 42), (some (37, true))⟩,
⟨(some 44), .pick (.t 37) (.t 43) (.k (.bool false)), none⟩,
⟨(some 45), .mov (.t 44), none⟩,
⟨(some 46), .faddr 1 (.t 7), (some (45, true))⟩,
⟨(some 47), .faddr 0 (.t 46), (some (45, true))⟩,
⟨(some 48), .load false 1 (.t 47), (some (45, true))⟩,
⟨(some 49), .bin .eql (.t 48) (.k (.int .i64 1)), (some (45, true))⟩,
⟨(some 50), .pick (.t 45) (.t 49) (.k (.bool false)), none⟩,
⟨(some 51), .mov (.t 50), none⟩,
⟨(some 52), .faddr 1 (.t 7), (some (51, true))⟩,
⟨(some 53), .faddr 1 (.t 52), (some (51, true))⟩,
⟨(some 54), .load false 1 (.t 53), (some (51, true))⟩,
⟨(some 55), .bin .eql (.t 54) (.k (.int .i64 5)), (some (51, true))⟩,
⟨(some 56), .pick (.t 51) (.t 55) (.k (.bool false)), none⟩,
⟨(some 57), .mov (.t 56), none⟩,
⟨(some 58), .faddr 4 (.t 7), (some (57, true))⟩,
⟨(some 59), .load false 1 (.t 58), (some (57, true))⟩,
⟨(some 60), .bin .eql (.t 59) (.k (.int .i64 2)), (some (57, true))⟩,
⟨(some 61), .pick (.t 57) (.t 60) (.k (.bool false)), none⟩,
⟨(some 0), .mov (.t 61), none⟩] [0])
 .ret))))))), [.tmp 0]⟩
abbrev n_joinerylaw15_knows : Nat := 6
def c_engine_Run_D0 : List O := [
⟨(some 20), .load true 3 (.t 2), none⟩,
⟨(some 21), .load true 11 (.t 3), none⟩,
⟨(some 22), .faddr 2 (.t 2), none⟩,
⟨(some 23), .load false 1 (.t 22), none⟩,
⟨(some 24), .len 0 (.t 23), none⟩,
⟨(some 25), .mkslice 45 2 16 false [(.bool false), (.int .i64 0)] (.t 24), none⟩,
⟨(some 26), .lit 2 1 false [(.int .i64 0)] 0 [], none⟩,
⟨(some 27), .faddr 8 (.t 3), none⟩,
⟨(some 28), .load false 1 (.t 27), none⟩,
⟨(some 29), .append 2 1 8 false (.t 26) (.t 28), none⟩,
⟨(some 30), .build [(.int .i64 0), .nils, .nils, (.int .i64 0), (.int .i64 0), (.int .i64 0), (.int .i64 0), (.int .i64 0), (.int .i64 0), (.int .i64 0), (.int .i64 0), .nils, .nils, (.int .i64 0), .nils, .nils, .nils, (.int .i64 0), (.int .i64 0), (.bool false), (.int .i64 0), .nils, (.int .i64 0), (.int .i64 0), .nils, (.int .i64 0), (.int .i64 0)] [(0, 3, (.t 20)), (3, 11, (.t 21)), (15, 1, (.t 25)), (16, 1, (.t 29))], none⟩,
⟨(some 31), .box (.t 30), none⟩,
⟨(some 6), .mov (.t 31), none⟩]
def c_engine_Run_D1 : List O := [
⟨(some 38), .mov (.t 6), none⟩,
⟨(some 39), .mov (.t 6), none⟩,
⟨(some 40), .nilck (.t 39), none⟩,
⟨(some 41), .faddr 14 (.t 40), none⟩,
⟨(some 42), .load false 1 (.t 41), none⟩,
⟨(some 43), .load true 3 (.t 2), none⟩,
⟨(some 44), .mov (.t 7), none⟩,
⟨(some 45), .call 20 [(.t 43), (.t 44)], none⟩,
⟨(some 46), .lit 66 1 false [.nils] 1 [(0, (.t 45))], none⟩,
⟨(some 47), .append 66 1 24 false (.t 42) (.t 46), none⟩,
⟨(some 48), .nilck (.t 38), none⟩,
⟨(some 49), .faddr 14 (.t 48), none⟩,
⟨none, .store 1 (.t 49) (.t 47), none⟩]
def c_engine_Run_L2 : C := (.seq (.ops [
⟨(some 36), .bin .lss (.t 35) (.t 34), none⟩] [2, 3, 4, 6, 34, 35, 36])
 (.seq (.cond (.t 36) .skip
 (.exit 0))
 (.seq (.block 1 (.seq (.ops [
⟨(some 37), .mov (.t 35), none⟩,
⟨(some 7), .mov (.t 37), none⟩] [2, 3, 4, 6, 7, 34, 35])
 (.opsD c_engine_Run_D1 [0, 0, 2, 6, 14, 0, 0, 96, 224, 510, 1023, 2047, 4095] [2, 3, 4, 6, 34, 35])))
 (.ops [
⟨(some 50), .bin .add (.t 35) (.k (.int .i64 1)), none⟩,
⟨(some 35), .mov (.t 50), none⟩] [2, 3, 4, 6, 34, 35]))))
def c_engine_Run_D3 : List O := [
⟨(some 56), .mov (.t 6), none⟩,
⟨(some 57), .nilck (.t 56), none⟩,
⟨(some 58), .faddr 21 (.t 57), none⟩,
⟨(some 59), .faddr 4 (.t 58), none⟩,
⟨(some 60), .load false 1 (.t 59), none⟩,
⟨(some 61), .faddr 10 (.t 3), none⟩,
⟨(some 62), .load false 1 (.t 61), none⟩,
⟨(some 63), .bin .lss (.t 60) (.t 62), none⟩,
⟨(some 64), .mov (.t 63), none⟩,
⟨(some 65), .mov (.t 6), (some (64, true))⟩,
⟨(some 66), .nilck (.t 65), (some (64, true))⟩,
⟨(some 67), .faddr 18 (.t 66), (some (64, true))⟩,
⟨(some 68), .load false 1 (.t 67), (some (64, true))⟩,
⟨(some 69), .bin .geq (.t 68) (.k (.int .i64 0)), (some (64, true))⟩,
⟨(some 70), .pick (.t 64) (.t 69) (.k (.bool false)), none⟩]
def c_engine_Run_L4 : C := (.seq (.seq (.opsD c_engine_Run_D3 [0, 1, 3, 7, 15, 0, 32, 127, 255, 511, 1023, 2047, 4095, 8191, 16383] [2, 3, 4, 6, 70])
 (.cond (.t 70) .skip
 (.exit 2)))
 (.block 3 (.seq (.ops [
⟨(some 71), .mov (.t 6), none⟩,
⟨(some 72), .nilck (.t 71), none⟩,
⟨(some 73), .faddr 18 (.t 72), none⟩,
⟨(some 74), .load false 1 (.t 73), none⟩,
⟨(some 8), .mov (.t 74), none⟩] [2, 3, 4, 6, 8])
 (.seq (.ops [
⟨(some 75), .mov (.t 6), none⟩,
⟨(some 76), .nilck (.t 75), none⟩,
⟨(some 77), .faddr 21 (.t 76), none⟩,
⟨(some 78), .faddr 4 (.t 77), none⟩,
⟨(some 79), .load false 1 (.t 78), none⟩,
⟨(some 80), .bin .add (.t 79) (.k (.int .i64 1)), none⟩,
⟨(some 81), .nilck (.t 75), none⟩,
⟨(some 82), .faddr 21 (.t 81), none⟩,
⟨(some 83), .faddr 4 (.t 82), none⟩,
⟨none, .store 1 (.t 83) (.t 80), none⟩] [2, 3, 4, 6, 8])
 (.seq (.ops [
⟨(some 85), .mov (.t 6), none⟩,
⟨(some 86), .faddr 1 (.t 2), none⟩,
⟨(some 87), .load false 1 (.t 86), none⟩,
⟨(some 88), .mov (.t 8), none⟩,
⟨(some 89), .iaddr 4 (.t 87) (.t 88), none⟩,
⟨(some 90), .load true 4 (.t 89), none⟩,
⟨(some 91), .call 22 [(.t 85), (.t 90)], none⟩,
⟨(some 84), .mov (.t 91), none⟩,
⟨(some 92), .extract (.t 84) 0, none⟩,
⟨(some 93), .extract (.t 84) 1, none⟩,
⟨(some 9), .mov (.t 92), none⟩,
⟨(some 10), .mov (.t 93), none⟩] [2, 3, 4, 6, 8, 9, 10])
 (.seq (.seq (.ops [
⟨(some 94), .mov (.t 9), none⟩,
⟨(some 95), .bin .neq (.t 94) (.k (.int .i64 0)), none⟩] [2, 3, 4, 6, 8, 9, 10, 95])
 (.cond (.t 95) (.seq (.ops [
⟨(some 96), .mov (.t 6), none⟩,
⟨(some 97), .mov (.t 9), none⟩,
⟨(some 98), .nilck (.t 96), none⟩,
⟨(some 99), .faddr 21 (.t 98), none⟩,
⟨(some 100), .faddr 1 (.t 99), none⟩,
⟨(some 101), .faddr 0 (.t 100), none⟩,
⟨none, .store 1 (.t 101) (.t 97), none⟩] [4, 6])
 (.exit 2))
 .skip))
 (.ops [
⟨(some 102), .mov (.t 6), none⟩,
⟨(some 103), .mov (.t 8), none⟩,
⟨(some 104), .mov (.t 10), none⟩,
⟨(some 105), .build [(.int .i64 0), (.int .i64 0)] [(0, 1, (.t 103)), (1, 1, (.t 104))], none⟩,
⟨(some 106), .faddr 1 (.t 2), none⟩,
⟨(some 107), .load false 1 (.t 106), none⟩,
⟨(some 108), .mov (.t 8), none⟩,
⟨(some 109), .iaddr 4 (.t 107) (.t 108), none⟩,
⟨(some 110), .faddr 3 (.t 109), none⟩,
⟨(some 111), .load false 1 (.t 110), none⟩,
⟨(some 112), .mov (.t 10), none⟩,
⟨(some 113), .iaddr 1 (.t 111) (.t 112), none⟩,
⟨(some 114), .load false 1 (.t 113), none⟩,
⟨(some 115), .call 21 [(.t 102), (.t 105), (.t 114)], none⟩] [2, 3, 4, 6])))))))
def c_engine_Run : F := ⟨true, 2, (.seq (.ops [
⟨(some 2), .box (.t 0), none⟩,
⟨(some 3), .box (.t 1), none⟩,
⟨(some 4), .alloc [.nils, (.int .i64 0), (.int .i64 0), .nils, (.int .i64 0), (.int .i64 0)], none⟩,
⟨(some 5), .mov (.k (.int .i64 0)), none⟩] [2, 3, 4])
 (.seq (.seq (.ops [
⟨(some 11), .load true 3 (.t 2), none⟩,
⟨(some 12), .call 18 [(.t 11)], none⟩,
⟨(some 13), .un .not (.t 12), none⟩,
⟨(some 14), .mov (.t 13), none⟩,
⟨(some 15), .load true 11 (.t 3), (some (14, false))⟩,
⟨(some 16), .call 19 [(.t 15)], (some (14, false))⟩,
⟨(some 17), .un .not (.t 16), (some (14, false))⟩,
⟨(some 18), .pick (.t 14) (.k (.bool true)) (.t 17), none⟩] [2, 3, 4, 18])
 (.cond (.t 18) (.seq (.ops [
⟨(some 19), .build [.nils, (.int .i64 0), (.int .i64 0), .nils, (.int .i64 0), (.int .i64 0)] [], none⟩,
⟨none, .store 6 (.t 4) (.t 19), none⟩,
⟨(some 5), .mov (.k (.int .i64 1)), none⟩] [4, 5])
 .ret)
 .skip))
 (.seq (.opsD c_engine_Run_D0 [0, 0, 0, 4, 12, 28, 0, 0, 128, 448, 1023, 2047, 4095] [2, 3, 4, 6])
 (.seq (.seq (.ops [
⟨(some 32), .faddr 1 (.t 2), none⟩,
⟨(some 33), .load false 1 (.t 32), none⟩,
⟨(some 34), .len 0 (.t 33), none⟩,
⟨(some 35), .mov (.k (.int .i64 0)), none⟩] [2, 3, 4, 6, 34, 35])
 (.block 0 (.loop c_engine_Run_L2)))
 (.seq (.ops [
⟨(some 51), .mov (.t 6), none⟩,
⟨(some 52), .build [(.int .i64 0), (.int .i64 0)] [(0, 1, (.k (.int .i64 (-1))))], none⟩,
⟨(some 53), .faddr 0 (.t 2), none⟩,
⟨(some 54), .load false 1 (.t 53), none⟩,
⟨(some 55), .call 21 [(.t 51), (.t 52), (.t 54)], none⟩] [2, 3, 4, 6])
 (.seq (.block 2 (.loop c_engine_Run_L4))
 (.seq (.ops [
⟨(some 116), .mov (.t 6), none⟩,
⟨(some 117), .mov (.t 6), none⟩,
⟨(some 118), .nilck (.t 117), none⟩,
⟨(some 119), .faddr 21 (.t 118), none⟩,
⟨(some 120), .faddr 4 (.t 119), none⟩,
⟨(some 121), .load false 1 (.t 120), none⟩,
⟨(some 122), .nilck (.t 116), none⟩,
⟨(some 123), .faddr 21 (.t 122), none⟩,
⟨(some 124), .faddr 5 (.t 123), none⟩,
⟨none, .store 1 (.t 124) (.t 121), none⟩] [4, 6])
 (.seq (.ops [
⟨(some 125), .mov (.t 6), none⟩,
⟨(some 126), .nilck (.t 125), none⟩,
⟨(some 127), .faddr 21 (.t 126), none⟩,
⟨(some 128), .load true 6 (.t 127), none⟩,
⟨none, .store 6 (.t 4) (.t 128), none⟩,
⟨(some 5), .mov (.k (.int .i64 0)), none⟩] [4, 5])
 .ret)))))))), [.cell 4 true 6, .tmp 5]⟩
abbrev n_engine_Run : Nat := 7
def c_joineryref15_Fair : F := ⟨true, 2, (.seq (.ops [
⟨(some 2), .box (.t 0), none⟩,
⟨(some 3), .box (.t 1), none⟩,
⟨(some 4), .mov (.k (.bool false)), none⟩] [2, 3])
 (.seq (.ops [
⟨(some 5), .load true 3 (.t 2), none⟩,
⟨(some 6), .call 23 [(.t 5)], none⟩,
⟨(some 7), .mov (.t 6), none⟩,
⟨(some 8), .load true 11 (.t 3), (some (7, true))⟩,
⟨(some 9), .call 24 [(.t 8)], (some (7, true))⟩,
⟨(some 10), .pick (.t 7) (.t 9) (.k (.bool false)), none⟩,
⟨(some 4), .mov (.t 10), none⟩] [4])
 .ret)), [.tmp 4]⟩
abbrev n_joineryref15_Fair : Nat := 8
def c_joineryref08_Same : F := ⟨true, 2, (.seq (.ops [
⟨(some 2), .box (.t 0), none⟩,
⟨(some 3), .box (.t 1), none⟩,
⟨(some 4), .mov (.k (.bool false)), none⟩] [2, 3])
 (.seq (.ops [
⟨(some 5), .faddr 0 (.t 2), none⟩,
⟨(some 6), .load false 1 (.t 5), none⟩,
⟨(some 7), .faddr 0 (.t 3), none⟩,
⟨(some 8), .load false 1 (.t 7), none⟩,
⟨(some 9), .call 14 [(.t 6), (.t 8)], none⟩,
⟨(some 10), .mov (.t 9), none⟩,
⟨(some 11), .faddr 1 (.t 2), (some (10, true))⟩,
⟨(some 12), .load true 3 (.t 11), (some (10, true))⟩,
⟨(some 13), .faddr 1 (.t 3), (some (10, true))⟩,
⟨(some 14), .load true 3 (.t 13), (some (10, true))⟩,
⟨(some 15), .call 15 [(.t 12), (.t 14)], (some (10, true))⟩,
⟨(some 16), .pick (.t 10) (.t 15) (.k (.bool false)), none⟩,
⟨(some 17), .mov (.t 16), none⟩,
⟨(some 18), .faddr 4 (.t 2), (some (17, true))⟩,
⟨(some 19), .load false 1 (.t 18), (some (17, true))⟩,
⟨(some 20), .faddr 4 (.t 3), (some (17, true))⟩,
⟨(some 21), .load false 1 (.t 20), (some (17, true))⟩,
⟨(some 22), .bin .eql (.t 19) (.t 21), (some (17, true))⟩,
⟨(some 23), .pick (.t 17) (.t 22) (.k (.bool false)), none⟩,
⟨(some 24), .mov (.t 23), none⟩,
⟨(some 25), .faddr 5 (.t 2), (some (24, true))⟩,
⟨(some 26), .load false 1 (.t 25), (some (24, true))⟩,
⟨(some 27), .faddr 5 (.t 3), (some (24, true))⟩,
⟨(some 28), .load false 1 (.t 27), (some (24, true))⟩,
⟨(some 29), .bin .eql (.t 26) (.t 28), (some (24, true))⟩,
⟨(some 30), .pick (.t 24) (.t 29) (.k (.bool false)), none⟩,
⟨(some 4), .mov (.t 30), none⟩] [4])
 .ret)), [.tmp 4]⟩
abbrev n_joineryref08_Same : Nat := 9
def c_joineryref15_Run_L0 : C := (.seq (.seq (.ops [
⟨(some 10), .mov (.t 6), none⟩,
⟨(some 11), .faddr 10 (.t 3), none⟩,
⟨(some 12), .load false 1 (.t 11), none⟩,
⟨(some 13), .bin .lss (.t 10) (.t 12), none⟩] [2, 3, 4, 5, 6, 13])
 (.cond (.t 13) .skip
 (.exit 0)))
 (.seq (.block 1 (.seq (.seq (.ops [
⟨(some 16), .faddr 0 (.t 5), none⟩,
⟨(some 17), .load false 1 (.t 16), none⟩,
⟨(some 18), .bin .lss (.t 17) (.k (.int .i64 0)), none⟩,
⟨(some 19), .mov (.t 18), none⟩,
⟨(some 20), .faddr 4 (.t 5), (some (19, false))⟩,
⟨(some 21), .faddr 1 (.t 20), (some (19, false))⟩,
⟨(some 22), .faddr 0 (.t 21), (some (19, false))⟩,
⟨(some 23), .load false 1 (.t 22), (some (19, false))⟩,
⟨(some 24), .bin .neq (.t 23) (.k (.int .i64 0)), (some (19, false))⟩,
⟨(some 25), .pick (.t 19) (.k (.bool true)) (.t 24), none⟩] [2, 3, 4, 5, 6, 25])
 (.cond (.t 25) (.seq (.ops [
⟨(some 26), .faddr 4 (.t 5), none⟩,
⟨(some 27), .load true 6 (.t 26), none⟩,
⟨none, .store 6 (.t 4) (.t 27), none⟩] [4])
 .ret)
 .skip))
 (.ops [
⟨(some 28), .load true 3 (.t 2), none⟩,
⟨(some 29), .load true 11 (.t 3), none⟩,
⟨(some 30), .load true 10 (.t 5), none⟩,
⟨(some 31), .call 26 [(.t 28), (.t 29), (.t 30)], none⟩,
⟨none, .store 10 (.t 5) (.t 31), none⟩] [2, 3, 4, 5, 6])))
 (.ops [
⟨(some 14), .mov (.t 6), none⟩,
⟨(some 15), .bin .add (.t 14) (.k (.int .i64 1)), none⟩,
⟨(some 6), .mov (.t 15), none⟩] [2, 3, 4, 5, 6])))
def c_joineryref15_Run : F := ⟨true, 2, (.seq (.ops [
⟨(some 2), .box (.t 0), none⟩,
⟨(some 3), .box (.t 1), none⟩,
⟨(some 4), .alloc [.nils, (.int .i64 0), (.int .i64 0), .nils, (.int .i64 0), (.int .i64 0)], none⟩] [2, 3, 4])
 (.seq (.ops [
⟨(some 7), .load true 3 (.t 2), none⟩,
⟨(some 8), .load true 11 (.t 3), none⟩,
⟨(some 9), .call 25 [(.t 7), (.t 8)], none⟩,
⟨(some 5), .alloc [(.int .i64 0), .nils, .nils, (.int .i64 0), .nils, (.int .i64 0), (.int .i64 0), .nils, (.int .i64 0), (.int .i64 0)], none⟩,
⟨none, .store 10 (.t 5) (.t 9), none⟩] [2, 3, 4, 5])
 (.seq (.seq (.ops [
⟨(some 6), .mov (.k (.int .i64 0)), none⟩] [2, 3, 4, 5, 6])
 (.block 0 (.loop c_joineryref15_Run_L0)))
 (.seq (.ops [
⟨(some 32), .faddr 4 (.t 5), none⟩,
⟨(some 33), .load true 6 (.t 32), none⟩,
⟨none, .store 6 (.t 4) (.t 33), none⟩] [4])
 .ret)))), [.cell 4 true 6]⟩
abbrev n_joineryref15_Run : Nat := 10
def c_norm_Of_D0 : List O := [
⟨(some 30), .load false 1 (.t 4), none⟩,
⟨(some 31), .mov (.t 0), none⟩,
⟨(some 32), .call 32 [(.t 31)], none⟩,
⟨(some 29), .mov (.t 32), none⟩,
⟨(some 33), .extract (.t 29) 0, none⟩,
⟨(some 34), .extract (.t 29) 1, none⟩,
⟨(some 35), .nilck (.t 30), none⟩,
⟨(some 36), .faddr 1 (.t 35), none⟩,
⟨none, .store 1 (.t 36) (.t 33), none⟩]
def c_norm_Of_D1 : List O := [
⟨(some 38), .load false 1 (.t 4), none⟩,
⟨(some 39), .mov (.t 0), none⟩,
⟨(some 40), .load false 1 (.t 4), none⟩,
⟨(some 41), .nilck (.t 40), none⟩,
⟨(some 42), .faddr 1 (.t 41), none⟩,
⟨(some 43), .load false 1 (.t 42), none⟩,
⟨(some 44), .call 33 [(.t 39), (.t 43)], none⟩,
⟨(some 37), .mov (.t 44), none⟩,
⟨(some 45), .extract (.t 37) 0, none⟩,
⟨(some 46), .extract (.t 37) 1, none⟩,
⟨(some 47), .nilck (.t 38), none⟩,
⟨(some 48), .faddr 2 (.t 47), none⟩,
⟨none, .store 26 (.t 48) (.t 45), none⟩]
def c_norm_Of_D2 : List O := [
⟨(some 49), .load false 1 (.t 4), none⟩,
⟨(some 50), .load false 1 (.t 4), none⟩,
⟨(some 51), .load false 1 (.t 4), none⟩,
⟨(some 52), .mov (.t 0), none⟩,
⟨(some 53), .load false 1 (.t 4), none⟩,
⟨(some 54), .nilck (.t 53), none⟩,
⟨(some 55), .faddr 2 (.t 54), none⟩,
⟨(some 56), .load true 26 (.t 55), none⟩,
⟨(some 57), .call 34 [(.t 52), (.t 56)], none⟩,
⟨(some 58), .mov (.t 0), none⟩,
⟨(some 59), .load false 1 (.t 4), none⟩,
⟨(some 60), .nilck (.t 59), none⟩,
⟨(some 61), .faddr 2 (.t 60), none⟩,
⟨(some 62), .load true 26 (.t 61), none⟩,
⟨(some 63), .call 35 [(.t 58), (.t 62)], none⟩,
⟨(some 64), .load false 1 (.t 4), none⟩,
⟨(some 65), .nilck (.t 64), none⟩,
⟨(some 66), .faddr 2 (.t 65), none⟩,
⟨(some 67), .load true 26 (.t 66), none⟩,
⟨(some 68), .call 36 [(.t 67)], none⟩,
⟨(some 69), .nilck (.t 49), none⟩,
⟨(some 70), .faddr 28 (.t 69), none⟩,
⟨none, .store 1 (.t 70) (.t 57), none⟩,
⟨(some 71), .nilck (.t 50), none⟩,
⟨(some 72), .faddr 29 (.t 71), none⟩,
⟨none, .store 1 (.t 72) (.t 63), none⟩,
⟨(some 73), .nilck (.t 51), none⟩,
⟨(some 74), .faddr 30 (.t 73), none⟩,
⟨none, .store 1 (.t 74) (.t 68), none⟩]
def c_norm_Of_D3 : List O := [
⟨(some 97), .load false 1 (.t 4), none⟩,
⟨(some 98), .nilck (.t 97), none⟩,
⟨(some 99), .faddr 1 (.t 98), none⟩,
⟨(some 100), .load false 1 (.t 99), none⟩,
⟨(some 101), .faddr 0 (.t 10), none⟩,
⟨(some 102), .load false 1 (.t 101), none⟩,
⟨(some 103), .iaddr 1 (.t 100) (.t 102), none⟩,
⟨(some 104), .load false 1 (.t 103), none⟩,
⟨(some 105), .un .not (.t 104), none⟩]
def c_norm_Of_D4 : List O := [
⟨(some 135), .faddr 2 (.t 11), none⟩,
⟨(some 136), .load false 1 (.t 135), none⟩,
⟨(some 137), .mov (.t 7), none⟩,
⟨(some 138), .mov (.t 9), none⟩,
⟨(some 139), .load false 1 (.t 4), none⟩,
⟨(some 140), .nilck (.t 139), none⟩,
⟨(some 141), .faddr 28 (.t 140), none⟩,
⟨(some 142), .load false 1 (.t 141), none⟩,
⟨(some 143), .mov (.t 9), none⟩,
⟨(some 144), .iaddr 1 (.t 142) (.t 143), none⟩,
⟨(some 145), .load false 1 (.t 144), none⟩,
⟨(some 146), .mov (.t 13), none⟩,
⟨(some 147), .iaddr 2 (.t 145) (.t 146), none⟩,
⟨(some 148), .load true 2 (.t 147), none⟩,
⟨(some 149), .callv (.t 137) [(.t 138), (.t 148)], none⟩,
⟨(some 150), .lit 113 2 false [(.int .i64 0), (.int .i64 0)] 1 [(0, (.t 149))], none⟩,
⟨(some 151), .append 113 2 16 false (.t 136) (.t 150), none⟩,
⟨(some 152), .faddr 2 (.t 11), none⟩,
⟨none, .store 1 (.t 152) (.t 151), none⟩]
def c_norm_Of_L5 : C := (.seq (.ops [
⟨(some 132), .bin .lss (.t 131) (.t 130), none⟩] [0, 2, 4, 6, 7, 8, 9, 10, 11, 90, 91, 92, 129, 130, 131, 132])
 (.seq (.cond (.t 132) .skip
 (.exit 2))
 (.seq (.block 3 (.seq (.ops [
⟨(some 133), .iaddr 1 (.t 129) (.t 131), none⟩,
⟨(some 134), .load false 1 (.t 133), none⟩,
⟨(some 13), .mov (.t 134), none⟩] [0, 2, 4, 6, 7, 8, 9, 10, 11, 13, 90, 91, 92, 129, 130, 131])
 (.opsD c_norm_Of_D4 [0, 1, 0, 0, 0, 16, 48, 112, 0, 496, 1008, 0, 4080, 8176, 16380, 32764, 65535, 131071, 262143] [0, 2, 4, 6, 7, 8, 9, 10, 11, 90, 91, 92, 129, 130, 131])))
 (.ops [
⟨(some 153), .bin .add (.t 131) (.k (.int .i64 1)), none⟩,
⟨(some 131), .mov (.t 153), none⟩] [0, 2, 4, 6, 7, 8, 9, 10, 11, 90, 91, 92, 129, 130, 131]))))
def c_norm_Of_L6 : C := (.seq (.ops [
⟨(some 158), .bin .lss (.t 157) (.t 156), none⟩] [0, 2, 4, 6, 7, 8, 11, 90, 91, 92, 155, 156, 157, 158])
 (.seq (.cond (.t 158) .skip
 (.exit 4))
 (.seq (.block 5 (.seq (.ops [
⟨(some 159), .iaddr 25 (.t 155) (.t 157), none⟩,
⟨(some 160), .load true 25 (.t 159), none⟩,
⟨(some 15), .alloc [(.int .i64 0), .nilI, .nilI, .nilI, .nilI, .nilI, .nilI, .nilI, .nilI, .nilI, .nilI, .nilI, .nilI, .nilI, .nilI, .nilI, .nilI, .nilI, .nilI, .nilI, .nilI, .nilI, .nilI, .nilI, .nilI], none⟩,
⟨none, .store 25 (.t 15) (.t 160), none⟩] [0, 2, 4, 6, 7, 8, 11, 15, 90, 91, 92, 155, 156, 157])
 (.ops [
⟨(some 161), .faddr 3 (.t 11), none⟩,
⟨(some 162), .load false 1 (.t 161), none⟩,
⟨(some 163), .faddr 0 (.t 15), none⟩,
⟨(some 164), .load false 1 (.t 163), none⟩,
⟨(some 165), .lit 3 1 false [(.int .i64 0)] 1 [(0, (.t 164))], none⟩,
⟨(some 166), .append 3 1 8 false (.t 162) (.t 165), none⟩,
⟨(some 167), .faddr 3 (.t 11), none⟩,
⟨none, .store 1 (.t 167) (.t 166), none⟩] [0, 2, 4, 6, 7, 8, 11, 90, 91, 92, 155, 156, 157])))
 (.ops [
⟨(some 168), .bin .add (.t 157) (.k (.int .i64 1)), none⟩,
⟨(some 157), .mov (.t 168), none⟩] [0, 2, 4, 6, 7, 8, 11, 90, 91, 92, 155, 156, 157]))))
def c_norm_Of_L7 : C := (.seq (.ops [
⟨(some 93), .bin .lss (.t 92) (.t 91), none⟩] [0, 2, 4, 6, 7, 8, 90, 91, 92, 93])
 (.seq (.cond (.t 93) .skip
 (.exit 0))
 (.seq (.block 1 (.seq (.ops [
⟨(some 94), .mov (.t 92), none⟩,
⟨(some 95), .iaddr 2 (.t 90) (.t 92), none⟩,
⟨(some 96), .load true 2 (.t 95), none⟩,
⟨(some 10), .alloc [(.int .i64 0), .nils], none⟩,
⟨(some 9), .mov (.t 94), none⟩,
⟨none, .store 2 (.t 10) (.t 96), none⟩] [0, 2, 4, 6, 7, 8, 9, 10, 90, 91, 92])
 (.seq (.ops [
⟨(some 11), .allocOwn [(.int .i64 0), (.int .i64 0), .nils, .nils] [(2, 113, 2, false), (3, 3, 1, false)], none⟩] [0, 2, 4, 6, 7, 8, 9, 10, 11, 90, 91, 92])
 (.seq (.seq (.opsD c_norm_Of_D3 [0, 1, 3, 7, 0, 16, 63, 127, 255] [0, 2, 4, 6, 7, 8, 9, 10, 11, 90, 91, 92, 105])
 (.cond (.t 105) (.seq (.ops [
⟨(some 106), .mov (.t 0), none⟩,
⟨(some 107), .faddr 0 (.t 10), none⟩,
⟨(some 108), .load false 1 (.t 107), none⟩,
⟨(some 109), .iaddr 6 (.t 106) (.t 108), none⟩,
⟨(some 110), .faddr 0 (.t 109), none⟩,
⟨(some 111), .load false 1 (.t 110), none⟩,
⟨(some 112), .faddr 0 (.t 11), none⟩,
⟨none, .store 1 (.t 112) (.t 111), none⟩,
⟨(some 113), .faddr 1 (.t 11), none⟩,
⟨none, .store 1 (.t 113) (.k (.int .i64 0)), none⟩] [0, 2, 4, 6, 7, 8, 9, 10, 11, 90, 91, 92])
 (.seq (.seq (.ops [
⟨(some 114), .faddr 0 (.t 11), none⟩,
⟨(some 115), .load false 1 (.t 114), none⟩,
⟨(some 116), .bin .eql (.t 115) (.k (.int .i64 15)), none⟩] [0, 2, 4, 6, 7, 8, 9, 10, 11, 90, 91, 92, 116])
 (.cond (.t 116) (.ops [
⟨(some 117), .mov (.t 0), none⟩,
⟨(some 118), .faddr 0 (.t 10), none⟩,
⟨(some 119), .load false 1 (.t 118), none⟩,
⟨(some 120), .iaddr 6 (.t 117) (.t 119), none⟩,
⟨(some 121), .faddr 4 (.t 120), none⟩,
⟨(some 122), .load false 1 (.t 121), none⟩,
⟨(some 123), .faddr 1 (.t 11), none⟩,
⟨none, .store 1 (.t 123) (.t 122), none⟩] [0, 2, 4, 6, 7, 8, 9, 10, 11, 90, 91, 92])
 .skip))
 (.seq (.ops [
⟨(some 124), .mov (.t 0), none⟩,
⟨(some 125), .faddr 0 (.t 10), none⟩,
⟨(some 126), .load false 1 (.t 125), none⟩,
⟨(some 127), .iaddr 6 (.t 124) (.t 126), none⟩,
⟨(some 128), .load true 6 (.t 127), none⟩,
⟨(some 129), .call 40 [(.t 128)], none⟩,
⟨(some 130), .len 0 (.t 129), none⟩,
⟨(some 131), .mov (.k (.int .i64 0)), none⟩] [0, 2, 4, 6, 7, 8, 9, 10, 11, 90, 91, 92, 129, 130, 131])
 (.block 2 (.loop c_norm_Of_L5)))))
 .skip))
 (.seq (.seq (.ops [
⟨(some 154), .faddr 1 (.t 10), none⟩,
⟨(some 155), .load false 1 (.t 154), none⟩,
⟨(some 156), .len 0 (.t 155), none⟩,
⟨(some 157), .mov (.k (.int .i64 0)), none⟩] [0, 2, 4, 6, 7, 8, 11, 90, 91, 92, 155, 156, 157])
 (.block 4 (.loop c_norm_Of_L6)))
 (.ops [
⟨(some 169), .faddr 1 (.t 8), none⟩,
⟨(some 170), .load false 1 (.t 169), none⟩,
⟨(some 171), .load true 4 (.t 11), none⟩,
⟨(some 172), .lit 76 4 false [(.int .i64 0), (.int .i64 0), .nils, .nils] 1 [(0, (.t 171))], none⟩,
⟨(some 173), .append 76 4 64 false (.t 170) (.t 172), none⟩,
⟨(some 174), .faddr 1 (.t 8), none⟩,
⟨none, .store 1 (.t 174) (.t 173), none⟩] [0, 2, 4, 6, 7, 8, 90, 91, 92]))))))
 (.ops [
⟨(some 175), .bin .add (.t 92) (.k (.int .i64 1)), none⟩,
⟨(some 92), .mov (.t 175), none⟩] [0, 2, 4, 6, 7, 8, 90, 91, 92]))))
def c_norm_Of_D8 : List O := [
⟨(some 182), .load false 1 (.t 6), none⟩,
⟨(some 183), .mov (.t 16), none⟩,
⟨(some 184), .iaddr 2 (.t 182) (.t 183), none⟩,
⟨(some 185), .iaddrA 2 1 (.t 184) (.k (.int .i64 0)), none⟩,
⟨(some 186), .load false 1 (.t 185), none⟩,
⟨(some 187), .load false 1 (.t 6), none⟩,
⟨(some 188), .mov (.t 16), none⟩,
⟨(some 189), .iaddr 2 (.t 187) (.t 188), none⟩,
⟨(some 190), .iaddrA 2 1 (.t 189) (.k (.int .i64 1)), none⟩,
⟨(some 191), .load false 1 (.t 190), none⟩,
⟨(some 17), .mov (.t 186), none⟩,
⟨(some 18), .mov (.t 191), none⟩]
def c_norm_Of_D9 : List O := [
⟨(some 207), .faddr 1 (.t 19), none⟩,
⟨(some 208), .load false 1 (.t 207), none⟩,
⟨(some 209), .mov (.t 7), none⟩,
⟨(some 210), .faddr 0 (.t 21), none⟩,
⟨(some 211), .load false 1 (.t 210), none⟩,
⟨(some 212), .load false 1 (.t 4), none⟩,
⟨(some 213), .mov (.t 17), none⟩,
⟨(some 214), .mov (.t 20), none⟩,
⟨(some 215), .mov (.t 18), none⟩,
⟨(some 216), .call 41 [(.t 212), (.t 213), (.t 214), (.t 215)], none⟩,
⟨(some 217), .callv (.t 209) [(.t 211), (.t 216)], none⟩,
⟨(some 218), .lit 113 2 false [(.int .i64 0), (.int .i64 0)] 1 [(0, (.t 217))], none⟩,
⟨(some 219), .append 113 2 16 false (.t 208) (.t 218), none⟩,
⟨(some 220), .faddr 1 (.t 19), none⟩,
⟨none, .store 1 (.t 220) (.t 219), none⟩]
def c_norm_Of_L10 : C := (.seq (.ops [
⟨(some 203), .bin .lss (.t 202) (.t 201), none⟩] [2, 4, 6, 7, 8, 16, 17, 18, 19, 200, 201, 202, 203])
 (.seq (.cond (.t 203) .skip
 (.exit 8))
 (.seq (.block 9 (.seq (.ops [
⟨(some 204), .mov (.t 202), none⟩,
⟨(some 205), .iaddr 2 (.t 200) (.t 202), none⟩,
⟨(some 206), .load true 2 (.t 205), none⟩,
⟨(some 21), .alloc [(.int .i64 0), (.int .i64 0)], none⟩,
⟨(some 20), .mov (.t 204), none⟩,
⟨none, .store 2 (.t 21) (.t 206), none⟩] [2, 4, 6, 7, 8, 16, 17, 18, 19, 20, 21, 200, 201, 202])
 (.opsD c_norm_Of_D9 [0, 1, 0, 0, 8, 0, 0, 0, 0, 480, 1020, 2044, 4095, 8191, 16383] [2, 4, 6, 7, 8, 16, 17, 18, 19, 200, 201, 202])))
 (.ops [
⟨(some 221), .bin .add (.t 202) (.k (.int .i64 1)), none⟩,
⟨(some 202), .mov (.t 221), none⟩] [2, 4, 6, 7, 8, 16, 17, 18, 19, 200, 201, 202]))))
def c_norm_Of_L11 : C := (.seq (.seq (.ops [
⟨(some 176), .mov (.t 16), none⟩,
⟨(some 177), .load false 1 (.t 6), none⟩,
⟨(some 178), .len 0 (.t 177), none⟩,
⟨(some 179), .bin .lss (.t 176) (.t 178), none⟩] [2, 4, 6, 7, 8, 16, 179])
 (.cond (.t 179) .skip
 (.exit 6)))
 (.seq (.block 7 (.seq (.opsD c_norm_Of_D8 [0, 0, 3, 7, 15, 0, 0, 96, 224, 480, 31, 2047] [2, 4, 6, 7, 8, 16, 17, 18])
 (.seq (.ops [
⟨(some 192), .mov (.t 17), none⟩,
⟨(some 193), .build [(.int .i64 0), .nils] [(0, 1, (.t 192))], none⟩,
⟨(some 19), .allocOwn [(.int .i64 0), .nils] [(1, 113, 2, false)], none⟩,
⟨none, .store 2 (.t 19) (.t 193), none⟩] [2, 4, 6, 7, 8, 16, 17, 18, 19])
 (.seq (.seq (.ops [
⟨(some 194), .load false 1 (.t 4), none⟩,
⟨(some 195), .nilck (.t 194), none⟩,
⟨(some 196), .faddr 30 (.t 195), none⟩,
⟨(some 197), .load false 1 (.t 196), none⟩,
⟨(some 198), .mov (.t 17), none⟩,
⟨(some 199), .iaddr 1 (.t 197) (.t 198), none⟩,
⟨(some 200), .load false 1 (.t 199), none⟩,
⟨(some 201), .len 0 (.t 200), none⟩,
⟨(some 202), .mov (.k (.int .i64 0)), none⟩] [2, 4, 6, 7, 8, 16, 17, 18, 19, 200, 201, 202])
 (.block 8 (.loop c_norm_Of_L10)))
 (.ops [
⟨(some 222), .faddr 2 (.t 8), none⟩,
⟨(some 223), .load false 1 (.t 222), none⟩,
⟨(some 224), .load true 2 (.t 19), none⟩,
⟨(some 225), .lit 123 2 false [(.int .i64 0), .nils] 1 [(0, (.t 224))], none⟩,
⟨(some 226), .append 123 2 32 false (.t 223) (.t 225), none⟩,
⟨(some 227), .faddr 2 (.t 8), none⟩,
⟨none, .store 1 (.t 227) (.t 226), none⟩] [2, 4, 6, 7, 8, 16])))))
 (.ops [
⟨(some 180), .mov (.t 16), none⟩,
⟨(some 181), .bin .add (.t 180) (.k (.int .i64 1)), none⟩,
⟨(some 16), .mov (.t 181), none⟩] [2, 4, 6, 7, 8, 16])))
def c_norm_Of : F := ⟨true, 1, (.seq (.ops [
⟨(some 2), .alloc [(.int .i64 0), .nils, .nils], none⟩,
⟨(some 3), .mov (.k (.int .i64 0)), none⟩] [0, 2])
 (.seq (.seq (.ops [
⟨(some 22), .mov (.t 0), none⟩,
⟨(some 23), .call 28 [(.t 22)], none⟩,
⟨(some 24), .un .not (.t 23), none⟩] [0, 2, 24])
 (.cond (.t 24) (.seq (.ops [
⟨(some 25), .build [(.int .i64 0), .nils, .nils] [], none⟩,
⟨none, .store 3 (.t 2) (.t 25), none⟩,
⟨(some 3), .mov (.k (.int .i64 1)), none⟩] [2, 3])
 .ret)
 .skip))
 (.seq (.ops [
⟨(some 26), .mov (.t 0), none⟩,
⟨(some 27), .build [.nils, .nils, (.int .i64 0), .nilI, .nilI, .nilI, .nilI, .nilI, .nilI, .nilI, .nilI, .nilI, .nilI, .nilI, .nilI, .nilI, .nilI, .nilI, .nilI, .nilI, .nilI, .nilI, .nilI, .nilI, .nilI, .nilI, .nilI, .nils, .nils, .nils, .nils, .nils] [(0, 1, (.t 26))], none⟩,
⟨(some 28), .box (.t 27), none⟩,
⟨(some 4), .alloc [.nilp], none⟩,
⟨none, .store 1 (.t 4) (.t 28), none⟩] [0, 2, 4])
 (.seq (.opsD c_norm_Of_D0 [0, 0, 2, 6, 14, 14, 31, 95, 223] [0, 2, 4])
 (.seq (.opsD c_norm_Of_D1 [0, 0, 0, 4, 12, 28, 62, 126, 254, 254, 511, 1535, 3583] [0, 2, 4])
 (.seq (.opsD c_norm_Of_D2 [0, 0, 0, 0, 0, 16, 48, 112, 248, 0, 0, 1024, 3072, 7168, 16376, 0, 32768, 98304, 229376, 524280, 1048569, 2097145, 4194297, 8388603, 16777211, 33554427, 67108863, 134217727, 268435455] [0, 2, 4])
 (.seq (.ops [
⟨(some 75), .load false 1 (.t 4), none⟩,
⟨(some 76), .call 37 [(.t 75)], none⟩] [0, 2, 4])
 (.seq (.ops [
⟨(some 77), .mkmap, none⟩,
⟨(some 5), .alloc [.nilm], none⟩,
⟨none, .store 1 (.t 5) (.t 77), none⟩] [0, 2, 4, 5])
 (.seq (.ops [
⟨(some 6), .allocOwn [.nils] [(0, 113, 2, false)], none⟩] [0, 2, 4, 5, 6])
 (.seq (.ops [
⟨(some 78), .mkfn 38 [(.t 4), (.t 5), (.t 6)], none⟩,
⟨(some 7), .mov (.t 78), none⟩] [0, 2, 4, 6, 7])
 (.seq (.ops [
⟨(some 79), .load false 1 (.t 4), none⟩,
⟨(some 80), .nilck (.t 79), none⟩,
⟨(some 81), .faddr 2 (.t 80), none⟩,
⟨(some 82), .faddr 0 (.t 81), none⟩,
⟨(some 83), .faddr 0 (.t 82), none⟩,
⟨(some 84), .load false 1 (.t 83), none⟩,
⟨(some 85), .build [(.int .i64 0), .nils, .nils] [(0, 1, (.t 84))], none⟩,
⟨(some 8), .allocOwn [(.int .i64 0), .nils, .nils] [(1, 76, 4, false), (2, 123, 2, false)], none⟩,
⟨none, .store 3 (.t 8) (.t 85), none⟩] [0, 2, 4, 6, 7, 8])
 (.seq (.seq (.ops [
⟨(some 86), .load false 1 (.t 4), none⟩,
⟨(some 87), .nilck (.t 86), none⟩,
⟨(some 88), .faddr 2 (.t 87), none⟩,
⟨(some 89), .faddr 25 (.t 88), none⟩,
⟨(some 90), .load false 1 (.t 89), none⟩,
⟨(some 91), .len 0 (.t 90), none⟩,
⟨(some 92), .mov (.k (.int .i64 0)), none⟩] [0, 2, 4, 6, 7, 8, 90, 91, 92])
 (.block 0 (.loop c_norm_Of_L7)))
 (.seq (.seq (.ops [
⟨(some 16), .mov (.k (.int .i64 0)), none⟩] [2, 4, 6, 7, 8, 16])
 (.block 6 (.loop c_norm_Of_L11)))
 (.seq (.ops [
⟨(some 228), .load true 3 (.t 8), none⟩,
⟨none, .store 3 (.t 2) (.t 228), none⟩,
⟨(some 3), .mov (.k (.int .i64 0)), none⟩] [2, 3])
 .ret)))))))))))))), [.cell 2 true 3, .tmp 3]⟩
abbrev n_norm_Of : Nat := 13
def c_joineryref07_SameEvents_D0 : List O := [
⟨(some 17), .mov (.t 0), none⟩,
⟨(some 18), .mov (.t 5), none⟩,
⟨(some 19), .iaddr 3 (.t 17) (.t 18), none⟩,
⟨(some 20), .load true 3 (.t 19), none⟩,
⟨(some 21), .mov (.t 1), none⟩,
⟨(some 22), .mov (.t 5), none⟩,
⟨(some 23), .iaddr 3 (.t 21) (.t 22), none⟩,
⟨(some 24), .load true 3 (.t 23), none⟩,
⟨(some 25), .eq true (.tst [(1, .ti), (1, .ti), (1, .ti)]) (.t 20) (.t 24), none⟩]
def c_joineryref07_SameEvents_L1 : C := (.seq (.seq (.ops [
⟨(some 11), .mov (.t 5), none⟩,
⟨(some 12), .mov (.t 0), none⟩,
⟨(some 13), .len 0 (.t 12), none⟩,
⟨(some 14), .bin .lss (.t 11) (.t 13), none⟩] [0, 1, 5, 14])
 (.cond (.t 14) .skip
 (.exit 0)))
 (.seq (.block 1 (.seq (.opsD c_joineryref07_SameEvents_D0 [0, 0, 3, 7, 0, 0, 48, 112, 255] [0, 1, 5, 25])
 (.cond (.t 25) (.seq (.ops [
⟨(some 4), .mov (.k (.bool false)), none⟩] [4])
 .ret)
 .skip)))
 (.ops [
⟨(some 15), .mov (.t 5), none⟩,
⟨(some 16), .bin .add (.t 15) (.k (.int .i64 1)), none⟩,
⟨(some 5), .mov (.t 16), none⟩] [0, 1, 5])))
def c_joineryref07_SameEvents : F := ⟨true, 2, (.seq (.ops [
⟨(some 4), .mov (.k (.bool false)), none⟩] [0, 1])
 (.seq (.seq (.ops [
⟨(some 6), .mov (.t 0), none⟩,
⟨(some 7), .len 0 (.t 6), none⟩,
⟨(some 8), .mov (.t 1), none⟩,
⟨(some 9), .len 0 (.t 8), none⟩,
⟨(some 10), .bin .neq (.t 7) (.t 9), none⟩] [0, 1, 10])
 (.cond (.t 10) (.seq (.ops [
⟨(some 4), .mov (.k (.bool false)), none⟩] [4])
 .ret)
 .skip))
 (.seq (.seq (.ops [
⟨(some 5), .mov (.k (.int .i64 0)), none⟩] [0, 1, 5])
 (.block 0 (.loop c_joineryref07_SameEvents_L1)))
 (.seq (.ops [
⟨(some 4), .mov (.k (.bool true)), none⟩] [4])
 .ret)))), [.tmp 4]⟩
abbrev n_joineryref07_SameEvents : Nat := 14
def c_joineryref07_SameOutcome : F := ⟨true, 2, (.seq (.ops [
⟨(some 2), .box (.t 0), none⟩,
⟨(some 3), .box (.t 1), none⟩,
⟨(some 4), .mov (.k (.bool false)), none⟩] [2, 3])
 (.seq (.ops [
⟨(some 5), .faddr 0 (.t 2), none⟩,
⟨(some 6), .load false 1 (.t 5), none⟩,
⟨(some 7), .faddr 0 (.t 3), none⟩,
⟨(some 8), .load false 1 (.t 7), none⟩,
⟨(some 9), .bin .eql (.t 6) (.t 8), none⟩,
⟨(some 10), .mov (.t 9), none⟩,
⟨(some 11), .faddr 1 (.t 2), (some (10, true))⟩,
⟨(some 12), .load false 1 (.t 11), (some (10, true))⟩,
⟨(some 13), .faddr 1 (.t 3), (some (10, true))⟩,
⟨(some 14), .load false 1 (.t 13), (some (10, true))⟩,
⟨(some 15), .bin .eql (.t 12) (.t 14), (some (10, true))⟩,
⟨(some 16), .pick (.t 10) (.t 15) (.k (.bool false)), none⟩,
⟨(some 17), .mov (.t 16), none⟩,
⟨(some 18), .faddr 2 (.t 2), (some (17, true))⟩,
⟨(some 19), .load false 1 (.t 18), (some (17, true))⟩,
⟨(some 20), .faddr 2 (.t 3), (some (17, true))⟩,
⟨(some 21), .load false 1 (.t 20), (some (17, true))⟩,
⟨(some 22), .call 42 [(.t 19), (.t 21)], (some (17, true))⟩,
⟨(some 23), .pick (.t 17) (.t 22) (.k (.bool false)), none⟩,
⟨(some 4), .mov (.t 23), none⟩] [4])
 .ret)), [.tmp 4]⟩
abbrev n_joineryref07_SameOutcome : Nat := 15
def c_joinerylaw14_Great_L0 : C := (.seq (.seq (.ops [
⟨(some 5), .mov (.t 3), none⟩,
⟨(some 6), .faddr 1 (.t 1), none⟩,
⟨(some 7), .load false 1 (.t 6), none⟩,
⟨(some 8), .len 0 (.t 7), none⟩,
⟨(some 9), .bin .lss (.t 5) (.t 8), none⟩] [1, 3, 9])
 (.cond (.t 9) .skip
 (.exit 0)))
 (.seq (.block 1 (.seq (.ops [
⟨(some 12), .faddr 1 (.t 1), none⟩,
⟨(some 13), .load false 1 (.t 12), none⟩,
⟨(some 14), .mov (.t 3), none⟩,
⟨(some 15), .iaddr 4 (.t 13) (.t 14), none⟩,
⟨(some 16), .faddr 2 (.t 15), none⟩,
⟨(some 17), .load false 1 (.t 16), none⟩,
⟨(some 18), .len 0 (.t 17), none⟩,
⟨(some 19), .bin .gtr (.t 18) (.k (.int .i64 20)), none⟩,
⟨(some 20), .mov (.t 19), none⟩,
⟨(some 21), .faddr 1 (.t 1), (some (20, false))⟩,
⟨(some 22), .load false 1 (.t 21), (some (20, false))⟩,
⟨(some 23), .mov (.t 3), (some (20, false))⟩,
⟨(some 24), .iaddr 4 (.t 22) (.t 23), (some (20, false))⟩,
⟨(some 25), .faddr 3 (.t 24), (some (20, false))⟩,
⟨(some 26), .load false 1 (.t 25), (some (20, false))⟩,
⟨(some 27), .len 0 (.t 26), (some (20, false))⟩,
⟨(some 28), .bin .gtr (.t 27) (.k (.int .i64 20)), (some (20, false))⟩,
⟨(some 29), .pick (.t 20) (.k (.bool true)) (.t 28), none⟩] [1, 3, 29])
 (.cond (.t 29) (.seq (.ops [
⟨(some 2), .mov (.k (.bool true)), none⟩] [2])
 .ret)
 .skip)))
 (.ops [
⟨(some 10), .mov (.t 3), none⟩,
⟨(some 11), .bin .add (.t 10) (.k (.int .i64 1)), none⟩,
⟨(some 3), .mov (.t 11), none⟩] [1, 3])))
def c_joinerylaw14_Great_L1 : C := (.seq (.seq (.ops [
⟨(some 30), .mov (.t 4), none⟩,
⟨(some 31), .faddr 2 (.t 1), none⟩,
⟨(some 32), .load false 1 (.t 31), none⟩,
⟨(some 33), .len 0 (.t 32), none⟩,
⟨(some 34), .bin .lss (.t 30) (.t 33), none⟩] [1, 4, 34])
 (.cond (.t 34) .skip
 (.exit 2)))
 (.seq (.block 3 (.seq (.ops [
⟨(some 37), .faddr 2 (.t 1), none⟩,
⟨(some 38), .load false 1 (.t 37), none⟩,
⟨(some 39), .mov (.t 4), none⟩,
⟨(some 40), .iaddr 2 (.t 38) (.t 39), none⟩,
⟨(some 41), .faddr 1 (.t 40), none⟩,
⟨(some 42), .load false 1 (.t 41), none⟩,
⟨(some 43), .len 0 (.t 42), none⟩,
⟨(some 44), .bin .gtr (.t 43) (.k (.int .i64 100)), none⟩] [1, 4, 44])
 (.cond (.t 44) (.seq (.ops [
⟨(some 2), .mov (.k (.bool true)), none⟩] [2])
 .ret)
 .skip)))
 (.ops [
⟨(some 35), .mov (.t 4), none⟩,
⟨(some 36), .bin .add (.t 35) (.k (.int .i64 1)), none⟩,
⟨(some 4), .mov (.t 36), none⟩] [1, 4])))
def c_joinerylaw14_Great : F := ⟨true, 1, (.seq (.ops [
⟨(some 1), .box (.t 0), none⟩,
⟨(some 2), .mov (.k (.bool false)), none⟩] [1])
 (.seq (.seq (.ops [
⟨(some 3), .mov (.k (.int .i64 0)), none⟩] [1, 3])
 (.block 0 (.loop c_joinerylaw14_Great_L0)))
 (.seq (.seq (.ops [
⟨(some 4), .mov (.k (.int .i64 0)), none⟩] [1, 4])
 (.block 2 (.loop c_joinerylaw14_Great_L1)))
 (.seq (.ops [
⟨(some 45), .faddr 1 (.t 1), none⟩,
⟨(some 46), .load false 1 (.t 45), none⟩,
⟨(some 47), .len 0 (.t 46), none⟩,
⟨(some 48), .bin .gtr (.t 47) (.k (.int .i64 60)), none⟩,
⟨(some 49), .mov (.t 48), none⟩,
⟨(some 50), .faddr 2 (.t 1), (some (49, false))⟩,
⟨(some 51), .load false 1 (.t 50), (some (49, false))⟩,
⟨(some 52), .len 0 (.t 51), (some (49, false))⟩,
⟨(some 53), .bin .gtr (.t 52) (.k (.int .i64 200)), (some (49, false))⟩,
⟨(some 54), .pick (.t 49) (.k (.bool true)) (.t 53), none⟩,
⟨(some 2), .mov (.t 54), none⟩] [2])
 .ret)))), [.tmp 2]⟩
abbrev n_joinerylaw14_Great : Nat := 16
def c_asm_Parse_D0 : List O := [
⟨(some 29), .load false 1 (.t 7), none⟩,
⟨(some 2), .mov (.k .nils), none⟩,
⟨(some 3), .mov (.t 29), none⟩,
⟨(some 4), .mov (.k (.int .i64 2)), none⟩]
def c_asm_Parse_L1 : C := (.seq (.ops [
⟨(some 19), .next (.t 18), none⟩,
⟨(some 20), .extract (.t 19) 0, none⟩] [1, 5, 6, 7, 8, 18, 19, 20])
 (.seq (.cond (.t 20) .skip
 (.exit 0))
 (.block 1 (.seq (.ops [
⟨(some 21), .extract (.t 19) 1, none⟩,
⟨(some 22), .extract (.t 19) 2, none⟩,
⟨(some 9), .mov (.t 21), none⟩,
⟨(some 10), .mov (.t 22), none⟩] [1, 5, 6, 7, 8, 9, 10, 18])
 (.seq (.seq (.ops [
⟨(some 23), .mov (.t 10), none⟩,
⟨(some 24), .bin .neq (.t 23) (.k (.int .i32 10)), none⟩] [1, 5, 6, 7, 8, 9, 18, 24])
 (.cond (.t 24) (.exit 1)
 .skip))
 (.seq (.seq (.ops [
⟨(some 25), .mov (.t 8), none⟩,
⟨(some 26), .mov (.t 9), none⟩,
⟨(some 27), .callv (.t 25) [(.t 26)], none⟩,
⟨(some 28), .un .not (.t 27), none⟩] [1, 5, 6, 7, 8, 9, 18, 28])
 (.cond (.t 28) (.seq (.opsD c_asm_Parse_D0 [0, 0, 3, 7] [2, 3, 4])
 .ret)
 .skip))
 (.ops [
⟨(some 30), .mov (.t 9), none⟩,
⟨(some 31), .bin .add (.t 30) (.k (.int .i64 1)), none⟩,
⟨none, .store 1 (.t 7) (.t 31), none⟩] [1, 5, 6, 7, 8, 18])))))))
def c_asm_Parse_D2 : List O := [
⟨(some 36), .load false 1 (.t 7), none⟩,
⟨(some 2), .mov (.k .nils), none⟩,
⟨(some 3), .mov (.t 36), none⟩,
⟨(some 4), .mov (.k (.int .i64 2)), none⟩]
def c_asm_Parse : F := ⟨true, 1, (.seq (.ops [
⟨(some 1), .box (.t 0), none⟩,
⟨(some 2), .mov (.k .nils), none⟩,
⟨(some 3), .mov (.k (.int .i64 0)), none⟩,
⟨(some 4), .mov (.k (.int .i64 0)), none⟩] [1])
 (.seq (.seq (.ops [
⟨(some 13), .load false 1 (.t 1), none⟩,
⟨(some 14), .len 1 (.t 13), none⟩,
⟨(some 15), .bin .gtr (.t 14) (.k (.int .i64 20000)), none⟩] [1, 15])
 (.cond (.t 15) (.seq (.ops [
⟨(some 2), .mov (.k .nils), none⟩,
⟨(some 3), .mov (.k (.int .i64 0)), none⟩,
⟨(some 4), .mov (.k (.int .i64 3)), none⟩] [2, 3, 4])
 .ret)
 .skip))
 (.seq (.ops [
⟨(some 5), .alloc [.nils], none⟩] [1, 5])
 (.seq (.ops [
⟨(some 6), .alloc [.nils], none⟩] [1, 5, 6])
 (.seq (.ops [
⟨(some 7), .alloc [(.int .i64 0)], none⟩,
⟨none, .store 1 (.t 7) (.k (.int .i64 0)), none⟩] [1, 5, 6, 7])
 (.seq (.ops [
⟨(some 16), .mkfn 43 [(.t 1), (.t 7), (.t 5), (.t 6)], none⟩,
⟨(some 8), .mov (.t 16), none⟩] [1, 5, 6, 7, 8])
 (.seq (.seq (.ops [
⟨(some 17), .load false 1 (.t 1), none⟩,
⟨(some 18), .range (.t 17), none⟩] [1, 5, 6, 7, 8, 18])
 (.block 0 (.loop c_asm_Parse_L1)))
 (.seq (.seq (.ops [
⟨(some 32), .load false 1 (.t 7), none⟩,
⟨(some 33), .load false 1 (.t 1), none⟩,
⟨(some 34), .len 1 (.t 33), none⟩,
⟨(some 35), .bin .lss (.t 32) (.t 34), none⟩] [5, 6, 7, 35])
 (.cond (.t 35) (.seq (.opsD c_asm_Parse_D2 [0, 0, 3, 7] [2, 3, 4])
 .ret)
 .skip))
 (.seq (.ops [
⟨(some 38), .load false 1 (.t 5), none⟩,
⟨(some 39), .call 45 [(.t 38)], none⟩,
⟨(some 37), .mov (.t 39), none⟩,
⟨(some 40), .extract (.t 37) 0, none⟩,
⟨(some 41), .extract (.t 37) 1, none⟩,
⟨(some 11), .mov (.t 40), none⟩,
⟨(some 12), .mov (.t 41), none⟩] [5, 6, 11, 12])
 (.seq (.seq (.ops [
⟨(some 42), .mov (.t 12), none⟩,
⟨(some 43), .bin .eql (.t 42) (.k (.int .i64 0)), none⟩] [5, 6, 11, 12, 43])
 (.cond (.t 43) (.seq (.ops [
⟨(some 44), .load false 1 (.t 5), none⟩,
⟨(some 2), .mov (.t 44), none⟩,
⟨(some 3), .mov (.k (.int .i64 0)), none⟩,
⟨(some 4), .mov (.k (.int .i64 0)), none⟩] [2, 3, 4])
 .ret)
 .skip))
 (.seq (.seq (.ops [
⟨(some 45), .mov (.t 11), none⟩,
⟨(some 46), .load false 1 (.t 6), none⟩,
⟨(some 47), .len 0 (.t 46), none⟩,
⟨(some 48), .bin .lss (.t 45) (.t 47), none⟩] [6, 11, 12, 48])
 (.cond (.t 48) (.ops [
⟨(some 49), .load false 1 (.t 6), none⟩,
⟨(some 50), .mov (.t 11), none⟩,
⟨(some 51), .iaddr 1 (.t 49) (.t 50), none⟩,
⟨(some 52), .load false 1 (.t 51), none⟩,
⟨(some 11), .mov (.t 52), none⟩] [11, 12])
 .skip))
 (.seq (.ops [
⟨(some 53), .mov (.t 11), none⟩,
⟨(some 54), .mov (.t 12), none⟩,
⟨(some 2), .mov (.k .nils), none⟩,
⟨(some 3), .mov (.t 53), none⟩,
⟨(some 4), .mov (.t 54), none⟩] [2, 3, 4])
 .ret)))))))))))), [.tmp 2, .tmp 3, .tmp 4]⟩
abbrev n_asm_Parse : Nat := 17
def c_shape_Right_L0 : C := (.seq (.ops [
⟨(some 24), .bin .lss (.t 23) (.t 22), none⟩] [1, 22, 23, 24])
 (.seq (.cond (.t 24) .skip
 (.exit 0))
 (.seq (.block 1 (.seq (.ops [
⟨(some 25), .mov (.t 23), none⟩,
⟨(some 3), .mov (.t 25), none⟩] [1, 3, 22, 23])
 (.seq (.ops [
⟨(some 26), .load true 3 (.t 1), none⟩,
⟨(some 27), .mov (.t 3), none⟩,
⟨(some 28), .call 46 [(.t 26), (.t 27)], none⟩,
⟨(some 29), .un .not (.t 28), none⟩] [1, 22, 23, 29])
 (.cond (.t 29) (.seq (.ops [
⟨(some 2), .mov (.k (.bool false)), none⟩] [2])
 .ret)
 .skip))))
 (.ops [
⟨(some 30), .bin .add (.t 23) (.k (.int .i64 1)), none⟩,
⟨(some 23), .mov (.t 30), none⟩] [1, 22, 23]))))
def c_shape_Right_D1 : List O := [
⟨(some 68), .load true 3 (.t 1), none⟩,
⟨(some 69), .faddr 1 (.t 5), none⟩,
⟨(some 70), .load false 1 (.t 69), none⟩,
⟨(some 71), .mov (.t 7), none⟩,
⟨(some 72), .iaddr 2 (.t 70) (.t 71), none⟩,
⟨(some 73), .load true 2 (.t 72), none⟩,
⟨(some 74), .load true 2 (.t 8), none⟩,
⟨(some 75), .call 47 [(.t 68), (.t 73), (.t 74)], none⟩,
⟨(some 76), .un .not (.t 75), none⟩]
def c_shape_Right_L2 : C := (.seq (.ops [
⟨(some 64), .bin .lss (.t 63) (.t 62), none⟩] [1, 5, 32, 33, 34, 61, 62, 63, 64])
 (.seq (.cond (.t 64) .skip
 (.exit 4))
 (.seq (.block 5 (.seq (.ops [
⟨(some 65), .mov (.t 63), none⟩,
⟨(some 66), .iaddr 2 (.t 61) (.t 63), none⟩,
⟨(some 67), .load true 2 (.t 66), none⟩,
⟨(some 8), .alloc [(.int .i64 0), (.int .i64 0)], none⟩,
⟨(some 7), .mov (.t 65), none⟩,
⟨none, .store 2 (.t 8) (.t 67), none⟩] [1, 5, 7, 8, 32, 33, 34, 61, 62, 63])
 (.seq (.opsD c_shape_Right_D1 [0, 0, 2, 0, 14, 30, 0, 127, 255] [1, 5, 32, 33, 34, 61, 62, 63, 76])
 (.cond (.t 76) (.seq (.ops [
⟨(some 2), .mov (.k (.bool false)), none⟩] [2])
 .ret)
 .skip))))
 (.ops [
⟨(some 77), .bin .add (.t 63) (.k (.int .i64 1)), none⟩,
⟨(some 63), .mov (.t 77), none⟩] [1, 5, 32, 33, 34, 61, 62, 63]))))
def c_shape_Right_L3 : C := (.seq (.ops [
⟨(some 35), .bin .lss (.t 34) (.t 33), none⟩] [1, 32, 33, 34, 35])
 (.seq (.cond (.t 35) .skip
 (.exit 2))
 (.seq (.block 3 (.seq (.ops [
⟨(some 36), .iaddr 2 (.t 32) (.t 34), none⟩,
⟨(some 37), .load true 2 (.t 36), none⟩,
⟨(some 5), .alloc [(.int .i64 0), .nils], none⟩,
⟨none, .store 2 (.t 5) (.t 37), none⟩] [1, 5, 32, 33, 34])
 (.seq (.ops [
⟨(some 38), .load true 3 (.t 1), none⟩,
⟨(some 39), .faddr 0 (.t 5), none⟩,
⟨(some 40), .load false 1 (.t 39), none⟩,
⟨(some 41), .call 20 [(.t 38), (.t 40)], none⟩,
⟨(some 6), .mov (.t 41), none⟩] [1, 5, 6, 32, 33, 34])
 (.seq (.seq (.ops [
⟨(some 42), .faddr 0 (.t 5), none⟩,
⟨(some 43), .load false 1 (.t 42), none⟩,
⟨(some 44), .bin .lss (.t 43) (.k (.int .i64 0)), none⟩,
⟨(some 45), .mov (.t 44), none⟩,
⟨(some 46), .faddr 0 (.t 5), (some (45, false))⟩,
⟨(some 47), .load false 1 (.t 46), (some (45, false))⟩,
⟨(some 48), .faddr 1 (.t 1), (some (45, false))⟩,
⟨(some 49), .load false 1 (.t 48), (some (45, false))⟩,
⟨(some 50), .len 0 (.t 49), (some (45, false))⟩,
⟨(some 51), .bin .geq (.t 47) (.t 50), (some (45, false))⟩,
⟨(some 52), .pick (.t 45) (.k (.bool true)) (.t 51), none⟩,
⟨(some 53), .mov (.t 52), none⟩,
⟨(some 54), .mov (.t 6), (some (53, false))⟩,
⟨(some 55), .len 0 (.t 54), (some (53, false))⟩,
⟨(some 56), .faddr 1 (.t 5), (some (53, false))⟩,
⟨(some 57), .load false 1 (.t 56), (some (53, false))⟩,
⟨(some 58), .len 0 (.t 57), (some (53, false))⟩,
⟨(some 59), .bin .neq (.t 55) (.t 58), (some (53, false))⟩,
⟨(some 60), .pick (.t 53) (.k (.bool true)) (.t 59), none⟩] [1, 5, 6, 32, 33, 34, 60])
 (.cond (.t 60) (.seq (.ops [
⟨(some 2), .mov (.k (.bool false)), none⟩] [2])
 .ret)
 .skip))
 (.seq (.ops [
⟨(some 61), .mov (.t 6), none⟩,
⟨(some 62), .len 0 (.t 61), none⟩,
⟨(some 63), .mov (.k (.int .i64 0)), none⟩] [1, 5, 32, 33, 34, 61, 62, 63])
 (.block 4 (.loop c_shape_Right_L2)))))))
 (.ops [
⟨(some 78), .bin .add (.t 34) (.k (.int .i64 1)), none⟩,
⟨(some 34), .mov (.t 78), none⟩] [1, 32, 33, 34]))))
def c_shape_Right : F := ⟨true, 1, (.seq (.ops [
⟨(some 1), .box (.t 0), none⟩,
⟨(some 2), .mov (.k (.bool false)), none⟩] [1])
 (.seq (.seq (.ops [
⟨(some 9), .faddr 0 (.t 1), none⟩,
⟨(some 10), .load false 1 (.t 9), none⟩,
⟨(some 11), .bin .lss (.t 10) (.k (.int .i64 (-1))), none⟩,
⟨(some 12), .mov (.t 11), none⟩,
⟨(some 13), .faddr 0 (.t 1), (some (12, false))⟩,
⟨(some 14), .load false 1 (.t 13), (some (12, false))⟩,
⟨(some 15), .faddr 1 (.t 1), (some (12, false))⟩,
⟨(some 16), .load false 1 (.t 15), (some (12, false))⟩,
⟨(some 17), .len 0 (.t 16), (some (12, false))⟩,
⟨(some 18), .bin .geq (.t 14) (.t 17), (some (12, false))⟩,
⟨(some 19), .pick (.t 12) (.k (.bool true)) (.t 18), none⟩] [1, 19])
 (.cond (.t 19) (.seq (.ops [
⟨(some 2), .mov (.k (.bool false)), none⟩] [2])
 .ret)
 .skip))
 (.seq (.seq (.ops [
⟨(some 20), .faddr 1 (.t 1), none⟩,
⟨(some 21), .load false 1 (.t 20), none⟩,
⟨(some 22), .len 0 (.t 21), none⟩,
⟨(some 23), .mov (.k (.int .i64 0)), none⟩] [1, 22, 23])
 (.block 0 (.loop c_shape_Right_L0)))
 (.seq (.seq (.ops [
⟨(some 31), .faddr 2 (.t 1), none⟩,
⟨(some 32), .load false 1 (.t 31), none⟩,
⟨(some 33), .len 0 (.t 32), none⟩,
⟨(some 34), .mov (.k (.int .i64 0)), none⟩] [1, 32, 33, 34])
 (.block 2 (.loop c_shape_Right_L3)))
 (.seq (.ops [
⟨(some 2), .mov (.k (.bool true)), none⟩] [2])
 .ret))))), [.tmp 2]⟩
abbrev n_shape_Right : Nat := 18
def c_run_Right : F := ⟨true, 1, (.seq (.ops [
⟨(some 1), .box (.t 0), none⟩,
⟨(some 2), .mov (.k (.bool false)), none⟩] [1])
 (.seq (.ops [
⟨(some 3), .faddr 8 (.t 1), none⟩,
⟨(some 4), .load false 1 (.t 3), none⟩,
⟨(some 5), .call 48 [(.t 4)], none⟩,
⟨(some 6), .mov (.t 5), none⟩,
⟨(some 7), .faddr 9 (.t 1), (some (6, true))⟩,
⟨(some 8), .load false 1 (.t 7), (some (6, true))⟩,
⟨(some 9), .len 0 (.t 8), (some (6, true))⟩,
⟨(some 10), .bin .leq (.t 9) (.k (.int .i64 5000)), (some (6, true))⟩,
⟨(some 11), .pick (.t 6) (.t 10) (.k (.bool false)), none⟩,
⟨(some 12), .mov (.t 11), none⟩,
⟨(some 13), .faddr 10 (.t 1), (some (12, true))⟩,
⟨(some 14), .load false 1 (.t 13), (some (12, true))⟩,
⟨(some 15), .bin .geq (.t 14) (.k (.int .i64 0)), (some (12, true))⟩,
⟨(some 16), .pick (.t 12) (.t 15) (.k (.bool false)), none⟩,
⟨(some 17), .mov (.t 16), none⟩,
⟨(some 18), .faddr 10 (.t 1), (some (17, true))⟩,
⟨(some 19), .load false 1 (.t 18), (some (17, true))⟩,
⟨(some 20), .bin .leq (.t 19) (.k (.int .i64 5000)), (some (17, true))⟩,
⟨(some 21), .pick (.t 17) (.t 20) (.k (.bool false)), none⟩,
⟨(some 2), .mov (.t 21), none⟩] [2])
 .ret)), [.tmp 2]⟩
abbrev n_run_Right : Nat := 19
def c_shape_Ways_L0 : C := (.seq (.ops [
⟨(some 39), .bin .lss (.t 38) (.t 37), none⟩] [1, 5, 6, 28, 29, 30, 36, 37, 38, 39])
 (.seq (.cond (.t 39) .skip
 (.exit 2))
 (.seq (.block 3 (.seq (.ops [
⟨(some 40), .mov (.t 38), none⟩,
⟨(some 41), .iaddr 1 (.t 36) (.t 38), none⟩,
⟨(some 42), .load false 1 (.t 41), none⟩,
⟨(some 8), .mov (.t 40), none⟩,
⟨(some 9), .mov (.t 42), none⟩] [1, 5, 6, 8, 9, 28, 29, 30, 36, 37, 38])
 (.seq (.ops [
⟨(some 43), .mov (.t 9), none⟩,
⟨(some 44), .mov (.t 1), none⟩,
⟨(some 45), .bin .eql (.t 43) (.t 44), none⟩] [1, 5, 6, 8, 28, 29, 30, 36, 37, 38, 45])
 (.cond (.t 45) (.ops [
⟨(some 46), .mov (.t 5), none⟩,
⟨(some 47), .mov (.t 6), none⟩,
⟨(some 48), .mov (.t 8), none⟩,
⟨(some 49), .build [(.int .i64 0), (.int .i64 0)] [(0, 1, (.t 47)), (1, 1, (.t 48))], none⟩,
⟨(some 50), .lit 70 2 false [(.int .i64 0), (.int .i64 0)] 1 [(0, (.t 49))], none⟩,
⟨(some 51), .append 70 2 16 false (.t 46) (.t 50), none⟩,
⟨(some 5), .mov (.t 51), none⟩] [1, 5, 6, 28, 29, 30, 36, 37, 38])
 .skip))))
 (.ops [
⟨(some 52), .bin .add (.t 38) (.k (.int .i64 1)), none⟩,
⟨(some 38), .mov (.t 52), none⟩] [1, 5, 6, 28, 29, 30, 36, 37, 38]))))
def c_shape_Ways_L1 : C := (.seq (.ops [
⟨(some 31), .bin .lss (.t 30) (.t 29), none⟩] [1, 5, 28, 29, 30, 31])
 (.seq (.cond (.t 31) .skip
 (.exit 0))
 (.seq (.block 1 (.seq (.ops [
⟨(some 32), .mov (.t 30), none⟩,
⟨(some 33), .iaddr 4 (.t 28) (.t 30), none⟩,
⟨(some 34), .load true 4 (.t 33), none⟩,
⟨(some 7), .alloc [(.int .i64 0), (.int .i64 0), .nils, .nils], none⟩,
⟨(some 6), .mov (.t 32), none⟩,
⟨none, .store 4 (.t 7) (.t 34), none⟩] [1, 5, 6, 7, 28, 29, 30])
 (.seq (.ops [
⟨(some 35), .faddr 3 (.t 7), none⟩,
⟨(some 36), .load false 1 (.t 35), none⟩,
⟨(some 37), .len 0 (.t 36), none⟩,
⟨(some 38), .mov (.k (.int .i64 0)), none⟩] [1, 5, 6, 28, 29, 30, 36, 37, 38])
 (.block 2 (.loop c_shape_Ways_L0)))))
 (.ops [
⟨(some 53), .bin .add (.t 30) (.k (.int .i64 1)), none⟩,
⟨(some 30), .mov (.t 53), none⟩] [1, 5, 28, 29, 30]))))
def c_shape_Ways : F := ⟨true, 2, (.seq (.ops [
⟨(some 2), .box (.t 0), none⟩,
⟨(some 4), .mov (.k .nils), none⟩] [1, 2])
 (.seq (.seq (.ops [
⟨(some 10), .mov (.t 1), none⟩,
⟨(some 11), .bin .lss (.t 10) (.k (.int .i64 0)), none⟩,
⟨(some 12), .mov (.t 11), none⟩,
⟨(some 13), .mov (.t 1), (some (12, false))⟩,
⟨(some 14), .faddr 1 (.t 2), (some (12, false))⟩,
⟨(some 15), .load false 1 (.t 14), (some (12, false))⟩,
⟨(some 16), .len 0 (.t 15), (some (12, false))⟩,
⟨(some 17), .bin .geq (.t 13) (.t 16), (some (12, false))⟩,
⟨(some 18), .pick (.t 12) (.k (.bool true)) (.t 17), none⟩] [1, 2, 18])
 (.cond (.t 18) (.seq (.ops [
⟨(some 4), .mov (.k .nils), none⟩] [4])
 .ret)
 .skip))
 (.seq (.ops [
⟨(some 5), .ownnil 70 2 false, none⟩] [1, 2, 5])
 (.seq (.seq (.ops [
⟨(some 19), .faddr 0 (.t 2), none⟩,
⟨(some 20), .load false 1 (.t 19), none⟩,
⟨(some 21), .mov (.t 1), none⟩,
⟨(some 22), .bin .eql (.t 20) (.t 21), none⟩] [1, 2, 5, 22])
 (.cond (.t 22) (.ops [
⟨(some 23), .mov (.t 5), none⟩,
⟨(some 24), .build [(.int .i64 0), (.int .i64 0)] [(0, 1, (.k (.int .i64 (-1))))], none⟩,
⟨(some 25), .lit 70 2 false [(.int .i64 0), (.int .i64 0)] 1 [(0, (.t 24))], none⟩,
⟨(some 26), .append 70 2 16 false (.t 23) (.t 25), none⟩,
⟨(some 5), .mov (.t 26), none⟩] [1, 2, 5])
 .skip))
 (.seq (.seq (.ops [
⟨(some 27), .faddr 1 (.t 2), none⟩,
⟨(some 28), .load false 1 (.t 27), none⟩,
⟨(some 29), .len 0 (.t 28), none⟩,
⟨(some 30), .mov (.k (.int .i64 0)), none⟩] [1, 5, 28, 29, 30])
 (.block 0 (.loop c_shape_Ways_L1)))
 (.seq (.ops [
⟨(some 54), .mov (.t 5), none⟩,
⟨(some 4), .mov (.t 54), none⟩] [4])
 .ret)))))), [.tmp 4]⟩
abbrev n_shape_Ways : Nat := 20
def c_engine_machine_goes_L0 : C := (.seq (.ops [
⟨(some 27), .bin .lss (.t 26) (.t 25), none⟩] [0, 2, 4, 6, 24, 25, 26, 27])
 (.seq (.cond (.t 27) .skip
 (.exit 0))
 (.seq (.block 1 (.seq (.ops [
⟨(some 28), .mov (.t 26), none⟩,
⟨(some 29), .iaddr 2 (.t 24) (.t 26), none⟩,
⟨(some 30), .load true 2 (.t 29), none⟩,
⟨(some 8), .alloc [(.int .i64 0), (.int .i64 0)], none⟩,
⟨(some 7), .mov (.t 28), none⟩,
⟨none, .store 2 (.t 8) (.t 30), none⟩] [0, 2, 4, 6, 7, 8, 24, 25, 26])
 (.seq (.ops [
⟨(some 31), .load true 2 (.t 8), none⟩,
⟨(some 32), .load true 2 (.t 4), none⟩,
⟨(some 33), .eq false (.tst [(1, .ti), (1, .ti)]) (.t 31) (.t 32), none⟩] [0, 2, 4, 6, 7, 24, 25, 26, 33])
 (.cond (.t 33) (.ops [
⟨(some 34), .mov (.t 7), none⟩,
⟨(some 6), .mov (.t 34), none⟩] [0, 2, 4, 6, 24, 25, 26])
 .skip))))
 (.ops [
⟨(some 35), .bin .add (.t 26) (.k (.int .i64 1)), none⟩,
⟨(some 26), .mov (.t 35), none⟩] [0, 2, 4, 6, 24, 25, 26]))))
def c_engine_machine_goes_L1 : C := (.seq (.ops [
⟨(some 49), .bin .lss (.t 48) (.t 47), none⟩] [0, 2, 6, 9, 46, 47, 48, 49])
 (.seq (.cond (.t 49) .skip
 (.exit 2))
 (.seq (.block 3 (.seq (.ops [
⟨(some 50), .mov (.t 48), none⟩,
⟨(some 51), .iaddr 2 (.t 46) (.t 48), none⟩,
⟨(some 52), .load true 2 (.t 51), none⟩,
⟨(some 11), .alloc [(.int .i64 0), .nils], none⟩,
⟨(some 10), .mov (.t 50), none⟩,
⟨none, .store 2 (.t 11) (.t 52), none⟩] [0, 2, 6, 9, 10, 11, 46, 47, 48])
 (.seq (.ops [
⟨(some 53), .faddr 0 (.t 11), none⟩,
⟨(some 54), .load false 1 (.t 53), none⟩,
⟨(some 55), .mov (.t 2), none⟩,
⟨(some 56), .bin .eql (.t 54) (.t 55), none⟩] [0, 2, 6, 9, 10, 11, 46, 47, 48, 56])
 (.cond (.t 56) (.ops [
⟨(some 57), .mov (.t 9), none⟩,
⟨(some 58), .mov (.t 10), none⟩,
⟨(some 59), .mov (.t 0), none⟩,
⟨(some 60), .faddr 1 (.t 11), none⟩,
⟨(some 61), .load false 1 (.t 60), none⟩,
⟨(some 62), .mov (.t 6), none⟩,
⟨(some 63), .iaddr 2 (.t 61) (.t 62), none⟩,
⟨(some 64), .load true 2 (.t 63), none⟩,
⟨(some 65), .call 49 [(.t 59), (.t 64)], none⟩,
⟨(some 66), .iaddr 2 (.t 57) (.t 58), none⟩,
⟨none, .store 2 (.t 66) (.t 65), none⟩] [0, 2, 6, 9, 46, 47, 48])
 .skip))))
 (.ops [
⟨(some 67), .bin .add (.t 48) (.k (.int .i64 1)), none⟩,
⟨(some 48), .mov (.t 67), none⟩] [0, 2, 6, 9, 46, 47, 48]))))
def c_engine_machine_goes : F := ⟨false, 3, (.seq (.ops [
⟨(some 4), .box (.t 1), none⟩] [0, 2, 4])
 (.seq (.ops [
⟨(some 12), .mov (.t 0), none⟩,
⟨(some 13), .mov (.t 2), none⟩,
⟨(some 14), .nilck (.t 12), none⟩,
⟨(some 15), .faddr 18 (.t 14), none⟩,
⟨none, .store 1 (.t 15) (.t 13), none⟩] [0, 2, 4])
 (.seq (.seq (.ops [
⟨(some 16), .mov (.t 2), none⟩,
⟨(some 17), .bin .lss (.t 16) (.k (.int .i64 0)), none⟩] [0, 2, 4, 17])
 (.cond (.t 17) .ret
 .skip))
 (.seq (.ops [
⟨(some 6), .mov (.k (.int .i64 0)), none⟩] [0, 2, 4, 6])
 (.seq (.seq (.ops [
⟨(some 18), .mov (.t 0), none⟩,
⟨(some 19), .nilck (.t 18), none⟩,
⟨(some 20), .faddr 14 (.t 19), none⟩,
⟨(some 21), .load false 1 (.t 20), none⟩,
⟨(some 22), .mov (.t 2), none⟩,
⟨(some 23), .iaddr 1 (.t 21) (.t 22), none⟩,
⟨(some 24), .load false 1 (.t 23), none⟩,
⟨(some 25), .len 0 (.t 24), none⟩,
⟨(some 26), .mov (.k (.int .i64 0)), none⟩] [0, 2, 4, 6, 24, 25, 26])
 (.block 0 (.loop c_engine_machine_goes_L0)))
 (.seq (.ops [
⟨(some 36), .lit 45 2 false [(.bool false), (.int .i64 0)] 0 [], none⟩,
⟨(some 37), .mov (.t 0), none⟩,
⟨(some 38), .nilck (.t 37), none⟩,
⟨(some 39), .faddr 15 (.t 38), none⟩,
⟨(some 40), .load false 1 (.t 39), none⟩,
⟨(some 41), .append 45 2 16 false (.t 36) (.t 40), none⟩,
⟨(some 9), .mov (.t 41), none⟩] [0, 2, 6, 9])
 (.seq (.seq (.ops [
⟨(some 42), .mov (.t 0), none⟩,
⟨(some 43), .nilck (.t 42), none⟩,
⟨(some 44), .faddr 0 (.t 43), none⟩,
⟨(some 45), .faddr 2 (.t 44), none⟩,
⟨(some 46), .load false 1 (.t 45), none⟩,
⟨(some 47), .len 0 (.t 46), none⟩,
⟨(some 48), .mov (.k (.int .i64 0)), none⟩] [0, 2, 6, 9, 46, 47, 48])
 (.block 2 (.loop c_engine_machine_goes_L1)))
 (.ops [
⟨(some 68), .mov (.t 0), none⟩,
⟨(some 69), .mov (.t 9), none⟩,
⟨(some 70), .nilck (.t 68), none⟩,
⟨(some 71), .faddr 15 (.t 70), none⟩,
⟨none, .store 1 (.t 71) (.t 69), none⟩] [])))))))), []⟩
abbrev n_engine_machine_goes : Nat := 21
def c_engine_machine_node_L0 : C := (.seq (.ops [
⟨(some 19), .bin .lss (.t 18) (.t 17), none⟩] [2, 3, 6, 16, 17, 18, 19])
 (.seq (.cond (.t 19) .skip
 (.exit 0))
 (.seq (.block 1 (.seq (.ops [
⟨(some 20), .mov (.t 18), none⟩,
⟨(some 21), .iaddr 2 (.t 16) (.t 18), none⟩,
⟨(some 22), .load true 2 (.t 21), none⟩,
⟨(some 8), .alloc [(.int .i64 0), (.int .i64 0)], none⟩,
⟨(some 7), .mov (.t 20), none⟩,
⟨none, .store 2 (.t 8) (.t 22), none⟩] [2, 3, 6, 7, 8, 16, 17, 18])
 (.seq (.ops [
⟨(some 23), .load false 1 (.t 2), none⟩,
⟨(some 24), .load true 2 (.t 8), none⟩,
⟨(some 25), .call 49 [(.t 23), (.t 24)], none⟩,
⟨(some 9), .alloc [(.bool false), (.int .i64 0)], none⟩,
⟨none, .store 2 (.t 9) (.t 25), none⟩] [2, 3, 6, 7, 9, 16, 17, 18])
 (.seq (.seq (.ops [
⟨(some 26), .faddr 0 (.t 9), none⟩,
⟨(some 27), .load false 1 (.t 26), none⟩,
⟨(some 28), .un .not (.t 27), none⟩] [2, 3, 6, 7, 9, 16, 17, 18, 28])
 (.cond (.t 28) (.seq (.ops [
⟨(some 4), .mov (.k (.int .i64 2)), none⟩,
⟨(some 5), .mov (.k (.int .i64 0)), none⟩] [4, 5])
 .ret)
 .skip))
 (.ops [
⟨(some 29), .mov (.t 7), none⟩,
⟨(some 30), .faddr 1 (.t 9), none⟩,
⟨(some 31), .load false 1 (.t 30), none⟩,
⟨(some 32), .iaddrA 2 1 (.t 6) (.t 29), none⟩,
⟨none, .store 1 (.t 32) (.t 31), none⟩] [2, 3, 6, 16, 17, 18])))))
 (.ops [
⟨(some 33), .bin .add (.t 18) (.k (.int .i64 1)), none⟩,
⟨(some 18), .mov (.t 33), none⟩] [2, 3, 6, 16, 17, 18]))))
def c_engine_machine_node_D1 : List O := [
⟨(some 35), .iaddrA 2 1 (.t 6) (.k (.int .i64 0)), none⟩,
⟨(some 36), .load false 1 (.t 35), none⟩,
⟨(some 37), .iaddrA 2 1 (.t 6) (.k (.int .i64 1)), none⟩,
⟨(some 38), .load false 1 (.t 37), none⟩,
⟨(some 11), .mov (.t 36), none⟩,
⟨(some 12), .mov (.t 38), none⟩]
def c_engine_machine_node_D2 : List O := [
⟨(some 101), .load false 1 (.t 2), none⟩,
⟨(some 102), .lit 2 1 false [(.int .i64 0)] 0 [], none⟩,
⟨(some 103), .load false 1 (.t 2), none⟩,
⟨(some 104), .nilck (.t 103), none⟩,
⟨(some 105), .faddr 16 (.t 104), none⟩,
⟨(some 106), .load false 1 (.t 105), none⟩,
⟨(some 107), .append 2 1 8 false (.t 102) (.t 106), none⟩,
⟨(some 108), .nilck (.t 101), none⟩,
⟨(some 109), .faddr 21 (.t 108), none⟩,
⟨(some 110), .faddr 1 (.t 109), none⟩,
⟨(some 111), .faddr 2 (.t 110), none⟩,
⟨none, .store 1 (.t 111) (.t 107), none⟩]
def c_engine_machine_node : F := ⟨false, 2, (.seq (.ops [
⟨(some 2), .box (.t 0), none⟩,
⟨(some 3), .box (.t 1), none⟩,
⟨(some 4), .mov (.k (.int .i64 0)), none⟩,
⟨(some 5), .mov (.k (.int .i64 0)), none⟩] [2, 3])
 (.seq (.ops [
⟨(some 6), .alloc [(.int .i64 0), (.int .i64 0)], none⟩] [2, 3, 6])
 (.seq (.seq (.ops [
⟨(some 15), .faddr 2 (.t 3), none⟩,
⟨(some 16), .load false 1 (.t 15), none⟩,
⟨(some 17), .len 0 (.t 16), none⟩,
⟨(some 18), .mov (.k (.int .i64 0)), none⟩] [2, 3, 6, 16, 17, 18])
 (.block 0 (.loop c_engine_machine_node_L0)))
 (.seq (.ops [
⟨(some 34), .mkfn 50 [(.t 2)], none⟩,
⟨(some 10), .mov (.t 34), none⟩] [2, 3, 6, 10])
 (.seq (.opsD c_engine_machine_node_D1 [0, 1, 0, 4, 3, 31] [2, 3, 10, 11, 12])
 (.seq (.seq (.ops [
⟨(some 39), .faddr 0 (.t 3), none⟩,
⟨(some 40), .load false 1 (.t 39), none⟩] [2, 3, 10, 11, 12, 40])
 (.block 2 (.seq (.ops [
⟨(some 42), .bin .eql (.t 40) (.k (.int .i64 0)), none⟩,
⟨(some 41), .mov (.t 42), none⟩] [2, 3, 10, 11, 12, 40, 41])
 (.cond (.t 41) (.seq (.ops [
⟨(some 4), .mov (.k (.int .i64 2)), none⟩,
⟨(some 5), .mov (.k (.int .i64 0)), none⟩] [4, 5])
 .ret)
 (.seq (.ops [
⟨(some 44), .bin .eql (.t 40) (.k (.int .i64 13)), none⟩,
⟨(some 43), .mov (.t 44), none⟩] [2, 3, 10, 11, 12, 40, 43])
 (.cond (.t 43) (.seq (.ops [
⟨(some 45), .mov (.t 10), none⟩,
⟨(some 46), .load false 1 (.t 2), none⟩,
⟨(some 47), .nilck (.t 46), none⟩,
⟨(some 48), .faddr 16 (.t 47), none⟩,
⟨(some 49), .load false 1 (.t 48), none⟩,
⟨(some 50), .mov (.t 11), none⟩,
⟨(some 51), .call 52 [(.t 49), (.t 50)], none⟩,
⟨(some 52), .extract (.t 51) 0, none⟩,
⟨(some 53), .extract (.t 51) 1, none⟩,
⟨(some 54), .callv (.t 45) [(.t 52), (.t 53)], none⟩,
⟨(some 55), .extract (.t 54) 0, none⟩,
⟨(some 56), .extract (.t 54) 1, none⟩,
⟨(some 4), .mov (.t 55), none⟩,
⟨(some 5), .mov (.t 56), none⟩] [4, 5])
 .ret)
 (.seq (.ops [
⟨(some 58), .bin .eql (.t 40) (.k (.int .i64 14)), none⟩,
⟨(some 57), .mov (.t 58), none⟩] [2, 3, 10, 11, 12, 40, 57])
 (.cond (.t 57) (.seq (.ops [
⟨(some 60), .load false 1 (.t 2), none⟩,
⟨(some 61), .nilck (.t 60), none⟩,
⟨(some 62), .faddr 16 (.t 61), none⟩,
⟨(some 63), .load false 1 (.t 62), none⟩,
⟨(some 64), .mov (.t 11), none⟩,
⟨(some 65), .mov (.t 12), none⟩,
⟨(some 66), .call 53 [(.t 63), (.t 64), (.t 65)], none⟩,
⟨(some 59), .mov (.t 66), none⟩,
⟨(some 67), .extract (.t 59) 0, none⟩,
⟨(some 68), .extract (.t 59) 1, none⟩,
⟨(some 13), .mov (.t 67), none⟩,
⟨(some 14), .mov (.t 68), none⟩] [2, 13, 14])
 (.seq (.seq (.ops [
⟨(some 69), .mov (.t 14), none⟩,
⟨(some 70), .bin .eql (.t 69) (.k (.int .i64 0)), none⟩] [2, 13, 14, 70])
 (.cond (.t 70) (.ops [
⟨(some 71), .load false 1 (.t 2), none⟩,
⟨(some 72), .mov (.t 13), none⟩,
⟨(some 73), .nilck (.t 71), none⟩,
⟨(some 74), .faddr 16 (.t 73), none⟩,
⟨none, .store 1 (.t 74) (.t 72), none⟩] [14])
 .skip))
 (.seq (.ops [
⟨(some 75), .mov (.t 14), none⟩,
⟨(some 4), .mov (.t 75), none⟩,
⟨(some 5), .mov (.k (.int .i64 0)), none⟩] [4, 5])
 .ret)))
 (.seq (.ops [
⟨(some 77), .bin .eql (.t 40) (.k (.int .i64 15)), none⟩,
⟨(some 76), .mov (.t 77), none⟩] [2, 3, 10, 11, 12, 40, 76])
 (.cond (.t 76) (.seq (.ops [
⟨(some 78), .mov (.t 10), none⟩,
⟨(some 79), .load false 1 (.t 2), none⟩,
⟨(some 80), .faddr 1 (.t 3), none⟩,
⟨(some 81), .load false 1 (.t 80), none⟩,
⟨(some 82), .mov (.t 11), none⟩,
⟨(some 83), .call 54 [(.t 79), (.t 81), (.t 82)], none⟩,
⟨(some 84), .extract (.t 83) 0, none⟩,
⟨(some 85), .extract (.t 83) 1, none⟩,
⟨(some 86), .callv (.t 78) [(.t 84), (.t 85)], none⟩,
⟨(some 87), .extract (.t 86) 0, none⟩,
⟨(some 88), .extract (.t 86) 1, none⟩,
⟨(some 4), .mov (.t 87), none⟩,
⟨(some 5), .mov (.t 88), none⟩] [4, 5])
 .ret)
 (.seq (.ops [
⟨(some 90), .bin .eql (.t 40) (.k (.int .i64 17)), none⟩,
⟨(some 89), .mov (.t 90), none⟩] [2, 3, 10, 11, 12, 40, 89])
 (.cond (.t 89) (.seq (.seq (.ops [
⟨(some 91), .mov (.t 11), none⟩,
⟨(some 92), .bin .eql (.t 91) (.k (.int .i64 0)), none⟩] [92])
 (.cond (.t 92) (.seq (.ops [
⟨(some 4), .mov (.k (.int .i64 0)), none⟩,
⟨(some 5), .mov (.k (.int .i64 0)), none⟩] [4, 5])
 .ret)
 .skip))
 (.seq (.ops [
⟨(some 4), .mov (.k (.int .i64 0)), none⟩,
⟨(some 5), .mov (.k (.int .i64 1)), none⟩] [4, 5])
 .ret))
 (.seq (.ops [
⟨(some 94), .bin .eql (.t 40) (.k (.int .i64 18)), none⟩,
⟨(some 93), .mov (.t 94), none⟩] [2, 3, 10, 11, 12, 93])
 (.cond (.t 93) (.seq (.ops [
⟨(some 95), .load false 1 (.t 2), none⟩,
⟨(some 96), .mov (.t 11), none⟩,
⟨(some 97), .nilck (.t 95), none⟩,
⟨(some 98), .faddr 21 (.t 97), none⟩,
⟨(some 99), .faddr 1 (.t 98), none⟩,
⟨(some 100), .faddr 1 (.t 99), none⟩,
⟨none, .store 1 (.t 100) (.t 96), none⟩] [2])
 (.seq (.opsD c_engine_machine_node_D2 [0, 0, 0, 4, 12, 28, 62, 127, 255, 511, 1023, 2047] [])
 (.seq (.ops [
⟨(some 4), .mov (.k (.int .i64 1)), none⟩,
⟨(some 5), .mov (.k (.int .i64 0)), none⟩] [4, 5])
 .ret)))
 .skip))))))))))))))
 (.seq (.ops [
⟨(some 112), .mov (.t 10), none⟩,
⟨(some 113), .faddr 0 (.t 3), none⟩,
⟨(some 114), .load false 1 (.t 113), none⟩,
⟨(some 115), .mov (.t 11), none⟩,
⟨(some 116), .mov (.t 12), none⟩,
⟨(some 117), .call 55 [(.t 114), (.t 115), (.t 116)], none⟩,
⟨(some 118), .extract (.t 117) 0, none⟩,
⟨(some 119), .extract (.t 117) 1, none⟩,
⟨(some 120), .callv (.t 112) [(.t 118), (.t 119)], none⟩,
⟨(some 121), .extract (.t 120) 0, none⟩,
⟨(some 122), .extract (.t 120) 1, none⟩,
⟨(some 4), .mov (.t 121), none⟩,
⟨(some 5), .mov (.t 122), none⟩] [4, 5])
 .ret))))))), [.tmp 4, .tmp 5]⟩
abbrev n_engine_machine_node : Nat := 22
def c_joineryref14_Right_D0 : List O := [
⟨(some 34), .faddr 0 (.t 5), none⟩,
⟨(some 35), .load false 1 (.t 34), none⟩,
⟨(some 36), .call 56 [(.t 35)], none⟩,
⟨(some 37), .bin .eql (.t 36) (.k (.str [])), none⟩,
⟨(some 38), .mov (.t 37), none⟩,
⟨(some 39), .faddr 2 (.t 5), (some (38, false))⟩,
⟨(some 40), .load false 1 (.t 39), (some (38, false))⟩,
⟨(some 41), .len 0 (.t 40), (some (38, false))⟩,
⟨(some 42), .faddr 0 (.t 5), (some (38, false))⟩,
⟨(some 43), .load false 1 (.t 42), (some (38, false))⟩,
⟨(some 44), .call 57 [(.t 43)], (some (38, false))⟩,
⟨(some 45), .bin .neq (.t 41) (.t 44), (some (38, false))⟩,
⟨(some 46), .pick (.t 38) (.k (.bool true)) (.t 45), none⟩,
⟨(some 47), .mov (.t 46), none⟩,
⟨(some 48), .faddr 3 (.t 5), (some (47, false))⟩,
⟨(some 49), .load false 1 (.t 48), (some (47, false))⟩,
⟨(some 50), .len 0 (.t 49), (some (47, false))⟩,
⟨(some 51), .faddr 0 (.t 5), (some (47, false))⟩,
⟨(some 52), .load false 1 (.t 51), (some (47, false))⟩,
⟨(some 53), .call 58 [(.t 52)], (some (47, false))⟩,
⟨(some 54), .bin .neq (.t 50) (.t 53), (some (47, false))⟩,
⟨(some 55), .pick (.t 47) (.k (.bool true)) (.t 54), none⟩]
def c_joineryref14_Right_D1 : List O := [
⟨(some 86), .faddr 2 (.t 5), none⟩,
⟨(some 87), .load false 1 (.t 86), none⟩,
⟨(some 88), .mov (.t 6), none⟩,
⟨(some 89), .iaddr 2 (.t 87) (.t 88), none⟩,
⟨(some 90), .faddr 0 (.t 89), none⟩,
⟨(some 91), .load false 1 (.t 90), none⟩,
⟨(some 92), .bin .neq (.t 91) (.k (.int .i64 2)), none⟩,
⟨(some 93), .mov (.t 92), none⟩,
⟨(some 94), .load true 3 (.t 1), (some (93, true))⟩,
⟨(some 95), .faddr 2 (.t 5), (some (93, true))⟩,
⟨(some 96), .load false 1 (.t 95), (some (93, true))⟩,
⟨(some 97), .mov (.t 6), (some (93, true))⟩,
⟨(some 98), .iaddr 2 (.t 96) (.t 97), (some (93, true))⟩,
⟨(some 99), .load true 2 (.t 98), (some (93, true))⟩,
⟨(some 100), .mov (.t 4), (some (93, true))⟩,
⟨(some 101), .call 59 [(.t 94), (.t 99), (.t 100)], (some (93, true))⟩,
⟨(some 102), .un .not (.t 101), (some (93, true))⟩,
⟨(some 103), .pick (.t 93) (.t 102) (.k (.bool false)), none⟩]
def c_joineryref14_Right_L2 : C := (.seq (.seq (.ops [
⟨(some 79), .mov (.t 6), none⟩,
⟨(some 80), .faddr 2 (.t 5), none⟩,
⟨(some 81), .load false 1 (.t 80), none⟩,
⟨(some 82), .len 0 (.t 81), none⟩,
⟨(some 83), .bin .lss (.t 79) (.t 82), none⟩] [1, 3, 4, 5, 6, 83])
 (.cond (.t 83) .skip
 (.exit 2)))
 (.seq (.block 3 (.seq (.opsD c_joineryref14_Right_D1 [0, 1, 0, 7, 15, 31, 63, 127, 255, 255, 767, 255, 3839, 7935, 255, 32767, 65535, 131071] [1, 3, 4, 5, 6, 103])
 (.cond (.t 103) (.seq (.ops [
⟨(some 2), .mov (.k (.bool false)), none⟩] [2])
 .ret)
 .skip)))
 (.ops [
⟨(some 84), .mov (.t 6), none⟩,
⟨(some 85), .bin .add (.t 84) (.k (.int .i64 1)), none⟩,
⟨(some 6), .mov (.t 85), none⟩] [1, 3, 4, 5, 6])))
def c_joineryref14_Right_L3 : C := (.seq (.seq (.ops [
⟨(some 104), .mov (.t 7), none⟩,
⟨(some 105), .faddr 3 (.t 5), none⟩,
⟨(some 106), .load false 1 (.t 105), none⟩,
⟨(some 107), .len 0 (.t 106), none⟩,
⟨(some 108), .bin .lss (.t 104) (.t 107), none⟩] [1, 3, 4, 5, 7, 108])
 (.cond (.t 108) .skip
 (.exit 4)))
 (.seq (.block 5 (.seq (.ops [
⟨(some 111), .faddr 3 (.t 5), none⟩,
⟨(some 112), .load false 1 (.t 111), none⟩,
⟨(some 113), .mov (.t 7), none⟩,
⟨(some 114), .iaddr 1 (.t 112) (.t 113), none⟩,
⟨(some 115), .load false 1 (.t 114), none⟩,
⟨(some 116), .bin .lss (.t 115) (.k (.int .i64 (-1))), none⟩,
⟨(some 117), .mov (.t 116), none⟩,
⟨(some 118), .faddr 3 (.t 5), (some (117, false))⟩,
⟨(some 119), .load false 1 (.t 118), (some (117, false))⟩,
⟨(some 120), .mov (.t 7), (some (117, false))⟩,
⟨(some 121), .iaddr 1 (.t 119) (.t 120), (some (117, false))⟩,
⟨(some 122), .load false 1 (.t 121), (some (117, false))⟩,
⟨(some 123), .mov (.t 3), (some (117, false))⟩,
⟨(some 124), .bin .geq (.t 122) (.t 123), (some (117, false))⟩,
⟨(some 125), .pick (.t 117) (.k (.bool true)) (.t 124), none⟩] [1, 3, 4, 5, 7, 125])
 (.cond (.t 125) (.seq (.ops [
⟨(some 2), .mov (.k (.bool false)), none⟩] [2])
 .ret)
 .skip)))
 (.ops [
⟨(some 109), .mov (.t 7), none⟩,
⟨(some 110), .bin .add (.t 109) (.k (.int .i64 1)), none⟩,
⟨(some 7), .mov (.t 110), none⟩] [1, 3, 4, 5, 7])))
def c_joineryref14_Right_L4 : C := (.seq (.seq (.ops [
⟨(some 24), .mov (.t 4), none⟩,
⟨(some 25), .mov (.t 3), none⟩,
⟨(some 26), .bin .lss (.t 24) (.t 25), none⟩] [1, 3, 4, 26])
 (.cond (.t 26) .skip
 (.exit 0)))
 (.seq (.block 1 (.seq (.ops [
⟨(some 29), .faddr 1 (.t 1), none⟩,
⟨(some 30), .load false 1 (.t 29), none⟩,
⟨(some 31), .mov (.t 4), none⟩,
⟨(some 32), .iaddr 4 (.t 30) (.t 31), none⟩,
⟨(some 33), .load true 4 (.t 32), none⟩,
⟨(some 5), .alloc [(.int .i64 0), (.int .i64 0), .nils, .nils], none⟩,
⟨none, .store 4 (.t 5) (.t 33), none⟩] [1, 3, 4, 5])
 (.seq (.seq (.opsD c_joineryref14_Right_D0 [0, 1, 3, 7, 15, 31, 63, 127, 31, 287, 799, 2047, 4095, 8191, 16383, 32767, 65535, 16383, 147455, 409599, 1048575, 2097151] [1, 3, 4, 5, 55])
 (.cond (.t 55) (.seq (.ops [
⟨(some 2), .mov (.k (.bool false)), none⟩] [2])
 .ret)
 .skip))
 (.seq (.seq (.ops [
⟨(some 56), .faddr 0 (.t 5), none⟩,
⟨(some 57), .load false 1 (.t 56), none⟩,
⟨(some 58), .bin .eql (.t 57) (.k (.int .i64 15)), none⟩,
⟨(some 59), .mov (.t 58), none⟩,
⟨(some 60), .faddr 1 (.t 5), (some (59, true))⟩,
⟨(some 61), .load false 1 (.t 60), (some (59, true))⟩,
⟨(some 62), .bin .lss (.t 61) (.k (.int .i64 0)), (some (59, true))⟩,
⟨(some 63), .mov (.t 62), (some (59, true))⟩,
⟨(some 64), .faddr 1 (.t 5), (some (63, false))⟩,
⟨(some 65), .load false 1 (.t 64), (some (63, false))⟩,
⟨(some 66), .bin .gtr (.t 65) (.k (.int .i64 99)), (some (63, false))⟩,
⟨(some 67), .pick (.t 63) (.k (.bool true)) (.t 66), (some (59, true))⟩,
⟨(some 68), .pick (.t 59) (.t 67) (.k (.bool false)), none⟩,
⟨(some 69), .mov (.t 68), none⟩,
⟨(some 70), .faddr 0 (.t 5), (some (69, false))⟩,
⟨(some 71), .load false 1 (.t 70), (some (69, false))⟩,
⟨(some 72), .bin .neq (.t 71) (.k (.int .i64 15)), (some (69, false))⟩,
⟨(some 73), .mov (.t 72), (some (69, false))⟩,
⟨(some 74), .faddr 1 (.t 5), (some (73, true))⟩,
⟨(some 75), .load false 1 (.t 74), (some (73, true))⟩,
⟨(some 76), .bin .neq (.t 75) (.k (.int .i64 0)), (some (73, true))⟩,
⟨(some 77), .pick (.t 73) (.t 76) (.k (.bool false)), (some (69, false))⟩,
⟨(some 78), .pick (.t 69) (.k (.bool true)) (.t 77), none⟩] [1, 3, 4, 5, 78])
 (.cond (.t 78) (.seq (.ops [
⟨(some 2), .mov (.k (.bool false)), none⟩] [2])
 .ret)
 .skip))
 (.seq (.seq (.ops [
⟨(some 6), .mov (.k (.int .i64 0)), none⟩] [1, 3, 4, 5, 6])
 (.block 2 (.loop c_joineryref14_Right_L2)))
 (.seq (.ops [
⟨(some 7), .mov (.k (.int .i64 0)), none⟩] [1, 3, 4, 5, 7])
 (.block 4 (.loop c_joineryref14_Right_L3))))))))
 (.ops [
⟨(some 27), .mov (.t 4), none⟩,
⟨(some 28), .bin .add (.t 27) (.k (.int .i64 1)), none⟩,
⟨(some 4), .mov (.t 28), none⟩] [1, 3, 4])))
def c_joineryref14_Right_D5 : List O := [
⟨(some 165), .load true 3 (.t 1), none⟩,
⟨(some 166), .faddr 1 (.t 9), none⟩,
⟨(some 167), .load false 1 (.t 166), none⟩,
⟨(some 168), .mov (.t 11), none⟩,
⟨(some 169), .iaddr 2 (.t 167) (.t 168), none⟩,
⟨(some 170), .load true 2 (.t 169), none⟩,
⟨(some 171), .mov (.t 10), none⟩,
⟨(some 172), .mov (.t 11), none⟩,
⟨(some 173), .iaddr 2 (.t 171) (.t 172), none⟩,
⟨(some 174), .load true 2 (.t 173), none⟩,
⟨(some 175), .call 61 [(.t 165), (.t 170), (.t 174)], none⟩,
⟨(some 176), .un .not (.t 175), none⟩]
def c_joineryref14_Right_L6 : C := (.seq (.seq (.ops [
⟨(some 159), .mov (.t 11), none⟩,
⟨(some 160), .mov (.t 10), none⟩,
⟨(some 161), .len 0 (.t 160), none⟩,
⟨(some 162), .bin .lss (.t 159) (.t 161), none⟩] [1, 3, 8, 9, 10, 11, 162])
 (.cond (.t 162) .skip
 (.exit 8)))
 (.seq (.block 9 (.seq (.opsD c_joineryref14_Right_D5 [0, 0, 2, 0, 14, 30, 0, 0, 192, 448, 1023, 2047] [1, 3, 8, 9, 10, 11, 176])
 (.cond (.t 176) (.seq (.ops [
⟨(some 2), .mov (.k (.bool false)), none⟩] [2])
 .ret)
 .skip)))
 (.ops [
⟨(some 163), .mov (.t 11), none⟩,
⟨(some 164), .bin .add (.t 163) (.k (.int .i64 1)), none⟩,
⟨(some 11), .mov (.t 164), none⟩] [1, 3, 8, 9, 10, 11])))
def c_joineryref14_Right_L7 : C := (.seq (.seq (.ops [
⟨(some 126), .mov (.t 8), none⟩,
⟨(some 127), .faddr 2 (.t 1), none⟩,
⟨(some 128), .load false 1 (.t 127), none⟩,
⟨(some 129), .len 0 (.t 128), none⟩,
⟨(some 130), .bin .lss (.t 126) (.t 129), none⟩] [1, 3, 8, 130])
 (.cond (.t 130) .skip
 (.exit 6)))
 (.seq (.block 7 (.seq (.ops [
⟨(some 133), .faddr 2 (.t 1), none⟩,
⟨(some 134), .load false 1 (.t 133), none⟩,
⟨(some 135), .mov (.t 8), none⟩,
⟨(some 136), .iaddr 2 (.t 134) (.t 135), none⟩,
⟨(some 137), .load true 2 (.t 136), none⟩,
⟨(some 9), .alloc [(.int .i64 0), .nils], none⟩,
⟨none, .store 2 (.t 9) (.t 137), none⟩] [1, 3, 8, 9])
 (.seq (.ops [
⟨(some 138), .load true 3 (.t 1), none⟩,
⟨(some 139), .faddr 0 (.t 9), none⟩,
⟨(some 140), .load false 1 (.t 139), none⟩,
⟨(some 141), .call 60 [(.t 138), (.t 140)], none⟩,
⟨(some 10), .mov (.t 141), none⟩] [1, 3, 8, 9, 10])
 (.seq (.seq (.ops [
⟨(some 142), .faddr 0 (.t 9), none⟩,
⟨(some 143), .load false 1 (.t 142), none⟩,
⟨(some 144), .bin .lss (.t 143) (.k (.int .i64 0)), none⟩,
⟨(some 145), .mov (.t 144), none⟩,
⟨(some 146), .faddr 0 (.t 9), (some (145, false))⟩,
⟨(some 147), .load false 1 (.t 146), (some (145, false))⟩,
⟨(some 148), .mov (.t 3), (some (145, false))⟩,
⟨(some 149), .bin .geq (.t 147) (.t 148), (some (145, false))⟩,
⟨(some 150), .pick (.t 145) (.k (.bool true)) (.t 149), none⟩,
⟨(some 151), .mov (.t 150), none⟩,
⟨(some 152), .mov (.t 10), (some (151, false))⟩,
⟨(some 153), .len 0 (.t 152), (some (151, false))⟩,
⟨(some 154), .faddr 1 (.t 9), (some (151, false))⟩,
⟨(some 155), .load false 1 (.t 154), (some (151, false))⟩,
⟨(some 156), .len 0 (.t 155), (some (151, false))⟩,
⟨(some 157), .bin .neq (.t 153) (.t 156), (some (151, false))⟩,
⟨(some 158), .pick (.t 151) (.k (.bool true)) (.t 157), none⟩] [1, 3, 8, 9, 10, 158])
 (.cond (.t 158) (.seq (.ops [
⟨(some 2), .mov (.k (.bool false)), none⟩] [2])
 .ret)
 .skip))
 (.seq (.ops [
⟨(some 11), .mov (.k (.int .i64 0)), none⟩] [1, 3, 8, 9, 10, 11])
 (.block 8 (.loop c_joineryref14_Right_L6)))))))
 (.ops [
⟨(some 131), .mov (.t 8), none⟩,
⟨(some 132), .bin .add (.t 131) (.k (.int .i64 1)), none⟩,
⟨(some 8), .mov (.t 132), none⟩] [1, 3, 8])))
def c_joineryref14_Right : F := ⟨true, 1, (.seq (.ops [
⟨(some 1), .box (.t 0), none⟩,
⟨(some 2), .mov (.k (.bool false)), none⟩] [1])
 (.seq (.ops [
⟨(some 12), .faddr 1 (.t 1), none⟩,
⟨(some 13), .load false 1 (.t 12), none⟩,
⟨(some 14), .len 0 (.t 13), none⟩,
⟨(some 3), .mov (.t 14), none⟩] [1, 3])
 (.seq (.seq (.ops [
⟨(some 15), .faddr 0 (.t 1), none⟩,
⟨(some 16), .load false 1 (.t 15), none⟩,
⟨(some 17), .bin .lss (.t 16) (.k (.int .i64 (-1))), none⟩,
⟨(some 18), .mov (.t 17), none⟩,
⟨(some 19), .faddr 0 (.t 1), (some (18, false))⟩,
⟨(some 20), .load false 1 (.t 19), (some (18, false))⟩,
⟨(some 21), .mov (.t 3), (some (18, false))⟩,
⟨(some 22), .bin .geq (.t 20) (.t 21), (some (18, false))⟩,
⟨(some 23), .pick (.t 18) (.k (.bool true)) (.t 22), none⟩] [1, 3, 23])
 (.cond (.t 23) (.seq (.ops [
⟨(some 2), .mov (.k (.bool false)), none⟩] [2])
 .ret)
 .skip))
 (.seq (.seq (.ops [
⟨(some 4), .mov (.k (.int .i64 0)), none⟩] [1, 3, 4])
 (.block 0 (.loop c_joineryref14_Right_L4)))
 (.seq (.seq (.ops [
⟨(some 8), .mov (.k (.int .i64 0)), none⟩] [1, 3, 8])
 (.block 6 (.loop c_joineryref14_Right_L7)))
 (.seq (.ops [
⟨(some 2), .mov (.k (.bool true)), none⟩] [2])
 .ret)))))), [.tmp 2]⟩
abbrev n_joineryref14_Right : Nat := 23
def c_joineryref08_Right : F := ⟨true, 1, (.seq (.ops [
⟨(some 1), .box (.t 0), none⟩,
⟨(some 2), .mov (.k (.bool false)), none⟩] [1])
 (.seq (.ops [
⟨(some 3), .faddr 8 (.t 1), none⟩,
⟨(some 4), .load false 1 (.t 3), none⟩,
⟨(some 5), .len 0 (.t 4), none⟩,
⟨(some 6), .bin .leq (.t 5) (.k (.int .i64 16)), none⟩,
⟨(some 7), .mov (.t 6), none⟩,
⟨(some 8), .faddr 9 (.t 1), (some (7, true))⟩,
⟨(some 9), .load false 1 (.t 8), (some (7, true))⟩,
⟨(some 10), .len 0 (.t 9), (some (7, true))⟩,
⟨(some 11), .bin .leq (.t 10) (.k (.int .i64 5000)), (some (7, true))⟩,
⟨(some 12), .pick (.t 7) (.t 11) (.k (.bool false)), none⟩,
⟨(some 13), .mov (.t 12), none⟩,
⟨(some 14), .faddr 10 (.t 1), (some (13, true))⟩,
⟨(some 15), .load false 1 (.t 14), (some (13, true))⟩,
⟨(some 16), .bin .geq (.t 15) (.k (.int .i64 0)), (some (13, true))⟩,
⟨(some 17), .pick (.t 13) (.t 16) (.k (.bool false)), none⟩,
⟨(some 18), .mov (.t 17), none⟩,
⟨(some 19), .faddr 10 (.t 1), (some (18, true))⟩,
⟨(some 20), .load false 1 (.t 19), (some (18, true))⟩,
⟨(some 21), .bin .leq (.t 20) (.k (.int .i64 5000)), (some (18, true))⟩,
⟨(some 22), .pick (.t 18) (.t 21) (.k (.bool false)), none⟩,
⟨(some 2), .mov (.t 22), none⟩] [2])
 .ret)), [.tmp 2]⟩
abbrev n_joineryref08_Right : Nat := 24
def c_joineryref15_New_D0 : List O := [
⟨(some 6), .faddr 0 (.t 2), none⟩,
⟨(some 7), .load false 1 (.t 6), none⟩,
⟨(some 8), .faddr 2 (.t 2), none⟩,
⟨(some 9), .load false 1 (.t 8), none⟩,
⟨(some 10), .len 0 (.t 9), none⟩,
⟨(some 11), .mkslice 45 2 16 false [(.bool false), (.int .i64 0)] (.t 10), none⟩,
⟨(some 12), .faddr 8 (.t 3), none⟩,
⟨(some 13), .load false 1 (.t 12), none⟩,
⟨(some 14), .build [(.int .i64 0), .nils, .nils, (.int .i64 0), .nils, (.int .i64 0), (.int .i64 0), .nils, (.int .i64 0), (.int .i64 0)] [(0, 1, (.t 7)), (1, 1, (.t 11)), (2, 1, (.t 13))], none⟩,
⟨(some 5), .alloc [(.int .i64 0), .nils, .nils, (.int .i64 0), .nils, (.int .i64 0), (.int .i64 0), .nils, (.int .i64 0), (.int .i64 0)], none⟩,
⟨none, .store 10 (.t 5) (.t 14), none⟩]
def c_joineryref15_New : F := ⟨true, 2, (.seq (.ops [
⟨(some 2), .box (.t 0), none⟩,
⟨(some 3), .box (.t 1), none⟩,
⟨(some 4), .alloc [(.int .i64 0), .nils, .nils, (.int .i64 0), .nils, (.int .i64 0), (.int .i64 0), .nils, (.int .i64 0), (.int .i64 0)], none⟩] [2, 3, 4])
 (.seq (.opsD c_joineryref15_New_D0 [0, 1, 0, 4, 12, 28, 0, 64, 255, 0, 1023] [2, 3, 4, 5])
 (.seq (.ops [
⟨(some 15), .load true 3 (.t 2), none⟩,
⟨(some 16), .load true 11 (.t 3), none⟩,
⟨(some 17), .faddr 1 (.t 5), none⟩,
⟨(some 18), .load false 1 (.t 17), none⟩,
⟨(some 19), .faddr 0 (.t 2), none⟩,
⟨(some 20), .load false 1 (.t 19), none⟩,
⟨(some 21), .call 62 [(.t 15), (.t 16), (.t 18), (.k (.int .i64 0)), (.k (.int .i64 (-1))), (.k (.int .i64 0)), (.t 20)], none⟩,
⟨(some 22), .faddr 1 (.t 5), none⟩,
⟨none, .store 1 (.t 22) (.t 21), none⟩] [4, 5])
 (.seq (.ops [
⟨(some 23), .load true 10 (.t 5), none⟩,
⟨none, .store 10 (.t 4) (.t 23), none⟩] [4])
 .ret)))), [.cell 4 true 10]⟩
abbrev n_joineryref15_New : Nat := 25
def c_joineryref15_Step_D0 : List O := [
⟨(some 42), .load true 11 (.t 4), none⟩,
⟨(some 43), .faddr 1 (.t 5), none⟩,
⟨(some 44), .load false 1 (.t 43), none⟩,
⟨(some 45), .faddr 2 (.t 7), none⟩,
⟨(some 46), .load false 1 (.t 45), none⟩,
⟨(some 47), .mov (.t 9), none⟩,
⟨(some 48), .iaddr 2 (.t 46) (.t 47), none⟩,
⟨(some 49), .load true 2 (.t 48), none⟩,
⟨(some 50), .call 63 [(.t 42), (.t 44), (.k (.int .i64 0)), (.t 49)], none⟩,
⟨(some 10), .alloc [(.bool false), (.int .i64 0)], none⟩,
⟨none, .store 2 (.t 10) (.t 50), none⟩]
def c_joineryref15_Step_L1 : C := (.seq (.seq (.ops [
⟨(some 35), .mov (.t 9), none⟩,
⟨(some 36), .faddr 2 (.t 7), none⟩,
⟨(some 37), .load false 1 (.t 36), none⟩,
⟨(some 38), .len 0 (.t 37), none⟩,
⟨(some 39), .bin .lss (.t 35) (.t 38), none⟩] [3, 4, 5, 6, 7, 8, 9, 39])
 (.cond (.t 39) .skip
 (.exit 0)))
 (.seq (.block 1 (.seq (.opsD c_joineryref15_Step_D0 [0, 0, 2, 0, 8, 0, 56, 120, 255, 0, 1023] [3, 4, 5, 6, 7, 8, 9, 10])
 (.seq (.seq (.ops [
⟨(some 51), .faddr 0 (.t 10), none⟩,
⟨(some 52), .load false 1 (.t 51), none⟩,
⟨(some 53), .un .not (.t 52), none⟩] [3, 4, 5, 6, 7, 8, 9, 10, 53])
 (.cond (.t 53) (.seq (.ops [
⟨(some 54), .build [(.int .i64 0), (.int .i64 0), .nils] [(0, 1, (.k (.int .i64 2)))], none⟩,
⟨(some 55), .faddr 4 (.t 5), none⟩,
⟨(some 56), .faddr 1 (.t 55), none⟩,
⟨none, .store 3 (.t 56) (.t 54), none⟩] [5, 6])
 (.seq (.ops [
⟨(some 57), .load true 10 (.t 5), none⟩,
⟨none, .store 10 (.t 6) (.t 57), none⟩] [6])
 .ret))
 .skip))
 (.ops [
⟨(some 58), .mov (.t 8), none⟩,
⟨(some 59), .faddr 1 (.t 10), none⟩,
⟨(some 60), .load false 1 (.t 59), none⟩,
⟨(some 61), .lit 2 1 false [(.int .i64 0)] 1 [(0, (.t 60))], none⟩,
⟨(some 62), .append 2 1 8 false (.t 58) (.t 61), none⟩,
⟨(some 8), .mov (.t 62), none⟩] [3, 4, 5, 6, 7, 8, 9]))))
 (.ops [
⟨(some 40), .mov (.t 9), none⟩,
⟨(some 41), .bin .add (.t 40) (.k (.int .i64 1)), none⟩,
⟨(some 9), .mov (.t 41), none⟩] [3, 4, 5, 6, 7, 8, 9])))
def c_joineryref15_Step_D2 : List O := [
⟨(some 82), .faddr 2 (.t 5), none⟩,
⟨(some 83), .load false 1 (.t 82), none⟩,
⟨(some 84), .mov (.t 8), none⟩,
⟨(some 85), .iaddr 1 (.t 84) (.k (.int .i64 0)), none⟩,
⟨(some 86), .load false 1 (.t 85), none⟩,
⟨(some 87), .call 64 [(.t 83), (.t 86)], none⟩,
⟨(some 81), .mov (.t 87), none⟩,
⟨(some 88), .extract (.t 81) 0, none⟩,
⟨(some 89), .extract (.t 81) 1, none⟩,
⟨(some 13), .mov (.t 88), none⟩,
⟨(some 11), .mov (.t 89), none⟩]
def c_joineryref15_Step_D3 : List O := [
⟨(some 93), .faddr 2 (.t 5), none⟩,
⟨(some 94), .load false 1 (.t 93), none⟩,
⟨(some 95), .mov (.t 8), none⟩,
⟨(some 96), .iaddr 1 (.t 95) (.k (.int .i64 0)), none⟩,
⟨(some 97), .load false 1 (.t 96), none⟩,
⟨(some 98), .mov (.t 8), none⟩,
⟨(some 99), .iaddr 1 (.t 98) (.k (.int .i64 1)), none⟩,
⟨(some 100), .load false 1 (.t 99), none⟩,
⟨(some 101), .call 65 [(.t 94), (.t 97), (.t 100)], none⟩,
⟨(some 92), .mov (.t 101), none⟩,
⟨(some 102), .extract (.t 92) 0, none⟩,
⟨(some 103), .extract (.t 92) 1, none⟩,
⟨(some 14), .mov (.t 102), none⟩,
⟨(some 15), .mov (.t 103), none⟩]
def c_joineryref15_Step_D4 : List O := [
⟨(some 127), .lit 59 3 false [(.int .i64 0), (.int .i64 0), (.int .i64 0)] 0 [], none⟩,
⟨(some 128), .faddr 4 (.t 5), none⟩,
⟨(some 129), .faddr 0 (.t 128), none⟩,
⟨(some 130), .load false 1 (.t 129), none⟩,
⟨(some 131), .append 59 3 24 false (.t 127) (.t 130), none⟩,
⟨(some 132), .faddr 1 (.t 7), none⟩,
⟨(some 133), .load false 1 (.t 132), none⟩,
⟨(some 134), .mov (.t 8), none⟩,
⟨(some 135), .iaddr 1 (.t 134) (.k (.int .i64 0)), none⟩,
⟨(some 136), .load false 1 (.t 135), none⟩,
⟨(some 137), .mov (.t 13), none⟩,
⟨(some 138), .build [(.int .i64 0), (.int .i64 0), (.int .i64 0)] [(0, 1, (.t 133)), (1, 1, (.t 136)), (2, 1, (.t 137))], none⟩,
⟨(some 139), .lit 59 3 false [(.int .i64 0), (.int .i64 0), (.int .i64 0)] 1 [(0, (.t 138))], none⟩,
⟨(some 140), .append 59 3 24 false (.t 131) (.t 139), none⟩,
⟨(some 141), .faddr 4 (.t 5), none⟩,
⟨(some 142), .faddr 0 (.t 141), none⟩,
⟨none, .store 1 (.t 142) (.t 140), none⟩]
def c_joineryref15_Step_D5 : List O := [
⟨(some 151), .mov (.t 8), none⟩,
⟨(some 152), .iaddr 1 (.t 151) (.k (.int .i64 0)), none⟩,
⟨(some 153), .load false 1 (.t 152), none⟩,
⟨(some 154), .faddr 2 (.t 5), none⟩,
⟨(some 155), .load false 1 (.t 154), none⟩,
⟨(some 156), .build [(.int .i64 0), (.int .i64 0), .nils] [(0, 1, (.k (.int .i64 1))), (1, 1, (.t 153)), (2, 1, (.t 155))], none⟩,
⟨(some 157), .faddr 4 (.t 5), none⟩,
⟨(some 158), .faddr 1 (.t 157), none⟩,
⟨none, .store 3 (.t 158) (.t 156), none⟩]
def c_joineryref15_Step_D6 : List O := [
⟨(some 66), .faddr 0 (.t 7), none⟩,
⟨(some 67), .load false 1 (.t 66), none⟩,
⟨(some 68), .mov (.t 8), none⟩,
⟨(some 69), .iaddr 1 (.t 68) (.k (.int .i64 0)), none⟩,
⟨(some 70), .load false 1 (.t 69), none⟩,
⟨(some 71), .mov (.t 8), none⟩,
⟨(some 72), .iaddr 1 (.t 71) (.k (.int .i64 1)), none⟩,
⟨(some 73), .load false 1 (.t 72), none⟩,
⟨(some 74), .call 66 [(.t 67), (.t 70), (.t 73)], none⟩,
⟨(some 65), .mov (.t 74), none⟩,
⟨(some 75), .extract (.t 65) 0, none⟩,
⟨(some 76), .extract (.t 65) 1, none⟩,
⟨(some 13), .mov (.t 75), none⟩,
⟨(some 11), .mov (.t 76), none⟩]
def c_joineryref15_Step : F := ⟨true, 3, (.seq (.ops [
⟨(some 3), .box (.t 0), none⟩,
⟨(some 4), .box (.t 1), none⟩,
⟨(some 5), .box (.t 2), none⟩,
⟨(some 6), .alloc [(.int .i64 0), .nils, .nils, (.int .i64 0), .nils, (.int .i64 0), (.int .i64 0), .nils, (.int .i64 0), (.int .i64 0)], none⟩] [3, 4, 5, 6])
 (.seq (.ops [
⟨(some 17), .faddr 1 (.t 3), none⟩,
⟨(some 18), .load false 1 (.t 17), none⟩,
⟨(some 19), .faddr 0 (.t 5), none⟩,
⟨(some 20), .load false 1 (.t 19), none⟩,
⟨(some 21), .iaddr 4 (.t 18) (.t 20), none⟩,
⟨(some 22), .load true 4 (.t 21), none⟩,
⟨(some 7), .alloc [(.int .i64 0), (.int .i64 0), .nils, .nils], none⟩,
⟨none, .store 4 (.t 7) (.t 22), none⟩] [3, 4, 5, 6, 7])
 (.seq (.ops [
⟨(some 23), .faddr 4 (.t 5), none⟩,
⟨(some 24), .faddr 4 (.t 23), none⟩,
⟨(some 25), .load false 1 (.t 24), none⟩,
⟨(some 26), .bin .add (.t 25) (.k (.int .i64 1)), none⟩,
⟨(some 27), .faddr 4 (.t 5), none⟩,
⟨(some 28), .faddr 4 (.t 27), none⟩,
⟨none, .store 1 (.t 28) (.t 26), none⟩] [3, 4, 5, 6, 7])
 (.seq (.ops [
⟨(some 29), .faddr 4 (.t 5), none⟩,
⟨(some 30), .faddr 5 (.t 29), none⟩,
⟨(some 31), .load false 1 (.t 30), none⟩,
⟨(some 32), .bin .add (.t 31) (.k (.int .i64 1)), none⟩,
⟨(some 33), .faddr 4 (.t 5), none⟩,
⟨(some 34), .faddr 5 (.t 33), none⟩,
⟨none, .store 1 (.t 34) (.t 32), none⟩] [3, 4, 5, 6, 7])
 (.seq (.ops [
⟨(some 8), .ownnil 2 1 false, none⟩] [3, 4, 5, 6, 7, 8])
 (.seq (.seq (.ops [
⟨(some 9), .mov (.k (.int .i64 0)), none⟩] [3, 4, 5, 6, 7, 8, 9])
 (.block 0 (.loop c_joineryref15_Step_L1)))
 (.seq (.ops [
⟨(some 11), .mov (.k (.int .i64 0)), none⟩,
⟨(some 12), .mov (.k (.int .i64 0)), none⟩] [3, 4, 5, 6, 7, 8, 11, 12])
 (.seq (.ops [
⟨(some 13), .mov (.k (.int .i64 0)), none⟩] [3, 4, 5, 6, 7, 8, 11, 12, 13])
 (.seq (.seq (.ops [
⟨(some 63), .faddr 0 (.t 7), none⟩,
⟨(some 64), .load false 1 (.t 63), none⟩] [3, 4, 5, 6, 7, 8, 11, 12, 13, 64])
 (.block 2 (.seq (.ops [
⟨(some 78), .bin .eql (.t 64) (.k (.int .i64 0)), none⟩,
⟨(some 77), .mov (.t 78), none⟩] [3, 4, 5, 6, 7, 8, 11, 12, 13, 64, 77])
 (.cond (.t 77) (.ops [
⟨(some 11), .mov (.k (.int .i64 2)), none⟩] [3, 4, 5, 6, 7, 11, 12, 13])
 (.seq (.ops [
⟨(some 80), .bin .eql (.t 64) (.k (.int .i64 13)), none⟩,
⟨(some 79), .mov (.t 80), none⟩] [3, 4, 5, 6, 7, 8, 11, 12, 13, 64, 79])
 (.cond (.t 79) (.opsD c_joineryref15_Step_D2 [0, 1, 0, 4, 12, 31, 63, 127, 127, 255, 1023] [3, 4, 5, 6, 7, 11, 12, 13])
 (.seq (.ops [
⟨(some 91), .bin .eql (.t 64) (.k (.int .i64 14)), none⟩,
⟨(some 90), .mov (.t 91), none⟩] [3, 4, 5, 6, 7, 8, 11, 12, 13, 64, 90])
 (.cond (.t 90) (.seq (.opsD c_joineryref15_Step_D3 [0, 1, 0, 4, 12, 0, 32, 96, 255, 511, 1023, 1023, 2047, 8191] [3, 4, 5, 6, 7, 12, 13, 14, 15])
 (.seq (.ops [
⟨(some 104), .mov (.t 15), none⟩,
⟨(some 11), .mov (.t 104), none⟩] [3, 4, 5, 6, 7, 11, 12, 13, 14, 15])
 (.seq (.ops [
⟨(some 105), .mov (.t 15), none⟩,
⟨(some 106), .bin .eql (.t 105) (.k (.int .i64 0)), none⟩] [3, 4, 5, 6, 7, 11, 12, 13, 14, 106])
 (.cond (.t 106) (.ops [
⟨(some 107), .mov (.t 14), none⟩,
⟨(some 108), .faddr 2 (.t 5), none⟩,
⟨none, .store 1 (.t 108) (.t 107), none⟩] [3, 4, 5, 6, 7, 11, 12, 13])
 .skip))))
 (.seq (.ops [
⟨(some 110), .bin .eql (.t 64) (.k (.int .i64 15)), none⟩,
⟨(some 109), .mov (.t 110), none⟩] [3, 4, 5, 6, 7, 8, 11, 12, 13, 64, 109])
 (.cond (.t 109) (.seq (.ops [
⟨(some 11), .mov (.k (.int .i64 5)), none⟩] [3, 4, 5, 6, 7, 8, 11, 12, 13])
 (.seq (.ops [
⟨(some 111), .faddr 3 (.t 5), none⟩,
⟨(some 112), .load false 1 (.t 111), none⟩,
⟨(some 113), .faddr 9 (.t 4), none⟩,
⟨(some 114), .load false 1 (.t 113), none⟩,
⟨(some 115), .len 0 (.t 114), none⟩,
⟨(some 116), .bin .lss (.t 112) (.t 115), none⟩] [3, 4, 5, 6, 7, 8, 11, 12, 13, 116])
 (.cond (.t 116) (.seq (.ops [
⟨(some 11), .mov (.k (.int .i64 0)), none⟩] [3, 4, 5, 6, 7, 8, 11, 12])
 (.seq (.ops [
⟨(some 117), .faddr 9 (.t 4), none⟩,
⟨(some 118), .load false 1 (.t 117), none⟩,
⟨(some 119), .faddr 3 (.t 5), none⟩,
⟨(some 120), .load false 1 (.t 119), none⟩,
⟨(some 121), .iaddr 1 (.t 118) (.t 120), none⟩,
⟨(some 122), .load false 1 (.t 121), none⟩,
⟨(some 13), .mov (.t 122), none⟩] [3, 4, 5, 6, 7, 8, 11, 12, 13])
 (.seq (.ops [
⟨(some 123), .faddr 3 (.t 5), none⟩,
⟨(some 124), .load false 1 (.t 123), none⟩,
⟨(some 125), .bin .add (.t 124) (.k (.int .i64 1)), none⟩,
⟨(some 126), .faddr 3 (.t 5), none⟩,
⟨none, .store 1 (.t 126) (.t 125), none⟩] [3, 4, 5, 6, 7, 8, 11, 12, 13])
 (.opsD c_joineryref15_Step_D4 [0, 0, 2, 6, 15, 0, 32, 0, 128, 384, 0, 2016, 4064, 8191, 16383, 32767, 65535] [3, 4, 5, 6, 7, 11, 12, 13]))))
 .skip)))
 (.seq (.ops [
⟨(some 144), .bin .eql (.t 64) (.k (.int .i64 17)), none⟩,
⟨(some 143), .mov (.t 144), none⟩] [3, 4, 5, 6, 7, 8, 11, 12, 13, 64, 143])
 (.cond (.t 143) (.seq (.ops [
⟨(some 145), .mov (.t 8), none⟩,
⟨(some 146), .iaddr 1 (.t 145) (.k (.int .i64 0)), none⟩,
⟨(some 147), .load false 1 (.t 146), none⟩,
⟨(some 148), .bin .neq (.t 147) (.k (.int .i64 0)), none⟩] [3, 4, 5, 6, 7, 11, 12, 13, 148])
 (.cond (.t 148) (.ops [
⟨(some 12), .mov (.k (.int .i64 1)), none⟩] [3, 4, 5, 6, 7, 11, 12, 13])
 .skip))
 (.seq (.ops [
⟨(some 150), .bin .eql (.t 64) (.k (.int .i64 18)), none⟩,
⟨(some 149), .mov (.t 150), none⟩] [3, 4, 5, 6, 7, 8, 12, 149])
 (.cond (.t 149) (.seq (.opsD c_joineryref15_Step_D5 [0, 1, 3, 0, 8, 31, 63, 127, 255] [5, 6])
 (.seq (.ops [
⟨(some 159), .load true 10 (.t 5), none⟩,
⟨none, .store 10 (.t 6) (.t 159), none⟩] [6])
 .ret))
 (.opsD c_joineryref15_Step_D6 [0, 1, 0, 4, 12, 0, 32, 96, 255, 511, 1023, 1023, 2047, 8191] [3, 4, 5, 6, 7, 11, 12, 13])))))))))))))))
 (.seq (.seq (.ops [
⟨(some 160), .mov (.t 11), none⟩,
⟨(some 161), .bin .neq (.t 160) (.k (.int .i64 0)), none⟩] [3, 4, 5, 6, 7, 11, 12, 13, 161])
 (.cond (.t 161) (.seq (.ops [
⟨(some 162), .mov (.t 11), none⟩,
⟨(some 163), .build [(.int .i64 0), (.int .i64 0), .nils] [(0, 1, (.t 162))], none⟩,
⟨(some 164), .faddr 4 (.t 5), none⟩,
⟨(some 165), .faddr 1 (.t 164), none⟩,
⟨none, .store 3 (.t 165) (.t 163), none⟩] [5, 6])
 (.seq (.ops [
⟨(some 166), .load true 10 (.t 5), none⟩,
⟨none, .store 10 (.t 6) (.t 166), none⟩] [6])
 .ret))
 .skip))
 (.seq (.ops [
⟨(some 167), .faddr 0 (.t 5), none⟩,
⟨(some 168), .load false 1 (.t 167), none⟩,
⟨(some 16), .mov (.t 168), none⟩] [3, 4, 5, 6, 7, 12, 13, 16])
 (.seq (.ops [
⟨(some 169), .faddr 3 (.t 7), none⟩,
⟨(some 170), .load false 1 (.t 169), none⟩,
⟨(some 171), .mov (.t 12), none⟩,
⟨(some 172), .iaddr 1 (.t 170) (.t 171), none⟩,
⟨(some 173), .load false 1 (.t 172), none⟩,
⟨(some 174), .faddr 0 (.t 5), none⟩,
⟨none, .store 1 (.t 174) (.t 173), none⟩] [3, 4, 5, 6, 12, 13, 16])
 (.seq (.ops [
⟨(some 175), .load true 3 (.t 3), none⟩,
⟨(some 176), .load true 11 (.t 4), none⟩,
⟨(some 177), .faddr 1 (.t 5), none⟩,
⟨(some 178), .load false 1 (.t 177), none⟩,
⟨(some 179), .mov (.t 13), none⟩,
⟨(some 180), .mov (.t 16), none⟩,
⟨(some 181), .mov (.t 12), none⟩,
⟨(some 182), .faddr 0 (.t 5), none⟩,
⟨(some 183), .load false 1 (.t 182), none⟩,
⟨(some 184), .call 62 [(.t 175), (.t 176), (.t 178), (.t 179), (.t 180), (.t 181), (.t 183)], none⟩,
⟨(some 185), .faddr 1 (.t 5), none⟩,
⟨none, .store 1 (.t 185) (.t 184), none⟩] [5, 6])
 (.seq (.ops [
⟨(some 186), .load true 10 (.t 5), none⟩,
⟨none, .store 10 (.t 6) (.t 186), none⟩] [6])
 .ret)))))))))))))), [.cell 6 true 10]⟩
abbrev n_joineryref15_Step : Nat := 26
def c_asm_Right : F := ⟨true, 1, (.seq (.ops [
⟨(some 2), .mov (.k (.bool false)), none⟩] [0])
 (.seq (.ops [
⟨(some 6), .mov (.t 0), none⟩,
⟨(some 7), .call 45 [(.t 6)], none⟩,
⟨(some 5), .mov (.t 7), none⟩,
⟨(some 8), .extract (.t 5) 0, none⟩,
⟨(some 9), .extract (.t 5) 1, none⟩,
⟨(some 3), .mov (.t 8), none⟩,
⟨(some 4), .mov (.t 9), none⟩] [4])
 (.seq (.ops [
⟨(some 10), .mov (.t 4), none⟩,
⟨(some 11), .bin .eql (.t 10) (.k (.int .i64 0)), none⟩,
⟨(some 2), .mov (.t 11), none⟩] [2])
 .ret))), [.tmp 2]⟩
abbrev n_asm_Right : Nat := 28
def c_ins_Moves : F := ⟨true, 1, (.seq (.ops [
⟨(some 1), .box (.t 0), none⟩,
⟨(some 2), .mov (.k (.bool false)), none⟩] [1])
 (.seq (.ops [
⟨(some 3), .faddr 0 (.t 1), none⟩,
⟨(some 4), .load false 1 (.t 3), none⟩,
⟨(some 5), .bin .eql (.t 4) (.k (.int .i64 1)), none⟩,
⟨(some 6), .mov (.t 5), none⟩,
⟨(some 7), .faddr 0 (.t 1), (some (6, false))⟩,
⟨(some 8), .load false 1 (.t 7), (some (6, false))⟩,
⟨(some 9), .bin .eql (.t 8) (.k (.int .i64 2)), (some (6, false))⟩,
⟨(some 10), .pick (.t 6) (.k (.bool true)) (.t 9), none⟩,
⟨(some 11), .mov (.t 10), none⟩,
⟨(some 12), .faddr 0 (.t 1), (some (11, false))⟩,
⟨(some 13), .load false 1 (.t 12), (some (11, false))⟩,
⟨(some 14), .bin .eql (.t 13) (.k (.int .i64 3)), (some (11, false))⟩,
⟨(some 15), .pick (.t 11) (.k (.bool true)) (.t 14), none⟩,
⟨(some 16), .mov (.t 15), none⟩,
⟨(some 17), .faddr 0 (.t 1), (some (16, false))⟩,
⟨(some 18), .load false 1 (.t 17), (some (16, false))⟩,
⟨(some 19), .bin .eql (.t 18) (.k (.int .i64 16)), (some (16, false))⟩,
⟨(some 20), .pick (.t 16) (.k (.bool true)) (.t 19), none⟩,
⟨(some 2), .mov (.t 20), none⟩] [2])
 .ret)), [.tmp 2]⟩
abbrev n_ins_Moves : Nat := 30
def c_value_Cut_L0 : C := (.seq (.ops [
⟨(some 45), .bin .lss (.t 44) (.t 43), none⟩] [0, 4, 5, 8, 9, 10, 30, 31, 32, 42, 43, 44, 45])
 (.seq (.cond (.t 45) .skip
 (.exit 4))
 (.seq (.block 5 (.seq (.ops [
⟨(some 46), .iaddr 1 (.t 42) (.t 44), none⟩,
⟨(some 47), .load false 1 (.t 46), none⟩,
⟨(some 12), .mov (.t 47), none⟩] [0, 4, 5, 8, 9, 10, 12, 30, 31, 32, 42, 43, 44])
 (.seq (.ops [
⟨(some 48), .mov (.t 4), none⟩,
⟨(some 49), .faddr 0 (.t 10), none⟩,
⟨(some 50), .load false 1 (.t 49), none⟩,
⟨(some 51), .iaddr 1 (.t 48) (.t 50), none⟩,
⟨(some 52), .load false 1 (.t 51), none⟩,
⟨(some 53), .un .not (.t 52), none⟩,
⟨(some 54), .mov (.t 53), none⟩,
⟨(some 55), .mov (.t 8), (some (54, true))⟩,
⟨(some 56), .mov (.t 9), (some (54, true))⟩,
⟨(some 57), .iaddr 1 (.t 55) (.t 56), (some (54, true))⟩,
⟨(some 58), .load false 1 (.t 57), (some (54, true))⟩,
⟨(some 59), .mov (.t 12), (some (54, true))⟩,
⟨(some 60), .iaddr 2 (.t 58) (.t 59), (some (54, true))⟩,
⟨(some 61), .faddr 0 (.t 60), (some (54, true))⟩,
⟨(some 62), .load false 1 (.t 61), (some (54, true))⟩,
⟨(some 63), .bin .eql (.t 62) (.k (.int .i64 0)), (some (54, true))⟩,
⟨(some 64), .pick (.t 54) (.t 63) (.k (.bool false)), none⟩] [0, 4, 5, 8, 9, 10, 30, 31, 32, 42, 43, 44, 64])
 (.cond (.t 64) (.ops [
⟨(some 65), .mov (.t 4), none⟩,
⟨(some 66), .faddr 0 (.t 10), none⟩,
⟨(some 67), .load false 1 (.t 66), none⟩,
⟨(some 68), .iaddr 1 (.t 65) (.t 67), none⟩,
⟨none, .store 1 (.t 68) (.k (.bool true)), none⟩,
⟨(some 5), .mov (.k (.bool true)), none⟩] [0, 4, 5, 8, 9, 10, 30, 31, 32, 42, 43, 44])
 .skip))))
 (.ops [
⟨(some 69), .bin .add (.t 44) (.k (.int .i64 1)), none⟩,
⟨(some 44), .mov (.t 69), none⟩] [0, 4, 5, 8, 9, 10, 30, 31, 32, 42, 43, 44]))))
def c_value_Cut_L1 : C := (.seq (.ops [
⟨(some 33), .bin .lss (.t 32) (.t 31), none⟩] [0, 4, 5, 8, 30, 31, 32, 33])
 (.seq (.cond (.t 33) .skip
 (.exit 2))
 (.seq (.block 3 (.seq (.ops [
⟨(some 34), .mov (.t 32), none⟩,
⟨(some 35), .iaddr 2 (.t 30) (.t 32), none⟩,
⟨(some 36), .load true 2 (.t 35), none⟩,
⟨(some 10), .alloc [(.int .i64 0), .nils], none⟩,
⟨(some 9), .mov (.t 34), none⟩,
⟨none, .store 2 (.t 10) (.t 36), none⟩] [0, 4, 5, 8, 9, 10, 30, 31, 32])
 (.seq (.ops [
⟨(some 37), .mov (.t 0), none⟩,
⟨(some 38), .faddr 0 (.t 10), none⟩,
⟨(some 39), .load false 1 (.t 38), none⟩,
⟨(some 40), .iaddr 6 (.t 37) (.t 39), none⟩,
⟨(some 41), .load true 6 (.t 40), none⟩,
⟨(some 42), .call 40 [(.t 41)], none⟩,
⟨(some 43), .len 0 (.t 42), none⟩,
⟨(some 44), .mov (.k (.int .i64 0)), none⟩] [0, 4, 5, 8, 9, 10, 30, 31, 32, 42, 43, 44])
 (.block 4 (.loop c_value_Cut_L0)))))
 (.ops [
⟨(some 70), .bin .add (.t 32) (.k (.int .i64 1)), none⟩,
⟨(some 32), .mov (.t 70), none⟩] [0, 4, 5, 8, 30, 31, 32]))))
def c_value_Cut_L2 : C := (.seq (.seq (.ops [
⟨(some 19), .mov (.t 5), none⟩] [0, 4, 19])
 (.cond (.t 19) .skip
 (.exit 0)))
 (.block 1 (.seq (.ops [
⟨(some 5), .mov (.k (.bool false)), none⟩] [0, 4, 5])
 (.seq (.ops [
⟨(some 21), .mov (.t 0), none⟩,
⟨(some 22), .mov (.t 4), none⟩,
⟨(some 23), .call 33 [(.t 21), (.t 22)], none⟩,
⟨(some 20), .mov (.t 23), none⟩,
⟨(some 24), .extract (.t 20) 0, none⟩,
⟨(some 25), .extract (.t 20) 1, none⟩,
⟨(some 6), .alloc [(.int .i64 0), .nilI, .nilI, .nilI, .nilI, .nilI, .nilI, .nilI, .nilI, .nilI, .nilI, .nilI, .nilI, .nilI, .nilI, .nilI, .nilI, .nilI, .nilI, .nilI, .nilI, .nilI, .nilI, .nilI, .nilI, .nils], none⟩,
⟨none, .store 26 (.t 6) (.t 24), none⟩,
⟨(some 7), .mov (.t 25), none⟩] [0, 4, 5, 6])
 (.seq (.ops [
⟨(some 26), .mov (.t 0), none⟩,
⟨(some 27), .load true 26 (.t 6), none⟩,
⟨(some 28), .call 34 [(.t 26), (.t 27)], none⟩,
⟨(some 8), .mov (.t 28), none⟩] [0, 4, 5, 6, 8])
 (.seq (.ops [
⟨(some 29), .faddr 25 (.t 6), none⟩,
⟨(some 30), .load false 1 (.t 29), none⟩,
⟨(some 31), .len 0 (.t 30), none⟩,
⟨(some 32), .mov (.k (.int .i64 0)), none⟩] [0, 4, 5, 8, 30, 31, 32])
 (.block 2 (.loop c_value_Cut_L1))))))))
def c_value_Cut : F := ⟨true, 1, (.seq (.ops [
⟨(some 2), .mov (.k .nils), none⟩,
⟨(some 3), .mov (.k (.int .i64 0)), none⟩] [0])
 (.seq (.seq (.ops [
⟨(some 13), .mov (.t 0), none⟩,
⟨(some 14), .call 28 [(.t 13)], none⟩,
⟨(some 15), .un .not (.t 14), none⟩] [0, 15])
 (.cond (.t 15) (.seq (.ops [
⟨(some 2), .mov (.k .nils), none⟩,
⟨(some 3), .mov (.k (.int .i64 1)), none⟩] [2, 3])
 .ret)
 .skip))
 (.seq (.ops [
⟨(some 16), .mov (.t 0), none⟩,
⟨(some 17), .len 0 (.t 16), none⟩,
⟨(some 18), .mkslice 4 1 1 false [(.bool false)] (.t 17), none⟩,
⟨(some 4), .mov (.t 18), none⟩] [0, 4])
 (.seq (.seq (.ops [
⟨(some 5), .mov (.k (.bool true)), none⟩] [0, 4, 5])
 (.block 0 (.loop c_value_Cut_L2)))
 (.seq (.ops [
⟨(some 71), .mov (.t 4), none⟩,
⟨(some 2), .mov (.t 71), none⟩,
⟨(some 3), .mov (.k (.int .i64 0)), none⟩] [2, 3])
 .ret))))), [.tmp 2, .tmp 3]⟩
abbrev n_value_Cut : Nat := 32
def c_skel_Build_L0 : C := (.seq (.ops [
⟨(some 54), .bin .lss (.t 53) (.t 52), none⟩] [1, 2, 4, 6, 8, 9, 11, 51, 52, 53, 54])
 (.seq (.cond (.t 54) .skip
 (.exit 2))
 (.seq (.block 3 (.seq (.ops [
⟨(some 55), .iaddr 1 (.t 51) (.t 53), none⟩,
⟨(some 56), .load false 1 (.t 55), none⟩,
⟨(some 13), .mov (.t 56), none⟩] [1, 2, 4, 6, 8, 9, 11, 13, 51, 52, 53])
 (.ops [
⟨(some 57), .mov (.t 11), none⟩,
⟨(some 58), .mov (.t 8), none⟩,
⟨(some 59), .mov (.t 13), none⟩,
⟨(some 60), .callv (.t 58) [(.t 59)], none⟩,
⟨(some 61), .lit 95 25 false [(.int .i64 0), .nilI, .nilI, .nilI, .nilI, .nilI, .nilI, .nilI, .nilI, .nilI, .nilI, .nilI, .nilI, .nilI, .nilI, .nilI, .nilI, .nilI, .nilI, .nilI, .nilI, .nilI, .nilI, .nilI, .nilI] 1 [(0, (.t 60))], none⟩,
⟨(some 62), .append 95 25 392 false (.t 57) (.t 61), none⟩,
⟨(some 11), .mov (.t 62), none⟩] [1, 2, 4, 6, 8, 9, 11, 51, 52, 53])))
 (.ops [
⟨(some 63), .bin .add (.t 53) (.k (.int .i64 1)), none⟩,
⟨(some 53), .mov (.t 63), none⟩] [1, 2, 4, 6, 8, 9, 11, 51, 52, 53]))))
def c_skel_Build_L1 : C := (.seq (.seq (.ops [
⟨(some 23), .mov (.t 9), none⟩,
⟨(some 24), .faddr 25 (.t 6), none⟩,
⟨(some 25), .load false 1 (.t 24), none⟩,
⟨(some 26), .len 0 (.t 25), none⟩,
⟨(some 27), .bin .lss (.t 23) (.t 26), none⟩] [1, 2, 4, 6, 8, 9, 27])
 (.cond (.t 27) .skip
 (.exit 0)))
 (.seq (.block 1 (.seq (.ops [
⟨(some 30), .faddr 25 (.t 6), none⟩,
⟨(some 31), .load false 1 (.t 30), none⟩,
⟨(some 32), .mov (.t 9), none⟩,
⟨(some 33), .iaddr 2 (.t 31) (.t 32), none⟩,
⟨(some 34), .faddr 0 (.t 33), none⟩,
⟨(some 35), .load false 1 (.t 34), none⟩,
⟨(some 10), .mov (.t 35), none⟩] [1, 2, 4, 6, 8, 9, 10])
 (.seq (.seq (.ops [
⟨(some 36), .mov (.t 10), none⟩,
⟨(some 37), .mov (.t 1), none⟩,
⟨(some 38), .len 0 (.t 37), none⟩,
⟨(some 39), .bin .lss (.t 36) (.t 38), none⟩,
⟨(some 40), .mov (.t 39), none⟩,
⟨(some 41), .mov (.t 1), (some (40, true))⟩,
⟨(some 42), .mov (.t 10), (some (40, true))⟩,
⟨(some 43), .iaddr 1 (.t 41) (.t 42), (some (40, true))⟩,
⟨(some 44), .load false 1 (.t 43), (some (40, true))⟩,
⟨(some 45), .pick (.t 40) (.t 44) (.k (.bool false)), none⟩] [1, 2, 4, 6, 8, 9, 10, 45])
 (.cond (.t 45) (.exit 1)
 .skip))
 (.seq (.ops [
⟨(some 11), .ownnil 95 25 false, none⟩] [1, 2, 4, 6, 8, 9, 10, 11])
 (.seq (.seq (.ops [
⟨(some 46), .load false 1 (.t 2), none⟩,
⟨(some 47), .mov (.t 10), none⟩,
⟨(some 48), .iaddr 6 (.t 46) (.t 47), none⟩,
⟨(some 49), .load true 6 (.t 48), none⟩,
⟨(some 50), .mov (.t 10), none⟩,
⟨(some 51), .call 73 [(.t 49), (.t 50)], none⟩,
⟨(some 52), .len 0 (.t 51), none⟩,
⟨(some 53), .mov (.k (.int .i64 0)), none⟩] [1, 2, 4, 6, 8, 9, 11, 51, 52, 53])
 (.block 2 (.loop c_skel_Build_L0)))
 (.ops [
⟨(some 64), .faddr 25 (.t 6), none⟩,
⟨(some 65), .load false 1 (.t 64), none⟩,
⟨(some 66), .mov (.t 9), none⟩,
⟨(some 67), .mov (.t 11), none⟩,
⟨(some 68), .iaddr 2 (.t 65) (.t 66), none⟩,
⟨(some 69), .faddr 1 (.t 68), none⟩,
⟨none, .store 1 (.t 69) (.t 67), none⟩] [1, 2, 4, 6, 8, 9]))))))
 (.ops [
⟨(some 28), .mov (.t 9), none⟩,
⟨(some 29), .bin .add (.t 28) (.k (.int .i64 1)), none⟩,
⟨(some 9), .mov (.t 29), none⟩] [1, 2, 4, 6, 8, 9])))
def c_skel_Build : F := ⟨true, 2, (.seq (.ops [
⟨(some 2), .box (.t 0), none⟩,
⟨(some 4), .alloc [(.int .i64 0), .nilI, .nilI, .nilI, .nilI, .nilI, .nilI, .nilI, .nilI, .nilI, .nilI, .nilI, .nilI, .nilI, .nilI, .nilI, .nilI, .nilI, .nilI, .nilI, .nilI, .nilI, .nilI, .nilI, .nilI, .nils], none⟩,
⟨(some 5), .mov (.k (.int .i64 0)), none⟩] [1, 2, 4])
 (.seq (.seq (.ops [
⟨(some 14), .load false 1 (.t 2), none⟩,
⟨(some 15), .call 28 [(.t 14)], none⟩,
⟨(some 16), .un .not (.t 15), none⟩] [1, 2, 4, 16])
 (.cond (.t 16) (.seq (.ops [
⟨(some 17), .build [(.int .i64 0), .nilI, .nilI, .nilI, .nilI, .nilI, .nilI, .nilI, .nilI, .nilI, .nilI, .nilI, .nilI, .nilI, .nilI, .nilI, .nilI, .nilI, .nilI, .nilI, .nilI, .nilI, .nilI, .nilI, .nilI, .nils] [], none⟩,
⟨none, .store 26 (.t 4) (.t 17), none⟩,
⟨(some 5), .mov (.k (.int .i64 1)), none⟩] [4, 5])
 .ret)
 .skip))
 (.seq (.ops [
⟨(some 6), .allocOwn [(.int .i64 0), .nilI, .nilI, .nilI, .nilI, .nilI, .nilI, .nilI, .nilI, .nilI, .nilI, .nilI, .nilI, .nilI, .nilI, .nilI, .nilI, .nilI, .nilI, .nilI, .nilI, .nilI, .nilI, .nilI, .nilI, .nils] [(25, 117, 2, false)], none⟩] [1, 2, 4, 6])
 (.seq (.ops [
⟨(some 18), .mkmap, none⟩,
⟨(some 7), .alloc [.nilm], none⟩,
⟨none, .store 1 (.t 7) (.t 18), none⟩] [1, 2, 4, 6, 7])
 (.seq (.ops [
⟨(some 19), .mkfn 71 [(.t 2), (.t 7), (.t 6)], none⟩,
⟨(some 8), .mov (.t 19), none⟩] [1, 2, 4, 6, 8])
 (.seq (.ops [
⟨(some 20), .mov (.t 8), none⟩,
⟨(some 21), .callv (.t 20) [(.k (.int .i64 0))], none⟩,
⟨(some 22), .faddr 0 (.t 6), none⟩,
⟨none, .store 25 (.t 22) (.t 21), none⟩] [1, 2, 4, 6, 8])
 (.seq (.seq (.ops [
⟨(some 9), .mov (.k (.int .i64 0)), none⟩] [1, 2, 4, 6, 8, 9])
 (.block 0 (.loop c_skel_Build_L1)))
 (.seq (.ops [
⟨(some 70), .load true 26 (.t 6), none⟩,
⟨none, .store 26 (.t 4) (.t 70), none⟩,
⟨(some 5), .mov (.k (.int .i64 0)), none⟩] [4, 5])
 .ret)))))))), [.cell 4 true 26, .tmp 5]⟩
abbrev n_skel_Build : Nat := 33
def c_value_Facts_D0 : List O := [
⟨(some 29), .load false 1 (.t 5), none⟩,
⟨(some 30), .mov (.t 6), none⟩,
⟨(some 31), .load false 1 (.t 5), none⟩,
⟨(some 32), .mov (.t 6), none⟩,
⟨(some 33), .iaddr 1 (.t 31) (.t 32), none⟩,
⟨(some 34), .load false 1 (.t 33), none⟩,
⟨(some 35), .load true 2 (.k (.fp gl_0)), none⟩,
⟨(some 36), .lit 113 2 false [(.int .i64 0), (.int .i64 0)] 1 [(0, (.t 35))], none⟩,
⟨(some 37), .append 113 2 16 false (.t 34) (.t 36), none⟩,
⟨(some 38), .iaddr 1 (.t 29) (.t 30), none⟩,
⟨none, .store 1 (.t 38) (.t 37), none⟩]
def c_value_Facts_L1 : C := (.seq (.ops [
⟨(some 28), .bin .lss (.t 27) (.k (.int .i64 24)), none⟩] [0, 3, 5, 6, 23, 24, 27, 28])
 (.seq (.cond (.t 28) .skip
 (.exit 2))
 (.seq (.block 3 (.opsD c_value_Facts_D0 [0, 0, 0, 0, 12, 28, 0, 64, 252, 511, 1023] [0, 3, 5, 6, 23, 24, 27]))
 (.ops [
⟨(some 39), .bin .add (.t 27) (.k (.int .i64 1)), none⟩,
⟨(some 27), .mov (.t 39), none⟩] [0, 3, 5, 6, 23, 24, 27]))))
def c_value_Facts_L2 : C := (.seq (.ops [
⟨(some 25), .bin .lss (.t 24) (.t 23), none⟩] [0, 3, 5, 23, 24, 25])
 (.seq (.cond (.t 25) .skip
 (.exit 0))
 (.seq (.block 1 (.seq (.ops [
⟨(some 26), .mov (.t 24), none⟩,
⟨(some 6), .mov (.t 26), none⟩] [0, 3, 5, 6, 23, 24])
 (.seq (.ops [
⟨(some 27), .mov (.k (.int .i64 0)), none⟩] [0, 3, 5, 6, 23, 24, 27])
 (.block 2 (.loop c_value_Facts_L1)))))
 (.ops [
⟨(some 40), .bin .add (.t 24) (.k (.int .i64 1)), none⟩,
⟨(some 24), .mov (.t 40), none⟩] [0, 3, 5, 23, 24]))))
def c_value_Facts_D3 : List O := [
⟨(some 41), .load true 26 (.t 3), none⟩,
⟨(some 42), .call 36 [(.t 41)], none⟩,
⟨(some 43), .mov (.t 0), none⟩,
⟨(some 44), .load true 26 (.t 3), none⟩,
⟨(some 45), .call 35 [(.t 43), (.t 44)], none⟩,
⟨(some 7), .alloc [.nils], none⟩,
⟨(some 8), .alloc [.nils], none⟩,
⟨none, .store 1 (.t 7) (.t 42), none⟩,
⟨none, .store 1 (.t 8) (.t 45), none⟩]
def c_value_Facts_D4 : List O := [
⟨(some 60), .load true 2 (.t 13), none⟩,
⟨(some 61), .load false 1 (.t 5), none⟩,
⟨(some 62), .mov (.t 11), none⟩,
⟨(some 63), .iaddr 1 (.t 61) (.t 62), none⟩,
⟨(some 64), .load false 1 (.t 63), none⟩,
⟨(some 65), .mov (.t 12), none⟩,
⟨(some 66), .iaddr 2 (.t 64) (.t 65), none⟩,
⟨(some 67), .load true 2 (.t 66), none⟩,
⟨(some 68), .eq true (.tst [(1, .ti), (1, .ti)]) (.t 60) (.t 67), none⟩]
def c_value_Facts_D5 : List O := [
⟨(some 69), .load false 1 (.t 5), none⟩,
⟨(some 70), .mov (.t 11), none⟩,
⟨(some 71), .iaddr 1 (.t 69) (.t 70), none⟩,
⟨(some 72), .load false 1 (.t 71), none⟩,
⟨(some 73), .mov (.t 12), none⟩,
⟨(some 74), .load true 2 (.t 13), none⟩,
⟨(some 75), .iaddr 2 (.t 72) (.t 73), none⟩,
⟨none, .store 2 (.t 75) (.t 74), none⟩,
⟨(some 10), .mov (.k (.bool true)), none⟩]
def c_value_Facts_L6 : C := (.seq (.ops [
⟨(some 54), .bin .lss (.t 53) (.k (.int .i64 24)), none⟩] [5, 9, 10, 11, 49, 50, 53, 54])
 (.seq (.cond (.t 54) .skip
 (.exit 8))
 (.seq (.block 9 (.seq (.ops [
⟨(some 55), .mov (.t 53), none⟩,
⟨(some 12), .mov (.t 55), none⟩] [5, 9, 10, 11, 12, 49, 50, 53])
 (.seq (.ops [
⟨(some 56), .mov (.t 9), none⟩,
⟨(some 57), .mov (.t 11), none⟩,
⟨(some 58), .mov (.t 12), none⟩,
⟨(some 59), .callv (.t 56) [(.t 57), (.t 58)], none⟩,
⟨(some 13), .alloc [(.int .i64 0), (.int .i64 0)], none⟩,
⟨none, .store 2 (.t 13) (.t 59), none⟩] [5, 9, 10, 11, 12, 13, 49, 50, 53])
 (.seq (.opsD c_value_Facts_D4 [0, 0, 0, 6, 14, 0, 62, 126, 255] [5, 9, 10, 11, 12, 13, 49, 50, 53, 68])
 (.cond (.t 68) (.opsD c_value_Facts_D5 [0, 0, 3, 7, 0, 0, 63, 127, 255] [5, 9, 10, 11, 49, 50, 53])
 .skip)))))
 (.ops [
⟨(some 76), .bin .add (.t 53) (.k (.int .i64 1)), none⟩,
⟨(some 53), .mov (.t 76), none⟩] [5, 9, 10, 11, 49, 50, 53]))))
def c_value_Facts_L7 : C := (.seq (.ops [
⟨(some 51), .bin .lss (.t 50) (.t 49), none⟩] [5, 9, 10, 49, 50, 51])
 (.seq (.cond (.t 51) .skip
 (.exit 6))
 (.seq (.block 7 (.seq (.ops [
⟨(some 52), .mov (.t 50), none⟩,
⟨(some 11), .mov (.t 52), none⟩] [5, 9, 10, 11, 49, 50])
 (.seq (.ops [
⟨(some 53), .mov (.k (.int .i64 0)), none⟩] [5, 9, 10, 11, 49, 50, 53])
 (.block 8 (.loop c_value_Facts_L6)))))
 (.ops [
⟨(some 77), .bin .add (.t 50) (.k (.int .i64 1)), none⟩,
⟨(some 50), .mov (.t 77), none⟩] [5, 9, 10, 49, 50]))))
def c_value_Facts_L8 : C := (.seq (.seq (.ops [
⟨(some 47), .mov (.t 10), none⟩] [5, 9, 47])
 (.cond (.t 47) .skip
 (.exit 4)))
 (.block 5 (.seq (.ops [
⟨(some 10), .mov (.k (.bool false)), none⟩] [5, 9, 10])
 (.seq (.ops [
⟨(some 48), .load false 1 (.t 5), none⟩,
⟨(some 49), .len 0 (.t 48), none⟩,
⟨(some 50), .mov (.k (.int .i64 0)), none⟩] [5, 9, 10, 49, 50])
 (.block 6 (.loop c_value_Facts_L7))))))
def c_value_Facts : F := ⟨true, 2, (.seq (.ops [
⟨(some 3), .box (.t 1), none⟩,
⟨(some 4), .mov (.k .nils), none⟩] [0, 3])
 (.seq (.seq (.ops [
⟨(some 14), .mov (.t 0), none⟩,
⟨(some 15), .load true 26 (.t 3), none⟩,
⟨(some 16), .call 74 [(.t 14), (.t 15)], none⟩,
⟨(some 17), .un .not (.t 16), none⟩] [0, 3, 17])
 (.cond (.t 17) (.seq (.ops [
⟨(some 4), .mov (.k .nils), none⟩] [4])
 .ret)
 .skip))
 (.seq (.ops [
⟨(some 18), .faddr 25 (.t 3), none⟩,
⟨(some 19), .load false 1 (.t 18), none⟩,
⟨(some 20), .len 0 (.t 19), none⟩,
⟨(some 21), .mkslice 73 1 24 true [.nils] (.t 20), none⟩,
⟨(some 5), .alloc [.nils], none⟩,
⟨none, .store 1 (.t 5) (.t 21), none⟩] [0, 3, 5])
 (.seq (.seq (.ops [
⟨(some 22), .load false 1 (.t 5), none⟩,
⟨(some 23), .len 0 (.t 22), none⟩,
⟨(some 24), .mov (.k (.int .i64 0)), none⟩] [0, 3, 5, 23, 24])
 (.block 0 (.loop c_value_Facts_L2)))
 (.seq (.opsD c_value_Facts_D3 [0, 1, 0, 0, 15, 0, 0, 127, 255] [5, 7, 8])
 (.seq (.ops [
⟨(some 46), .mkfn 75 [(.t 7), (.t 8), (.t 5)], none⟩,
⟨(some 9), .mov (.t 46), none⟩] [5, 9])
 (.seq (.seq (.ops [
⟨(some 10), .mov (.k (.bool true)), none⟩] [5, 9, 10])
 (.block 4 (.loop c_value_Facts_L8)))
 (.seq (.ops [
⟨(some 78), .load false 1 (.t 5), none⟩,
⟨(some 4), .mov (.t 78), none⟩] [4])
 .ret)))))))), [.tmp 4]⟩
abbrev n_value_Facts : Nat := 34
def c_value_All_L0 : C := (.seq (.ops [
⟨(some 31), .bin .lss (.t 30) (.k (.int .i64 24)), none⟩] [0, 3, 5, 8, 10, 11, 18, 19, 20, 24, 25, 26, 30, 31])
 (.seq (.cond (.t 31) .skip
 (.exit 4))
 (.seq (.block 5 (.seq (.ops [
⟨(some 32), .mov (.t 30), none⟩,
⟨(some 12), .mov (.t 32), none⟩] [0, 3, 5, 8, 10, 11, 12, 18, 19, 20, 24, 25, 26, 30])
 (.ops [
⟨(some 33), .mov (.t 11), none⟩,
⟨(some 34), .mov (.t 0), none⟩,
⟨(some 35), .load true 26 (.t 3), none⟩,
⟨(some 36), .load true 2 (.t 10), none⟩,
⟨(some 37), .mov (.t 12), none⟩,
⟨(some 38), .call 76 [(.t 34), (.t 35), (.t 36), (.t 37)], none⟩,
⟨(some 39), .lit 113 2 false [(.int .i64 0), (.int .i64 0)] 1 [(0, (.t 38))], none⟩,
⟨(some 40), .append 113 2 16 false (.t 33) (.t 39), none⟩,
⟨(some 11), .mov (.t 40), none⟩] [0, 3, 5, 8, 10, 11, 18, 19, 20, 24, 25, 26, 30])))
 (.ops [
⟨(some 41), .bin .add (.t 30) (.k (.int .i64 1)), none⟩,
⟨(some 30), .mov (.t 41), none⟩] [0, 3, 5, 8, 10, 11, 18, 19, 20, 24, 25, 26, 30]))))
def c_value_All_L1 : C := (.seq (.ops [
⟨(some 27), .bin .lss (.t 26) (.t 25), none⟩] [0, 3, 5, 8, 18, 19, 20, 24, 25, 26, 27])
 (.seq (.cond (.t 27) .skip
 (.exit 2))
 (.seq (.block 3 (.seq (.ops [
⟨(some 28), .iaddr 2 (.t 24) (.t 26), none⟩,
⟨(some 29), .load true 2 (.t 28), none⟩,
⟨(some 10), .alloc [(.int .i64 0), (.int .i64 0)], none⟩,
⟨none, .store 2 (.t 10) (.t 29), none⟩] [0, 3, 5, 8, 10, 18, 19, 20, 24, 25, 26])
 (.seq (.ops [
⟨(some 11), .ownnil 113 2 false, none⟩] [0, 3, 5, 8, 10, 11, 18, 19, 20, 24, 25, 26])
 (.seq (.seq (.ops [
⟨(some 30), .mov (.k (.int .i64 0)), none⟩] [0, 3, 5, 8, 10, 11, 18, 19, 20, 24, 25, 26, 30])
 (.block 4 (.loop c_value_All_L0)))
 (.ops [
⟨(some 42), .mov (.t 8), none⟩,
⟨(some 43), .mov (.t 11), none⟩,
⟨(some 44), .lit 73 1 false [.nils] 1 [(0, (.t 43))], none⟩,
⟨(some 45), .append 73 1 24 false (.t 42) (.t 44), none⟩,
⟨(some 8), .mov (.t 45), none⟩] [0, 3, 5, 8, 18, 19, 20, 24, 25, 26])))))
 (.ops [
⟨(some 46), .bin .add (.t 26) (.k (.int .i64 1)), none⟩,
⟨(some 26), .mov (.t 46), none⟩] [0, 3, 5, 8, 18, 19, 20, 24, 25, 26]))))
def c_value_All_L2 : C := (.seq (.ops [
⟨(some 21), .bin .lss (.t 20) (.t 19), none⟩] [0, 3, 5, 18, 19, 20, 21])
 (.seq (.cond (.t 21) .skip
 (.exit 0))
 (.seq (.block 1 (.seq (.ops [
⟨(some 22), .iaddr 1 (.t 18) (.t 20), none⟩,
⟨(some 23), .load false 1 (.t 22), none⟩,
⟨(some 7), .mov (.t 23), none⟩] [0, 3, 5, 7, 18, 19, 20])
 (.seq (.ops [
⟨(some 8), .ownnil 73 1 false, none⟩] [0, 3, 5, 7, 8, 18, 19, 20])
 (.seq (.seq (.ops [
⟨(some 24), .mov (.t 7), none⟩,
⟨(some 25), .len 0 (.t 24), none⟩,
⟨(some 26), .mov (.k (.int .i64 0)), none⟩] [0, 3, 5, 8, 18, 19, 20, 24, 25, 26])
 (.block 2 (.loop c_value_All_L1)))
 (.ops [
⟨(some 47), .mov (.t 5), none⟩,
⟨(some 48), .mov (.t 8), none⟩,
⟨(some 49), .lit 99 1 false [.nils] 1 [(0, (.t 48))], none⟩,
⟨(some 50), .append 99 1 24 false (.t 47) (.t 49), none⟩,
⟨(some 5), .mov (.t 50), none⟩] [0, 3, 5, 18, 19, 20])))))
 (.ops [
⟨(some 51), .bin .add (.t 20) (.k (.int .i64 1)), none⟩,
⟨(some 20), .mov (.t 51), none⟩] [0, 3, 5, 18, 19, 20]))))
def c_value_All : F := ⟨true, 2, (.seq (.ops [
⟨(some 3), .box (.t 1), none⟩,
⟨(some 4), .mov (.k .nils), none⟩] [0, 3])
 (.seq (.seq (.ops [
⟨(some 13), .mov (.t 0), none⟩,
⟨(some 14), .load true 26 (.t 3), none⟩,
⟨(some 15), .call 74 [(.t 13), (.t 14)], none⟩,
⟨(some 16), .un .not (.t 15), none⟩] [0, 3, 16])
 (.cond (.t 16) (.seq (.ops [
⟨(some 4), .mov (.k .nils), none⟩] [4])
 .ret)
 .skip))
 (.seq (.ops [
⟨(some 5), .ownnil 99 1 false, none⟩] [0, 3, 5])
 (.seq (.seq (.ops [
⟨(some 17), .load true 26 (.t 3), none⟩,
⟨(some 18), .call 36 [(.t 17)], none⟩,
⟨(some 19), .len 0 (.t 18), none⟩,
⟨(some 20), .mov (.k (.int .i64 0)), none⟩] [0, 3, 5, 18, 19, 20])
 (.block 0 (.loop c_value_All_L2)))
 (.seq (.ops [
⟨(some 52), .mov (.t 5), none⟩,
⟨(some 4), .mov (.t 52), none⟩] [4])
 .ret))))), [.tmp 4]⟩
abbrev n_value_All : Nat := 35
def c_skel_Ways_L0 : C := (.seq (.ops [
⟨(some 32), .bin .lss (.t 31) (.t 30), none⟩] [3, 4, 5, 21, 22, 23, 29, 30, 31, 32])
 (.seq (.cond (.t 32) .skip
 (.exit 2))
 (.seq (.block 3 (.seq (.ops [
⟨(some 33), .mov (.t 31), none⟩,
⟨(some 34), .iaddr 25 (.t 29) (.t 31), none⟩,
⟨(some 35), .load true 25 (.t 34), none⟩,
⟨(some 8), .alloc [(.int .i64 0), .nilI, .nilI, .nilI, .nilI, .nilI, .nilI, .nilI, .nilI, .nilI, .nilI, .nilI, .nilI, .nilI, .nilI, .nilI, .nilI, .nilI, .nilI, .nilI, .nilI, .nilI, .nilI, .nilI, .nilI], none⟩,
⟨(some 7), .mov (.t 33), none⟩,
⟨none, .store 25 (.t 8) (.t 35), none⟩] [3, 4, 5, 7, 8, 21, 22, 23, 29, 30, 31])
 (.ops [
⟨(some 36), .mov (.t 4), none⟩,
⟨(some 37), .faddr 0 (.t 8), none⟩,
⟨(some 38), .load false 1 (.t 37), none⟩,
⟨(some 39), .mov (.t 5), none⟩,
⟨(some 40), .mov (.t 7), none⟩,
⟨(some 41), .build [(.int .i64 0), (.int .i64 0)] [(0, 1, (.t 39)), (1, 1, (.t 40))], none⟩,
⟨(some 42), .callv (.t 36) [(.t 38), (.t 41)], none⟩] [3, 4, 5, 21, 22, 23, 29, 30, 31])))
 (.ops [
⟨(some 43), .bin .add (.t 31) (.k (.int .i64 1)), none⟩,
⟨(some 31), .mov (.t 43), none⟩] [3, 4, 5, 21, 22, 23, 29, 30, 31]))))
def c_skel_Ways_L1 : C := (.seq (.ops [
⟨(some 24), .bin .lss (.t 23) (.t 22), none⟩] [3, 4, 21, 22, 23, 24])
 (.seq (.cond (.t 24) .skip
 (.exit 0))
 (.seq (.block 1 (.seq (.ops [
⟨(some 25), .mov (.t 23), none⟩,
⟨(some 26), .iaddr 2 (.t 21) (.t 23), none⟩,
⟨(some 27), .load true 2 (.t 26), none⟩,
⟨(some 6), .alloc [(.int .i64 0), .nils], none⟩,
⟨(some 5), .mov (.t 25), none⟩,
⟨none, .store 2 (.t 6) (.t 27), none⟩] [3, 4, 5, 6, 21, 22, 23])
 (.seq (.ops [
⟨(some 28), .faddr 1 (.t 6), none⟩,
⟨(some 29), .load false 1 (.t 28), none⟩,
⟨(some 30), .len 0 (.t 29), none⟩,
⟨(some 31), .mov (.k (.int .i64 0)), none⟩] [3, 4, 5, 21, 22, 23, 29, 30, 31])
 (.block 2 (.loop c_skel_Ways_L0)))))
 (.ops [
⟨(some 44), .bin .add (.t 23) (.k (.int .i64 1)), none⟩,
⟨(some 23), .mov (.t 44), none⟩] [3, 4, 21, 22, 23]))))
def c_skel_Ways : F := ⟨true, 1, (.seq (.ops [
⟨(some 1), .box (.t 0), none⟩,
⟨(some 2), .mov (.k .nils), none⟩] [1])
 (.seq (.ops [
⟨(some 9), .faddr 25 (.t 1), none⟩,
⟨(some 10), .load false 1 (.t 9), none⟩,
⟨(some 11), .len 0 (.t 10), none⟩,
⟨(some 12), .mkslice 66 1 24 true [.nils] (.t 11), none⟩,
⟨(some 3), .alloc [.nils], none⟩,
⟨none, .store 1 (.t 3) (.t 12), none⟩] [1, 3])
 (.seq (.ops [
⟨(some 13), .mkfn 77 [(.t 3)], none⟩,
⟨(some 4), .mov (.t 13), none⟩] [1, 3, 4])
 (.seq (.ops [
⟨(some 14), .mov (.t 4), none⟩,
⟨(some 15), .faddr 0 (.t 1), none⟩,
⟨(some 16), .faddr 0 (.t 15), none⟩,
⟨(some 17), .load false 1 (.t 16), none⟩,
⟨(some 18), .build [(.int .i64 0), (.int .i64 0)] [(0, 1, (.k (.int .i64 (-1))))], none⟩,
⟨(some 19), .callv (.t 14) [(.t 17), (.t 18)], none⟩] [1, 3, 4])
 (.seq (.seq (.ops [
⟨(some 20), .faddr 25 (.t 1), none⟩,
⟨(some 21), .load false 1 (.t 20), none⟩,
⟨(some 22), .len 0 (.t 21), none⟩,
⟨(some 23), .mov (.k (.int .i64 0)), none⟩] [3, 4, 21, 22, 23])
 (.block 0 (.loop c_skel_Ways_L1)))
 (.seq (.ops [
⟨(some 45), .load false 1 (.t 3), none⟩,
⟨(some 2), .mov (.t 45), none⟩] [2])
 .ret)))))), [.tmp 2]⟩
abbrev n_skel_Ways : Nat := 36
def c_norm_maker_sort_L0 : C := (.seq (.ops [
⟨(some 50), .bin .lss (.t 49) (.t 48), none⟩] [0, 2, 3, 4, 5, 15, 16, 19, 47, 48, 49, 50])
 (.seq (.cond (.t 50) .skip
 (.exit 4))
 (.seq (.block 5 (.seq (.ops [
⟨(some 51), .mov (.t 49), none⟩,
⟨(some 52), .iaddr 2 (.t 47) (.t 49), none⟩,
⟨(some 53), .load true 2 (.t 52), none⟩,
⟨(some 7), .alloc [(.int .i64 0), (.int .i64 0)], none⟩,
⟨(some 6), .mov (.t 51), none⟩,
⟨none, .store 2 (.t 7) (.t 53), none⟩] [0, 2, 3, 4, 5, 6, 7, 15, 16, 19, 47, 48, 49])
 (.seq (.ops [
⟨(some 54), .mov (.t 0), none⟩,
⟨(some 55), .mov (.t 3), none⟩,
⟨(some 56), .mov (.t 6), none⟩,
⟨(some 57), .mov (.t 4), none⟩,
⟨(some 58), .call 41 [(.t 54), (.t 55), (.t 56), (.t 57)], none⟩,
⟨(some 8), .alloc [(.int .i64 0), (.int .i64 0)], none⟩,
⟨none, .store 2 (.t 8) (.t 58), none⟩] [0, 2, 3, 4, 5, 7, 8, 15, 16, 19, 47, 48, 49])
 (.seq (.ops [
⟨(some 59), .faddr 0 (.t 8), none⟩,
⟨(some 60), .load false 1 (.t 59), none⟩,
⟨(some 61), .bin .add (.k (.int .i64 1)) (.t 60), none⟩,
⟨(some 62), .faddr 1 (.t 8), none⟩,
⟨(some 63), .load false 1 (.t 62), none⟩,
⟨(some 64), .build [(.int .i64 0), (.int .i64 0)] [(0, 1, (.t 61)), (1, 1, (.t 63))], none⟩,
⟨(some 9), .alloc [(.int .i64 0), (.int .i64 0)], none⟩,
⟨none, .store 2 (.t 9) (.t 64), none⟩] [0, 2, 3, 4, 5, 7, 8, 9, 15, 16, 19, 47, 48, 49])
 (.seq (.seq (.ops [
⟨(some 65), .faddr 0 (.t 8), none⟩,
⟨(some 66), .load false 1 (.t 65), none⟩,
⟨(some 67), .bin .eql (.t 66) (.k (.int .i64 4)), none⟩] [0, 2, 3, 4, 5, 7, 8, 9, 15, 16, 19, 47, 48, 49, 67])
 (.cond (.t 67) (.ops [
⟨(some 68), .faddr 0 (.t 7), none⟩,
⟨(some 69), .load false 1 (.t 68), none⟩,
⟨(some 70), .faddr 1 (.t 8), none⟩,
⟨(some 71), .load false 1 (.t 70), none⟩,
⟨(some 72), .call 39 [(.t 69), (.t 71)], none⟩,
⟨(some 73), .build [(.int .i64 0), (.int .i64 0)] [(0, 1, (.k (.int .i64 0))), (1, 1, (.t 72))], none⟩,
⟨none, .store 2 (.t 9) (.t 73), none⟩] [0, 2, 3, 4, 5, 9, 15, 16, 19, 47, 48, 49])
 .skip))
 (.ops [
⟨(some 74), .faddr 1 (.t 5), none⟩,
⟨(some 75), .load false 1 (.t 74), none⟩,
⟨(some 76), .load true 2 (.t 9), none⟩,
⟨(some 77), .lit 169 2 false [(.int .i64 0), (.int .i64 0)] 1 [(0, (.t 76))], none⟩,
⟨(some 78), .append 169 2 16 false (.t 75) (.t 77), none⟩,
⟨(some 79), .faddr 1 (.t 5), none⟩,
⟨none, .store 1 (.t 79) (.t 78), none⟩] [0, 2, 3, 4, 5, 15, 16, 19, 47, 48, 49]))))))
 (.ops [
⟨(some 80), .bin .add (.t 49) (.k (.int .i64 1)), none⟩,
⟨(some 49), .mov (.t 80), none⟩] [0, 2, 3, 4, 5, 15, 16, 19, 47, 48, 49]))))
def c_norm_maker_sort_L1 : C := (.seq (.ops [
⟨(some 20), .bin .lss (.t 19) (.k (.int .i64 24)), none⟩] [0, 2, 3, 15, 16, 19, 20])
 (.seq (.cond (.t 20) .skip
 (.exit 2))
 (.seq (.block 3 (.seq (.ops [
⟨(some 21), .mov (.t 19), none⟩,
⟨(some 4), .mov (.t 21), none⟩] [0, 2, 3, 4, 15, 16, 19])
 (.seq (.ops [
⟨(some 22), .mov (.t 3), none⟩,
⟨(some 23), .build [(.int .i64 0), .nils] [(0, 1, (.t 22))], none⟩,
⟨(some 5), .allocOwn [(.int .i64 0), .nils] [(1, 169, 2, false)], none⟩,
⟨none, .store 2 (.t 5) (.t 23), none⟩] [0, 2, 3, 4, 5, 15, 16, 19])
 (.seq (.seq (.ops [
⟨(some 24), .mov (.t 0), none⟩,
⟨(some 25), .nilck (.t 24), none⟩,
⟨(some 26), .faddr 28 (.t 25), none⟩,
⟨(some 27), .load false 1 (.t 26), none⟩,
⟨(some 28), .mov (.t 3), none⟩,
⟨(some 29), .iaddr 1 (.t 27) (.t 28), none⟩,
⟨(some 30), .load false 1 (.t 29), none⟩,
⟨(some 31), .mov (.t 4), none⟩,
⟨(some 32), .iaddr 2 (.t 30) (.t 31), none⟩,
⟨(some 33), .faddr 0 (.t 32), none⟩,
⟨(some 34), .load false 1 (.t 33), none⟩,
⟨(some 35), .bin .neq (.t 34) (.k (.int .i64 4)), none⟩] [0, 2, 3, 4, 5, 15, 16, 19, 35])
 (.cond (.t 35) (.seq (.ops [
⟨(some 36), .faddr 0 (.t 5), none⟩,
⟨none, .store 1 (.t 36) (.k (.int .i64 (-1))), none⟩] [0, 2, 3, 5, 15, 16, 19])
 (.seq (.ops [
⟨(some 37), .mov (.t 2), none⟩,
⟨(some 38), .load true 2 (.t 5), none⟩,
⟨(some 39), .lit 168 2 false [(.int .i64 0), .nils] 1 [(0, (.t 38))], none⟩,
⟨(some 40), .append 168 2 32 false (.t 37) (.t 39), none⟩,
⟨(some 2), .mov (.t 40), none⟩] [0, 2, 3, 15, 16, 19])
 (.exit 3)))
 .skip))
 (.seq (.seq (.ops [
⟨(some 41), .mov (.t 0), none⟩,
⟨(some 42), .nilck (.t 41), none⟩,
⟨(some 43), .faddr 30 (.t 42), none⟩,
⟨(some 44), .load false 1 (.t 43), none⟩,
⟨(some 45), .mov (.t 3), none⟩,
⟨(some 46), .iaddr 1 (.t 44) (.t 45), none⟩,
⟨(some 47), .load false 1 (.t 46), none⟩,
⟨(some 48), .len 0 (.t 47), none⟩,
⟨(some 49), .mov (.k (.int .i64 0)), none⟩] [0, 2, 3, 4, 5, 15, 16, 19, 47, 48, 49])
 (.block 4 (.loop c_norm_maker_sort_L0)))
 (.ops [
⟨(some 81), .mov (.t 2), none⟩,
⟨(some 82), .load true 2 (.t 5), none⟩,
⟨(some 83), .lit 168 2 false [(.int .i64 0), .nils] 1 [(0, (.t 82))], none⟩,
⟨(some 84), .append 168 2 32 false (.t 81) (.t 83), none⟩,
⟨(some 2), .mov (.t 84), none⟩] [0, 2, 3, 15, 16, 19]))))))
 (.ops [
⟨(some 85), .bin .add (.t 19) (.k (.int .i64 1)), none⟩,
⟨(some 19), .mov (.t 85), none⟩] [0, 2, 3, 15, 16, 19]))))
def c_norm_maker_sort_L2 : C := (.seq (.ops [
⟨(some 17), .bin .lss (.t 16) (.t 15), none⟩] [0, 2, 15, 16, 17])
 (.seq (.cond (.t 17) .skip
 (.exit 0))
 (.seq (.block 1 (.seq (.ops [
⟨(some 18), .mov (.t 16), none⟩,
⟨(some 3), .mov (.t 18), none⟩] [0, 2, 3, 15, 16])
 (.seq (.ops [
⟨(some 19), .mov (.k (.int .i64 0)), none⟩] [0, 2, 3, 15, 16, 19])
 (.block 2 (.loop c_norm_maker_sort_L1)))))
 (.ops [
⟨(some 86), .bin .add (.t 16) (.k (.int .i64 1)), none⟩,
⟨(some 16), .mov (.t 86), none⟩] [0, 2, 15, 16]))))
def c_norm_maker_sort : F := ⟨false, 1, (.seq (.ops [
⟨(some 2), .ownnil 168 2 false, none⟩] [0, 2])
 (.seq (.seq (.ops [
⟨(some 10), .mov (.t 0), none⟩,
⟨(some 11), .nilck (.t 10), none⟩,
⟨(some 12), .faddr 2 (.t 11), none⟩,
⟨(some 13), .faddr 25 (.t 12), none⟩,
⟨(some 14), .load false 1 (.t 13), none⟩,
⟨(some 15), .len 0 (.t 14), none⟩,
⟨(some 16), .mov (.k (.int .i64 0)), none⟩] [0, 2, 15, 16])
 (.block 0 (.loop c_norm_maker_sort_L2)))
 (.ops [
⟨(some 87), .mov (.t 0), none⟩,
⟨(some 88), .mov (.t 2), none⟩,
⟨(some 89), .call 78 [(.t 88)], none⟩,
⟨(some 90), .nilck (.t 87), none⟩,
⟨(some 91), .faddr 31 (.t 90), none⟩,
⟨none, .store 1 (.t 91) (.t 89), none⟩] []))), []⟩
abbrev n_norm_maker_sort : Nat := 37
def c_norm_Of_1_D0 : List O := [
⟨(some 15), .load false 1 (.t 2), none⟩,
⟨(some 16), .nilck (.t 15), none⟩,
⟨(some 17), .faddr 31 (.t 16), none⟩,
⟨(some 18), .load false 1 (.t 17), none⟩,
⟨(some 19), .mov (.t 0), none⟩,
⟨(some 20), .faddr 1 (.t 6), none⟩,
⟨(some 21), .load false 1 (.t 20), none⟩,
⟨(some 22), .call 39 [(.t 19), (.t 21)], none⟩,
⟨(some 23), .iaddr 1 (.t 18) (.t 22), none⟩,
⟨(some 24), .load false 1 (.t 23), none⟩,
⟨(some 8), .mov (.t 24), none⟩]
def c_norm_Of_1 : F := ⟨false, 5, (.seq (.ops [
⟨(some 6), .box (.t 1), none⟩,
⟨(some 7), .alloc [(.int .i64 0), (.int .i64 0)], none⟩] [0, 2, 3, 4, 6, 7])
 (.seq (.seq (.ops [
⟨(some 11), .faddr 0 (.t 6), none⟩,
⟨(some 12), .load false 1 (.t 11), none⟩,
⟨(some 13), .bin .neq (.t 12) (.k (.int .i64 4)), none⟩] [0, 2, 3, 4, 6, 7, 13])
 (.cond (.t 13) (.seq (.ops [
⟨(some 14), .load true 2 (.t 6), none⟩,
⟨none, .store 2 (.t 7) (.t 14), none⟩] [7])
 .ret)
 .skip))
 (.seq (.opsD c_norm_Of_1_D0 [0, 1, 3, 7, 0, 0, 32, 112, 255, 511, 1023] [0, 3, 4, 6, 7, 8])
 (.seq (.ops [
⟨(some 26), .load false 1 (.t 3), none⟩,
⟨(some 27), .mov (.t 8), none⟩,
⟨(some 28), .lookup true .ti (.int .i64 0) (.t 26) (.t 27), none⟩,
⟨(some 25), .mov (.t 28), none⟩,
⟨(some 29), .extract (.t 25) 0, none⟩,
⟨(some 30), .extract (.t 25) 1, none⟩,
⟨(some 9), .mov (.t 29), none⟩,
⟨(some 10), .mov (.t 30), none⟩] [0, 3, 4, 6, 7, 8, 9, 10])
 (.seq (.seq (.ops [
⟨(some 31), .mov (.t 10), none⟩,
⟨(some 32), .un .not (.t 31), none⟩] [0, 3, 4, 6, 7, 8, 9, 32])
 (.cond (.t 32) (.seq (.ops [
⟨(some 33), .load false 1 (.t 4), none⟩,
⟨(some 34), .len 0 (.t 33), none⟩,
⟨(some 9), .mov (.t 34), none⟩] [0, 3, 4, 6, 7, 8, 9])
 (.seq (.ops [
⟨(some 35), .load false 1 (.t 3), none⟩,
⟨(some 36), .mov (.t 8), none⟩,
⟨(some 37), .mov (.t 9), none⟩,
⟨none, .mapset .ti (.t 35) (.t 36) (.t 37), none⟩] [0, 4, 6, 7, 9])
 (.ops [
⟨(some 38), .load false 1 (.t 4), none⟩,
⟨(some 39), .mov (.t 0), none⟩,
⟨(some 40), .faddr 1 (.t 6), none⟩,
⟨(some 41), .load false 1 (.t 40), none⟩,
⟨(some 42), .build [(.int .i64 0), (.int .i64 0)] [(0, 1, (.t 39)), (1, 1, (.t 41))], none⟩,
⟨(some 43), .lit 116 2 false [(.int .i64 0), (.int .i64 0)] 1 [(0, (.t 42))], none⟩,
⟨(some 44), .append 116 2 16 false (.t 38) (.t 43), none⟩,
⟨none, .store 1 (.t 4) (.t 44), none⟩] [7, 9])))
 .skip))
 (.seq (.ops [
⟨(some 45), .mov (.t 9), none⟩,
⟨(some 46), .build [(.int .i64 0), (.int .i64 0)] [(0, 1, (.k (.int .i64 4))), (1, 1, (.t 45))], none⟩,
⟨none, .store 2 (.t 7) (.t 46), none⟩] [7])
 .ret)))))), [.cell 7 true 2]⟩
abbrev n_norm_Of_1 : Nat := 38
def c_norm_thing : F := ⟨true, 2, (.seq (.ops [
⟨(some 4), .mov (.k (.int .i64 0)), none⟩] [0, 1])
 (.seq (.ops [
⟨(some 5), .mov (.t 0), none⟩,
⟨(some 6), .bin .mul (.t 5) (.k (.int .i64 24)), none⟩,
⟨(some 7), .mov (.t 1), none⟩,
⟨(some 8), .bin .add (.t 6) (.t 7), none⟩,
⟨(some 4), .mov (.t 8), none⟩] [4])
 .ret)), [.tmp 4]⟩
abbrev n_norm_thing : Nat := 39
def c_ins_Uses_L0 : C := (.seq (.ops [
⟨(some 23), .next (.t 22), none⟩,
⟨(some 24), .extract (.t 23) 0, none⟩] [1, 5, 22, 23, 24])
 (.seq (.cond (.t 24) .skip
 (.exit 0))
 (.block 1 (.seq (.ops [
⟨(some 25), .extract (.t 23) 2, none⟩,
⟨(some 7), .mov (.t 25), none⟩] [1, 5, 7, 22])
 (.seq (.ops [
⟨(some 26), .mov (.t 7), none⟩,
⟨(some 27), .bin .eql (.t 26) (.k (.int .i32 65)), none⟩,
⟨(some 28), .mov (.t 27), none⟩,
⟨(some 29), .mov (.t 7), (some (28, false))⟩,
⟨(some 30), .bin .eql (.t 29) (.k (.int .i32 66)), (some (28, false))⟩,
⟨(some 31), .pick (.t 28) (.k (.bool true)) (.t 30), none⟩] [1, 5, 7, 22, 31])
 (.cond (.t 31) (.ops [
⟨(some 32), .mov (.t 5), none⟩,
⟨(some 33), .mov (.t 7), none⟩,
⟨(some 34), .call 80 [(.t 1), (.t 33)], none⟩,
⟨(some 35), .nilck (.t 34), none⟩,
⟨(some 36), .load false 1 (.t 35), none⟩,
⟨(some 37), .lit 3 1 false [(.int .i64 0)] 1 [(0, (.t 36))], none⟩,
⟨(some 38), .append 3 1 8 false (.t 32) (.t 37), none⟩,
⟨(some 5), .mov (.t 38), none⟩] [1, 5, 22])
 .skip))))))
def c_ins_Uses : F := ⟨true, 1, (.seq (.ops [
⟨(some 1), .box (.t 0), none⟩,
⟨(some 2), .mov (.k .nils), none⟩] [1])
 (.seq (.ops [
⟨(some 9), .faddr 0 (.t 1), none⟩,
⟨(some 10), .load false 1 (.t 9), none⟩,
⟨(some 11), .call 79 [(.t 10)], none⟩,
⟨(some 8), .mov (.t 11), none⟩,
⟨(some 12), .extract (.t 8) 0, none⟩,
⟨(some 13), .extract (.t 8) 1, none⟩,
⟨(some 3), .alloc [(.str []), (.str [])], none⟩,
⟨none, .store 2 (.t 3) (.t 12), none⟩,
⟨(some 4), .mov (.t 13), none⟩] [1, 3, 4])
 (.seq (.seq (.ops [
⟨(some 14), .mov (.t 4), none⟩,
⟨(some 15), .un .not (.t 14), none⟩,
⟨(some 16), .mov (.t 15), none⟩,
⟨(some 17), .load true 6 (.t 1), (some (16, false))⟩,
⟨(some 18), .call 30 [(.t 17)], (some (16, false))⟩,
⟨(some 19), .pick (.t 16) (.k (.bool true)) (.t 18), none⟩] [1, 3, 19])
 (.cond (.t 19) (.seq (.ops [
⟨(some 2), .mov (.k .nils), none⟩] [2])
 .ret)
 .skip))
 (.seq (.ops [
⟨(some 5), .ownnil 3 1 false, none⟩] [1, 3, 5])
 (.seq (.seq (.ops [
⟨(some 20), .faddr 1 (.t 3), none⟩,
⟨(some 21), .load false 1 (.t 20), none⟩,
⟨(some 22), .range (.t 21), none⟩] [1, 5, 22])
 (.block 0 (.loop c_ins_Uses_L0)))
 (.seq (.ops [
⟨(some 39), .mov (.t 5), none⟩,
⟨(some 2), .mov (.t 39), none⟩] [2])
 .ret)))))), [.tmp 2]⟩
abbrev n_ins_Uses : Nat := 40
def c_norm_maker_from_D0 : List O := [
⟨(some 26), .mov (.t 0), none⟩,
⟨(some 27), .nilck (.t 26), none⟩,
⟨(some 28), .faddr 28 (.t 27), none⟩,
⟨(some 29), .load false 1 (.t 28), none⟩,
⟨(some 30), .mov (.t 0), none⟩,
⟨(some 31), .nilck (.t 30), none⟩,
⟨(some 32), .faddr 30 (.t 31), none⟩,
⟨(some 33), .load false 1 (.t 32), none⟩,
⟨(some 34), .mov (.t 1), none⟩,
⟨(some 35), .iaddr 1 (.t 33) (.t 34), none⟩,
⟨(some 36), .load false 1 (.t 35), none⟩,
⟨(some 37), .mov (.t 2), none⟩,
⟨(some 38), .iaddr 2 (.t 36) (.t 37), none⟩,
⟨(some 39), .faddr 0 (.t 38), none⟩,
⟨(some 40), .load false 1 (.t 39), none⟩,
⟨(some 41), .iaddr 1 (.t 29) (.t 40), none⟩,
⟨(some 42), .load false 1 (.t 41), none⟩,
⟨(some 43), .faddr 1 (.t 9), none⟩,
⟨(some 44), .load false 1 (.t 43), none⟩,
⟨(some 45), .iaddr 2 (.t 42) (.t 44), none⟩,
⟨(some 46), .load true 2 (.t 45), none⟩,
⟨none, .store 2 (.t 9) (.t 46), none⟩]
def c_norm_maker_from : F := ⟨false, 4, (.seq (.ops [
⟨(some 8), .alloc [(.int .i64 0), (.int .i64 0)], none⟩] [0, 1, 2, 3, 8])
 (.seq (.ops [
⟨(some 10), .mov (.t 0), none⟩,
⟨(some 11), .nilck (.t 10), none⟩,
⟨(some 12), .faddr 29 (.t 11), none⟩,
⟨(some 13), .load false 1 (.t 12), none⟩,
⟨(some 14), .mov (.t 1), none⟩,
⟨(some 15), .iaddr 1 (.t 13) (.t 14), none⟩,
⟨(some 16), .load false 1 (.t 15), none⟩,
⟨(some 17), .mov (.t 2), none⟩,
⟨(some 18), .iaddr 1 (.t 16) (.t 17), none⟩,
⟨(some 19), .load false 1 (.t 18), none⟩,
⟨(some 20), .mov (.t 3), none⟩,
⟨(some 21), .iaddr 2 (.t 19) (.t 20), none⟩,
⟨(some 22), .load true 2 (.t 21), none⟩,
⟨(some 9), .alloc [(.int .i64 0), (.int .i64 0)], none⟩,
⟨none, .store 2 (.t 9) (.t 22), none⟩] [0, 1, 2, 8, 9])
 (.seq (.seq (.ops [
⟨(some 23), .faddr 0 (.t 9), none⟩,
⟨(some 24), .load false 1 (.t 23), none⟩,
⟨(some 25), .bin .eql (.t 24) (.k (.int .i64 4)), none⟩] [0, 1, 2, 8, 9, 25])
 (.cond (.t 25) (.opsD c_norm_maker_from_D0 [0, 1, 3, 7, 0, 16, 48, 112, 0, 496, 1008, 0, 4080, 8176, 16368, 32767, 65535, 0, 131072, 524287, 1048575, 2097151] [8, 9])
 .skip))
 (.seq (.ops [
⟨(some 47), .load true 2 (.t 9), none⟩,
⟨none, .store 2 (.t 8) (.t 47), none⟩] [8])
 .ret)))), [.cell 8 true 2]⟩
abbrev n_norm_maker_from : Nat := 41
def c_joineryref06_Same_D0 : List O := [
⟨(some 18), .mov (.t 0), none⟩,
⟨(some 19), .mov (.t 5), none⟩,
⟨(some 20), .iaddr 1 (.t 18) (.t 19), none⟩,
⟨(some 21), .load false 1 (.t 20), none⟩,
⟨(some 22), .mov (.t 1), none⟩,
⟨(some 23), .mov (.t 5), none⟩,
⟨(some 24), .iaddr 1 (.t 22) (.t 23), none⟩,
⟨(some 25), .load false 1 (.t 24), none⟩,
⟨(some 26), .bin .neq (.t 21) (.t 25), none⟩]
def c_joineryref06_Same_L1 : C := (.seq (.seq (.ops [
⟨(some 6), .mov (.t 5), none⟩,
⟨(some 7), .mov (.t 0), none⟩,
⟨(some 8), .len 0 (.t 7), none⟩,
⟨(some 9), .bin .lss (.t 6) (.t 8), none⟩,
⟨(some 10), .mov (.t 9), none⟩,
⟨(some 11), .mov (.t 5), (some (10, true))⟩,
⟨(some 12), .mov (.t 1), (some (10, true))⟩,
⟨(some 13), .len 0 (.t 12), (some (10, true))⟩,
⟨(some 14), .bin .lss (.t 11) (.t 13), (some (10, true))⟩,
⟨(some 15), .pick (.t 10) (.t 14) (.k (.bool false)), none⟩] [0, 1, 5, 15])
 (.cond (.t 15) .skip
 (.exit 0)))
 (.seq (.block 1 (.seq (.opsD c_joineryref06_Same_D0 [0, 0, 3, 7, 0, 0, 48, 112, 255] [0, 1, 5, 26])
 (.cond (.t 26) (.seq (.ops [
⟨(some 4), .mov (.k (.bool false)), none⟩] [4])
 .ret)
 .skip)))
 (.ops [
⟨(some 16), .mov (.t 5), none⟩,
⟨(some 17), .bin .add (.t 16) (.k (.int .i64 1)), none⟩,
⟨(some 5), .mov (.t 17), none⟩] [0, 1, 5])))
def c_joineryref06_Same : F := ⟨true, 2, (.seq (.ops [
⟨(some 4), .mov (.k (.bool false)), none⟩] [0, 1])
 (.seq (.seq (.ops [
⟨(some 5), .mov (.k (.int .i64 0)), none⟩] [0, 1, 5])
 (.block 0 (.loop c_joineryref06_Same_L1)))
 (.seq (.ops [
⟨(some 27), .mov (.t 0), none⟩,
⟨(some 28), .len 0 (.t 27), none⟩,
⟨(some 29), .mov (.t 1), none⟩,
⟨(some 30), .len 0 (.t 29), none⟩,
⟨(some 31), .bin .eql (.t 28) (.t 30), none⟩,
⟨(some 4), .mov (.t 31), none⟩] [4])
 .ret))), [.tmp 4]⟩
abbrev n_joineryref06_Same : Nat := 42
def c_asm_Parse_1_D0 : List O := [
⟨(some 17), .load false 1 (.t 3), none⟩,
⟨(some 18), .load true 6 (.t 7), none⟩,
⟨(some 19), .lit 85 6 false [(.int .i64 0), (.int .i64 0), (.int .i64 0), (.int .i64 0), (.int .i64 0), (.int .i64 0)] 1 [(0, (.t 18))], none⟩,
⟨(some 20), .append 85 6 48 false (.t 17) (.t 19), none⟩,
⟨(some 21), .load false 1 (.t 4), none⟩,
⟨(some 22), .load false 1 (.t 2), none⟩,
⟨(some 23), .lit 3 1 false [(.int .i64 0)] 1 [(0, (.t 22))], none⟩,
⟨(some 24), .append 3 1 8 false (.t 21) (.t 23), none⟩,
⟨none, .store 1 (.t 3) (.t 20), none⟩,
⟨none, .store 1 (.t 4) (.t 24), none⟩]
def c_asm_Parse_1 : F := ⟨false, 5, (.seq (.ops [
⟨(some 6), .mov (.k (.bool false)), none⟩] [0, 1, 2, 3, 4])
 (.seq (.ops [
⟨(some 10), .load false 1 (.t 1), none⟩,
⟨(some 11), .load false 1 (.t 2), none⟩,
⟨(some 12), .mov (.t 0), none⟩,
⟨(some 13), .sliceS (.t 10) (some (.t 11)) (some (.t 12)), none⟩,
⟨(some 14), .call 44 [(.t 13)], none⟩,
⟨(some 9), .mov (.t 14), none⟩,
⟨(some 15), .extract (.t 9) 0, none⟩,
⟨(some 16), .extract (.t 9) 1, none⟩,
⟨(some 7), .alloc [(.int .i64 0), (.int .i64 0), (.int .i64 0), (.int .i64 0), (.int .i64 0), (.int .i64 0)], none⟩,
⟨none, .store 6 (.t 7) (.t 15), none⟩,
⟨(some 8), .mov (.t 16), none⟩] [2, 3, 4, 7, 8])
 (.seq (.opsD c_asm_Parse_1_D0 [0, 0, 2, 7, 0, 0, 32, 127, 255, 511] [8])
 (.seq (.ops [
⟨(some 25), .mov (.t 8), none⟩,
⟨(some 26), .bin .eql (.t 25) (.k (.int .i64 0)), none⟩,
⟨(some 6), .mov (.t 26), none⟩] [6])
 .ret)))), [.tmp 6]⟩
abbrev n_asm_Parse_1 : Nat := 43
def c_ins_Parse_D0 : List O := [
⟨(some 18), .faddr 0 (.t 6), none⟩,
⟨(some 19), .load false 1 (.t 18), none⟩,
⟨(some 20), .mov (.t 4), none⟩,
⟨(some 21), .iaddr 1 (.t 20) (.k (.int .i64 0)), none⟩,
⟨(some 22), .load false 1 (.t 21), none⟩,
⟨(some 23), .bin .neq (.t 19) (.t 22), none⟩,
⟨(some 24), .mov (.t 23), none⟩,
⟨(some 25), .faddr 1 (.t 6), (some (24, false))⟩,
⟨(some 26), .load false 1 (.t 25), (some (24, false))⟩,
⟨(some 27), .len 1 (.t 26), (some (24, false))⟩,
⟨(some 28), .mov (.t 4), (some (24, false))⟩,
⟨(some 29), .len 0 (.t 28), (some (24, false))⟩,
⟨(some 30), .bin .sub (.t 29) (.k (.int .i64 1)), (some (24, false))⟩,
⟨(some 31), .bin .neq (.t 27) (.t 30), (some (24, false))⟩,
⟨(some 32), .pick (.t 24) (.k (.bool true)) (.t 31), none⟩]
def c_ins_Parse_L1 : C := (.seq (.ops [
⟨(some 39), .next (.t 38), none⟩,
⟨(some 40), .extract (.t 39) 0, none⟩] [2, 4, 7, 38, 39, 40])
 (.seq (.cond (.t 40) .skip
 (.exit 2))
 (.block 3 (.seq (.ops [
⟨(some 41), .extract (.t 39) 1, none⟩,
⟨(some 42), .extract (.t 39) 2, none⟩,
⟨(some 8), .mov (.t 41), none⟩,
⟨(some 9), .mov (.t 42), none⟩] [2, 4, 7, 8, 9, 38])
 (.seq (.ops [
⟨(some 43), .mov (.t 9), none⟩,
⟨(some 44), .mov (.t 4), none⟩,
⟨(some 45), .mov (.t 8), none⟩,
⟨(some 46), .bin .add (.t 45) (.k (.int .i64 1)), none⟩,
⟨(some 47), .iaddr 1 (.t 44) (.t 46), none⟩,
⟨(some 48), .load false 1 (.t 47), none⟩,
⟨(some 49), .call 82 [(.t 7), (.t 43), (.t 48)], none⟩,
⟨(some 10), .mov (.t 49), none⟩] [2, 4, 7, 10, 38])
 (.seq (.ops [
⟨(some 50), .mov (.t 10), none⟩,
⟨(some 51), .bin .neq (.t 50) (.k (.int .i64 0)), none⟩] [2, 4, 7, 38, 51])
 (.cond (.t 51) (.seq (.ops [
⟨(some 52), .build [(.int .i64 0), (.int .i64 0), (.int .i64 0), (.int .i64 0), (.int .i64 0), (.int .i64 0)] [], none⟩,
⟨none, .store 6 (.t 2) (.t 52), none⟩,
⟨(some 3), .mov (.k (.int .i64 2)), none⟩] [2, 3])
 .ret)
 .skip)))))))
def c_ins_Parse_L2 : C := (.seq (.ops [
⟨(some 15), .bin .lss (.t 14) (.k (.int .i64 18)), none⟩] [2, 4, 13, 14, 15])
 (.seq (.cond (.t 15) .skip
 (.exit 0))
 (.seq (.block 1 (.seq (.ops [
⟨(some 16), .mov (.t 14), none⟩,
⟨(some 17), .idxA true 18 2 (.t 13) (.t 14), none⟩,
⟨(some 6), .alloc [(.str []), (.str [])], none⟩,
⟨(some 5), .mov (.t 16), none⟩,
⟨none, .store 2 (.t 6) (.t 17), none⟩] [2, 4, 5, 6, 13, 14])
 (.seq (.seq (.opsD c_ins_Parse_D0 [0, 1, 0, 4, 12, 31, 63, 127, 255, 511, 127, 1151, 3199, 8191, 16383] [2, 4, 5, 6, 13, 14, 32])
 (.cond (.t 32) (.exit 1)
 .skip))
 (.seq (.ops [
⟨(some 33), .mov (.t 5), none⟩,
⟨(some 34), .bin .add (.k (.int .i64 1)) (.t 33), none⟩,
⟨(some 35), .build [(.int .i64 0), (.int .i64 0), (.int .i64 0), (.int .i64 0), (.int .i64 0), (.int .i64 0)] [(0, 1, (.t 34))], none⟩,
⟨(some 7), .alloc [(.int .i64 0), (.int .i64 0), (.int .i64 0), (.int .i64 0), (.int .i64 0), (.int .i64 0)], none⟩,
⟨none, .store 6 (.t 7) (.t 35), none⟩] [2, 4, 6, 7])
 (.seq (.seq (.ops [
⟨(some 36), .faddr 1 (.t 6), none⟩,
⟨(some 37), .load false 1 (.t 36), none⟩,
⟨(some 38), .range (.t 37), none⟩] [2, 4, 7, 38])
 (.block 2 (.loop c_ins_Parse_L1)))
 (.seq (.seq (.ops [
⟨(some 53), .load true 6 (.t 7), none⟩,
⟨(some 54), .call 83 [(.t 53), (.k (.int .i64 200))], none⟩,
⟨(some 55), .bin .neq (.t 54) (.k (.int .i64 0)), none⟩] [2, 7, 55])
 (.cond (.t 55) (.exit 0)
 .skip))
 (.seq (.ops [
⟨(some 56), .load true 6 (.t 7), none⟩,
⟨none, .store 6 (.t 2) (.t 56), none⟩,
⟨(some 3), .mov (.k (.int .i64 0)), none⟩] [2, 3])
 .ret)))))))
 (.ops [
⟨(some 57), .bin .add (.t 14) (.k (.int .i64 1)), none⟩,
⟨(some 14), .mov (.t 57), none⟩] [2, 4, 13, 14]))))
def c_ins_Parse : F := ⟨true, 1, (.seq (.ops [
⟨(some 2), .alloc [(.int .i64 0), (.int .i64 0), (.int .i64 0), (.int .i64 0), (.int .i64 0), (.int .i64 0)], none⟩,
⟨(some 3), .mov (.k (.int .i64 0)), none⟩] [0, 2])
 (.seq (.ops [
⟨(some 11), .mov (.t 0), none⟩,
⟨(some 12), .call 81 [(.t 11)], none⟩,
⟨(some 4), .mov (.t 12), none⟩] [2, 4])
 (.seq (.seq (.ops [
⟨(some 13), .load true 36 (.k (.fp gl_1)), none⟩,
⟨(some 14), .mov (.k (.int .i64 0)), none⟩] [2, 4, 13, 14])
 (.block 0 (.loop c_ins_Parse_L2)))
 (.seq (.ops [
⟨(some 58), .build [(.int .i64 0), (.int .i64 0), (.int .i64 0), (.int .i64 0), (.int .i64 0), (.int .i64 0)] [], none⟩,
⟨none, .store 6 (.t 2) (.t 58), none⟩,
⟨(some 3), .mov (.k (.int .i64 2)), none⟩] [2, 3])
 .ret)))), [.cell 2 true 6, .tmp 3]⟩
abbrev n_ins_Parse : Nat := 44
end Go.Proofs.YtfmhnfimkpffnaaGreatDoor.M2
