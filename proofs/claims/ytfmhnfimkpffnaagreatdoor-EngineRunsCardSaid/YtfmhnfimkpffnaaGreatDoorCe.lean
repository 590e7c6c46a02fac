/- M2's code of the functions. Printed by wip/gen. -/
import Derived.Test.YtfmhnfimkpffnaaGreatDoorCd
set_option linter.unusedSimpArgs false
set_option linter.unusedVariables false
set_option linter.unusedSectionVars false
namespace Go.Proofs.YtfmhnfimkpffnaaGreatDoor.M2
def c_asm_Check_L0 : C := (.seq (.ops [
⟨(some 19), .bin .lss (.t 18) (.t 17), none⟩] [0, 16, 17, 18, 19])
 (.seq (.cond (.t 19) .skip
 (.exit 1))
 (.seq (.block 2 (.seq (.ops [
⟨(some 20), .mov (.t 18), none⟩,
⟨(some 21), .iaddr 6 (.t 16) (.t 18), none⟩,
⟨(some 22), .load true 6 (.t 21), none⟩,
⟨(some 5), .alloc [(.int .i64 0), (.int .i64 0), (.int .i64 0), (.int .i64 0), (.int .i64 0), (.int .i64 0)], none⟩,
⟨(some 4), .mov (.t 20), none⟩,
⟨none, .store 6 (.t 5) (.t 22), none⟩] [0, 4, 5, 16, 17, 18])
 (.seq (.ops [
⟨(some 23), .load true 6 (.t 5), none⟩,
⟨(some 24), .mov (.t 0), none⟩,
⟨(some 25), .len 0 (.t 24), none⟩,
⟨(some 26), .call 83 [(.t 23), (.t 25)], none⟩,
⟨(some 6), .mov (.t 26), none⟩] [0, 4, 6, 16, 17, 18])
 (.seq (.ops [
⟨(some 27), .mov (.t 6), none⟩,
⟨(some 28), .bin .neq (.t 27) (.k (.int .i64 0)), none⟩] [0, 4, 6, 16, 17, 18, 28])
 (.cond (.t 28) (.seq (.ops [
⟨(some 29), .mov (.t 4), none⟩,
⟨(some 30), .mov (.t 6), none⟩,
⟨(some 2), .mov (.t 29), none⟩,
⟨(some 3), .mov (.t 30), none⟩] [2, 3])
 .ret)
 .skip)))))
 (.ops [
⟨(some 31), .bin .add (.t 18) (.k (.int .i64 1)), none⟩,
⟨(some 18), .mov (.t 31), none⟩] [0, 16, 17, 18]))))
def c_asm_Check : F := ⟨true, 1, (.seq (.ops [
⟨(some 2), .mov (.k (.int .i64 0)), none⟩,
⟨(some 3), .mov (.k (.int .i64 0)), none⟩] [0])
 (.seq (.block 0 (.seq (.ops [
⟨(some 9), .mov (.t 0), none⟩,
⟨(some 10), .len 0 (.t 9), none⟩,
⟨(some 11), .bin .gtr (.t 10) (.k (.int .i64 200)), none⟩,
⟨(some 8), .mov (.t 11), none⟩] [0, 8])
 (.cond (.t 8) (.seq (.ops [
⟨(some 2), .mov (.k (.int .i64 0)), none⟩,
⟨(some 3), .mov (.k (.int .i64 3)), none⟩] [2, 3])
 .ret)
 (.seq (.ops [
⟨(some 13), .mov (.t 0), none⟩,
⟨(some 14), .len 0 (.t 13), none⟩,
⟨(some 15), .bin .eql (.t 14) (.k (.int .i64 0)), none⟩,
⟨(some 12), .mov (.t 15), none⟩] [0, 12])
 (.cond (.t 12) (.seq (.ops [
⟨(some 2), .mov (.k (.int .i64 0)), none⟩,
⟨(some 3), .mov (.k (.int .i64 5)), none⟩] [2, 3])
 .ret)
 .skip)))))
 (.seq (.seq (.ops [
⟨(some 16), .mov (.t 0), none⟩,
⟨(some 17), .len 0 (.t 16), none⟩,
⟨(some 18), .mov (.k (.int .i64 0)), none⟩] [0, 16, 17, 18])
 (.block 1 (.loop c_asm_Check_L0)))
 (.seq (.seq (.ops [
⟨(some 32), .mov (.t 0), none⟩,
⟨(some 33), .len 0 (.t 32), none⟩,
⟨(some 34), .bin .sub (.t 33) (.k (.int .i64 1)), none⟩,
⟨(some 7), .mov (.t 34), none⟩] [0, 7])
 (.seq (.ops [
⟨(some 35), .mov (.t 0), none⟩,
⟨(some 36), .mov (.t 7), none⟩,
⟨(some 37), .iaddr 6 (.t 35) (.t 36), none⟩,
⟨(some 38), .faddr 0 (.t 37), none⟩,
⟨(some 39), .load false 1 (.t 38), none⟩,
⟨(some 40), .bin .neq (.t 39) (.k (.int .i64 16)), none⟩,
⟨(some 41), .mov (.t 40), none⟩,
⟨(some 42), .mov (.t 0), (some (41, true))⟩,
⟨(some 43), .mov (.t 7), (some (41, true))⟩,
⟨(some 44), .iaddr 6 (.t 42) (.t 43), (some (41, true))⟩,
⟨(some 45), .faddr 0 (.t 44), (some (41, true))⟩,
⟨(some 46), .load false 1 (.t 45), (some (41, true))⟩,
⟨(some 47), .bin .neq (.t 46) (.k (.int .i64 18)), (some (41, true))⟩,
⟨(some 48), .pick (.t 41) (.t 47) (.k (.bool false)), none⟩] [7, 48])
 (.cond (.t 48) (.seq (.ops [
⟨(some 49), .mov (.t 7), none⟩,
⟨(some 2), .mov (.t 49), none⟩,
⟨(some 3), .mov (.k (.int .i64 5)), none⟩] [2, 3])
 .ret)
 .skip)))
 (.seq (.ops [
⟨(some 2), .mov (.k (.int .i64 0)), none⟩,
⟨(some 3), .mov (.k (.int .i64 0)), none⟩] [2, 3])
 .ret))))), [.tmp 2, .tmp 3]⟩
abbrev n_asm_Check : Nat := 45
def c_shape_node_L0 : C := (.seq (.ops [
⟨(some 65), .bin .lss (.t 64) (.t 63), none⟩] [1, 2, 5, 62, 63, 64, 65])
 (.seq (.cond (.t 65) .skip
 (.exit 0))
 (.seq (.block 1 (.seq (.ops [
⟨(some 66), .iaddr 2 (.t 62) (.t 64), none⟩,
⟨(some 67), .load true 2 (.t 66), none⟩,
⟨(some 9), .alloc [(.int .i64 0), (.int .i64 0)], none⟩,
⟨none, .store 2 (.t 9) (.t 67), none⟩] [1, 2, 5, 9, 62, 63, 64])
 (.seq (.ops [
⟨(some 68), .faddr 0 (.t 9), none⟩,
⟨(some 69), .load false 1 (.t 68), none⟩,
⟨(some 70), .bin .neq (.t 69) (.k (.int .i64 2)), none⟩,
⟨(some 71), .mov (.t 70), none⟩,
⟨(some 72), .load true 3 (.t 2), (some (71, true))⟩,
⟨(some 73), .load true 2 (.t 9), (some (71, true))⟩,
⟨(some 74), .mov (.t 1), (some (71, true))⟩,
⟨(some 75), .call 85 [(.t 72), (.t 73), (.t 74)], (some (71, true))⟩,
⟨(some 76), .un .not (.t 75), (some (71, true))⟩,
⟨(some 77), .pick (.t 71) (.t 76) (.k (.bool false)), none⟩] [1, 2, 5, 62, 63, 64, 77])
 (.cond (.t 77) (.seq (.ops [
⟨(some 4), .mov (.k (.bool false)), none⟩] [4])
 .ret)
 .skip))))
 (.ops [
⟨(some 78), .bin .add (.t 64) (.k (.int .i64 1)), none⟩,
⟨(some 64), .mov (.t 78), none⟩] [1, 2, 5, 62, 63, 64]))))
def c_shape_node_L1 : C := (.seq (.ops [
⟨(some 83), .bin .lss (.t 82) (.t 81), none⟩] [2, 80, 81, 82, 83])
 (.seq (.cond (.t 83) .skip
 (.exit 2))
 (.seq (.block 3 (.seq (.ops [
⟨(some 84), .iaddr 1 (.t 80) (.t 82), none⟩,
⟨(some 85), .load false 1 (.t 84), none⟩,
⟨(some 11), .mov (.t 85), none⟩] [2, 11, 80, 81, 82])
 (.seq (.ops [
⟨(some 86), .mov (.t 11), none⟩,
⟨(some 87), .bin .lss (.t 86) (.k (.int .i64 (-1))), none⟩,
⟨(some 88), .mov (.t 87), none⟩,
⟨(some 89), .mov (.t 11), (some (88, false))⟩,
⟨(some 90), .faddr 1 (.t 2), (some (88, false))⟩,
⟨(some 91), .load false 1 (.t 90), (some (88, false))⟩,
⟨(some 92), .len 0 (.t 91), (some (88, false))⟩,
⟨(some 93), .bin .geq (.t 89) (.t 92), (some (88, false))⟩,
⟨(some 94), .pick (.t 88) (.k (.bool true)) (.t 93), none⟩] [2, 80, 81, 82, 94])
 (.cond (.t 94) (.seq (.ops [
⟨(some 4), .mov (.k (.bool false)), none⟩] [4])
 .ret)
 .skip))))
 (.ops [
⟨(some 95), .bin .add (.t 82) (.k (.int .i64 1)), none⟩,
⟨(some 82), .mov (.t 95), none⟩] [2, 80, 81, 82]))))
def c_shape_node : F := ⟨true, 2, (.seq (.ops [
⟨(some 2), .box (.t 0), none⟩,
⟨(some 4), .mov (.k (.bool false)), none⟩] [1, 2])
 (.seq (.ops [
⟨(some 12), .faddr 1 (.t 2), none⟩,
⟨(some 13), .load false 1 (.t 12), none⟩,
⟨(some 14), .mov (.t 1), none⟩,
⟨(some 15), .iaddr 4 (.t 13) (.t 14), none⟩,
⟨(some 16), .load true 4 (.t 15), none⟩,
⟨(some 5), .alloc [(.int .i64 0), (.int .i64 0), .nils, .nils], none⟩,
⟨none, .store 4 (.t 5) (.t 16), none⟩] [1, 2, 5])
 (.seq (.ops [
⟨(some 18), .faddr 0 (.t 5), none⟩,
⟨(some 19), .load false 1 (.t 18), none⟩,
⟨(some 20), .call 84 [(.t 19)], none⟩,
⟨(some 17), .mov (.t 20), none⟩,
⟨(some 21), .extract (.t 17) 0, none⟩,
⟨(some 22), .extract (.t 17) 1, none⟩,
⟨(some 6), .alloc [(.str []), (.int .i64 0), (.int .i64 0), (.bool false)], none⟩,
⟨none, .store 4 (.t 6) (.t 21), none⟩,
⟨(some 7), .mov (.t 22), none⟩] [1, 2, 5, 6, 7])
 (.seq (.seq (.ops [
⟨(some 23), .mov (.t 7), none⟩,
⟨(some 24), .un .not (.t 23), none⟩,
⟨(some 25), .mov (.t 24), none⟩,
⟨(some 26), .faddr 2 (.t 5), (some (25, false))⟩,
⟨(some 27), .load false 1 (.t 26), (some (25, false))⟩,
⟨(some 28), .len 0 (.t 27), (some (25, false))⟩,
⟨(some 29), .faddr 1 (.t 6), (some (25, false))⟩,
⟨(some 30), .load false 1 (.t 29), (some (25, false))⟩,
⟨(some 31), .bin .neq (.t 28) (.t 30), (some (25, false))⟩,
⟨(some 32), .pick (.t 25) (.k (.bool true)) (.t 31), none⟩,
⟨(some 33), .mov (.t 32), none⟩,
⟨(some 34), .faddr 3 (.t 5), (some (33, false))⟩,
⟨(some 35), .load false 1 (.t 34), (some (33, false))⟩,
⟨(some 36), .len 0 (.t 35), (some (33, false))⟩,
⟨(some 37), .faddr 2 (.t 6), (some (33, false))⟩,
⟨(some 38), .load false 1 (.t 37), (some (33, false))⟩,
⟨(some 39), .bin .neq (.t 36) (.t 38), (some (33, false))⟩,
⟨(some 40), .pick (.t 33) (.k (.bool true)) (.t 39), none⟩,
⟨(some 41), .mov (.t 40), none⟩,
⟨(some 42), .faddr 1 (.t 5), (some (41, false))⟩,
⟨(some 43), .load false 1 (.t 42), (some (41, false))⟩,
⟨(some 44), .bin .lss (.t 43) (.k (.int .i64 0)), (some (41, false))⟩,
⟨(some 45), .pick (.t 41) (.k (.bool true)) (.t 44), none⟩,
⟨(some 46), .mov (.t 45), none⟩,
⟨(some 47), .faddr 1 (.t 5), (some (46, false))⟩,
⟨(some 48), .load false 1 (.t 47), (some (46, false))⟩,
⟨(some 49), .bin .gtr (.t 48) (.k (.int .i64 99)), (some (46, false))⟩,
⟨(some 50), .pick (.t 46) (.k (.bool true)) (.t 49), none⟩,
⟨(some 51), .mov (.t 50), none⟩,
⟨(some 52), .faddr 1 (.t 5), (some (51, false))⟩,
⟨(some 53), .load false 1 (.t 52), (some (51, false))⟩,
⟨(some 54), .bin .gtr (.t 53) (.k (.int .i64 0)), (some (51, false))⟩,
⟨(some 55), .mov (.t 54), (some (51, false))⟩,
⟨(some 56), .faddr 0 (.t 5), (some (55, true))⟩,
⟨(some 57), .load false 1 (.t 56), (some (55, true))⟩,
⟨(some 58), .bin .neq (.t 57) (.k (.int .i64 15)), (some (55, true))⟩,
⟨(some 59), .pick (.t 55) (.t 58) (.k (.bool false)), (some (51, false))⟩,
⟨(some 60), .pick (.t 51) (.k (.bool true)) (.t 59), none⟩] [1, 2, 5, 60])
 (.cond (.t 60) (.seq (.ops [
⟨(some 4), .mov (.k (.bool false)), none⟩] [4])
 .ret)
 .skip))
 (.seq (.seq (.ops [
⟨(some 61), .faddr 2 (.t 5), none⟩,
⟨(some 62), .load false 1 (.t 61), none⟩,
⟨(some 63), .len 0 (.t 62), none⟩,
⟨(some 64), .mov (.k (.int .i64 0)), none⟩] [1, 2, 5, 62, 63, 64])
 (.block 0 (.loop c_shape_node_L0)))
 (.seq (.seq (.ops [
⟨(some 79), .faddr 3 (.t 5), none⟩,
⟨(some 80), .load false 1 (.t 79), none⟩,
⟨(some 81), .len 0 (.t 80), none⟩,
⟨(some 82), .mov (.k (.int .i64 0)), none⟩] [2, 80, 81, 82])
 (.block 2 (.loop c_shape_node_L1)))
 (.seq (.ops [
⟨(some 4), .mov (.k (.bool true)), none⟩] [4])
 .ret))))))), [.tmp 4]⟩
abbrev n_shape_node : Nat := 46
def c_shape_comes : F := ⟨true, 3, (.seq (.ops [
⟨(some 3), .box (.t 0), none⟩,
⟨(some 4), .box (.t 1), none⟩,
⟨(some 5), .box (.t 2), none⟩,
⟨(some 6), .mov (.k (.bool false)), none⟩] [3, 4, 5])
 (.seq (.seq (.ops [
⟨(some 9), .faddr 0 (.t 4), none⟩,
⟨(some 10), .load false 1 (.t 9), none⟩] [3, 4, 5, 10])
 (.block 0 (.seq (.ops [
⟨(some 12), .bin .eql (.t 10) (.k (.int .i64 2)), none⟩,
⟨(some 11), .mov (.t 12), none⟩] [3, 4, 5, 10, 11])
 (.cond (.t 11) (.seq (.ops [
⟨(some 6), .mov (.k (.bool true)), none⟩] [6])
 .ret)
 (.seq (.ops [
⟨(some 14), .bin .eql (.t 10) (.k (.int .i64 0)), none⟩,
⟨(some 13), .mov (.t 14), none⟩] [3, 4, 5, 10, 13])
 (.cond (.t 13) (.seq (.ops [
⟨(some 15), .faddr 1 (.t 4), none⟩,
⟨(some 16), .load false 1 (.t 15), none⟩,
⟨(some 17), .bin .eql (.t 16) (.k (.int .i64 0)), none⟩,
⟨(some 6), .mov (.t 17), none⟩] [6])
 .ret)
 (.seq (.ops [
⟨(some 19), .bin .eql (.t 10) (.k (.int .i64 1)), none⟩,
⟨(some 18), .mov (.t 19), none⟩] [3, 4, 5, 10, 18])
 (.cond (.t 18) (.seq (.ops [
⟨(some 20), .faddr 0 (.t 5), none⟩,
⟨(some 21), .load false 1 (.t 20), none⟩,
⟨(some 22), .bin .lss (.t 21) (.k (.int .i64 0)), none⟩,
⟨(some 23), .mov (.t 22), none⟩,
⟨(some 24), .faddr 1 (.t 4), (some (23, true))⟩,
⟨(some 25), .load false 1 (.t 24), (some (23, true))⟩,
⟨(some 26), .bin .geq (.t 25) (.k (.int .i64 0)), (some (23, true))⟩,
⟨(some 27), .pick (.t 23) (.t 26) (.k (.bool false)), none⟩,
⟨(some 28), .mov (.t 27), none⟩,
⟨(some 29), .faddr 1 (.t 4), (some (28, true))⟩,
⟨(some 30), .load false 1 (.t 29), (some (28, true))⟩,
⟨(some 31), .bin .lss (.t 30) (.k (.int .i64 8)), (some (28, true))⟩,
⟨(some 32), .pick (.t 28) (.t 31) (.k (.bool false)), none⟩,
⟨(some 6), .mov (.t 32), none⟩] [6])
 .ret)
 (.seq (.ops [
⟨(some 34), .bin .eql (.t 10) (.k (.int .i64 3)), none⟩,
⟨(some 33), .mov (.t 34), none⟩] [3, 4, 5, 33])
 (.cond (.t 33) (.seq (.seq (.ops [
⟨(some 35), .faddr 0 (.t 5), none⟩,
⟨(some 36), .load false 1 (.t 35), none⟩,
⟨(some 37), .bin .lss (.t 36) (.k (.int .i64 0)), none⟩,
⟨(some 38), .mov (.t 37), none⟩,
⟨(some 39), .faddr 1 (.t 4), (some (38, false))⟩,
⟨(some 40), .load false 1 (.t 39), (some (38, false))⟩,
⟨(some 41), .bin .neq (.t 40) (.k (.int .i64 0)), (some (38, false))⟩,
⟨(some 42), .pick (.t 38) (.k (.bool true)) (.t 41), none⟩] [3, 5, 42])
 (.cond (.t 42) (.seq (.ops [
⟨(some 6), .mov (.k (.bool false)), none⟩] [6])
 .ret)
 .skip))
 (.seq (.ops [
⟨(some 44), .faddr 1 (.t 3), none⟩,
⟨(some 45), .load false 1 (.t 44), none⟩,
⟨(some 46), .faddr 0 (.t 5), none⟩,
⟨(some 47), .load false 1 (.t 46), none⟩,
⟨(some 48), .iaddr 4 (.t 45) (.t 47), none⟩,
⟨(some 49), .faddr 0 (.t 48), none⟩,
⟨(some 50), .load false 1 (.t 49), none⟩,
⟨(some 51), .call 84 [(.t 50)], none⟩,
⟨(some 43), .mov (.t 51), none⟩,
⟨(some 52), .extract (.t 43) 0, none⟩,
⟨(some 53), .extract (.t 43) 1, none⟩,
⟨(some 7), .alloc [(.str []), (.int .i64 0), (.int .i64 0), (.bool false)], none⟩,
⟨none, .store 4 (.t 7) (.t 52), none⟩,
⟨(some 8), .mov (.t 53), none⟩] [7])
 (.seq (.ops [
⟨(some 54), .faddr 3 (.t 7), none⟩,
⟨(some 55), .load false 1 (.t 54), none⟩,
⟨(some 6), .mov (.t 55), none⟩] [6])
 .ret)))
 .skip))))))))))
 (.seq (.ops [
⟨(some 56), .faddr 0 (.t 5), none⟩,
⟨(some 57), .load false 1 (.t 56), none⟩,
⟨(some 58), .bin .geq (.t 57) (.k (.int .i64 0)), none⟩,
⟨(some 59), .mov (.t 58), none⟩,
⟨(some 60), .load true 3 (.t 3), (some (59, true))⟩,
⟨(some 61), .load true 2 (.t 4), (some (59, true))⟩,
⟨(some 62), .faddr 0 (.t 5), (some (59, true))⟩,
⟨(some 63), .load false 1 (.t 62), (some (59, true))⟩,
⟨(some 64), .call 85 [(.t 60), (.t 61), (.t 63)], (some (59, true))⟩,
⟨(some 65), .pick (.t 59) (.t 64) (.k (.bool false)), none⟩,
⟨(some 6), .mov (.t 65), none⟩] [6])
 .ret))), [.tmp 6]⟩
abbrev n_shape_comes : Nat := 47
def c_heap_Right : F := ⟨true, 1, (.seq (.ops [
⟨(some 2), .mov (.k (.bool false)), none⟩] [0])
 (.seq (.ops [
⟨(some 3), .mov (.t 0), none⟩,
⟨(some 4), .len 0 (.t 3), none⟩,
⟨(some 5), .bin .leq (.t 4) (.k (.int .i64 16)), none⟩,
⟨(some 2), .mov (.t 5), none⟩] [2])
 .ret)), [.tmp 2]⟩
abbrev n_heap_Right : Nat := 48
def c_engine_machine_word_D0 : List O := [
⟨(some 9), .mov (.t 0), none⟩,
⟨(some 10), .faddr 1 (.t 3), none⟩,
⟨(some 11), .load false 1 (.t 10), none⟩,
⟨(some 12), .nilck (.t 9), none⟩,
⟨(some 13), .faddr 3 (.t 12), none⟩,
⟨(some 14), .faddr 0 (.t 13), none⟩,
⟨(some 15), .iaddrA 8 1 (.t 14) (.t 11), none⟩,
⟨(some 16), .load false 1 (.t 15), none⟩,
⟨(some 17), .call 51 [(.t 16)], none⟩,
⟨none, .store 2 (.t 4) (.t 17), none⟩]
def c_engine_machine_word_D1 : List O := [
⟨(some 31), .mov (.t 0), none⟩,
⟨(some 32), .nilck (.t 31), none⟩,
⟨(some 33), .faddr 15 (.t 32), none⟩,
⟨(some 34), .load false 1 (.t 33), none⟩,
⟨(some 35), .faddr 1 (.t 3), none⟩,
⟨(some 36), .load false 1 (.t 35), none⟩,
⟨(some 37), .iaddr 2 (.t 34) (.t 36), none⟩,
⟨(some 38), .load true 2 (.t 37), none⟩,
⟨none, .store 2 (.t 4) (.t 38), none⟩]
def c_engine_machine_word : F := ⟨true, 2, (.seq (.ops [
⟨(some 3), .box (.t 1), none⟩,
⟨(some 4), .alloc [(.bool false), (.int .i64 0)], none⟩] [0, 3, 4])
 (.seq (.seq (.ops [
⟨(some 5), .faddr 0 (.t 3), none⟩,
⟨(some 6), .load false 1 (.t 5), none⟩] [0, 3, 4, 6])
 (.block 0 (.seq (.ops [
⟨(some 8), .bin .eql (.t 6) (.k (.int .i64 1)), none⟩,
⟨(some 7), .mov (.t 8), none⟩] [0, 3, 4, 6, 7])
 (.cond (.t 7) (.seq (.opsD c_engine_machine_word_D0 [0, 0, 2, 1, 9, 25, 63, 127, 255, 511] [4])
 .ret)
 (.seq (.ops [
⟨(some 19), .bin .eql (.t 6) (.k (.int .i64 2)), none⟩,
⟨(some 18), .mov (.t 19), none⟩] [0, 3, 4, 6, 18])
 (.cond (.t 18) (.seq (.ops [
⟨(some 20), .faddr 1 (.t 3), none⟩,
⟨(some 21), .load false 1 (.t 20), none⟩,
⟨(some 22), .call 51 [(.t 21)], none⟩,
⟨none, .store 2 (.t 4) (.t 22), none⟩] [4])
 .ret)
 (.seq (.ops [
⟨(some 24), .bin .eql (.t 6) (.k (.int .i64 3)), none⟩,
⟨(some 23), .mov (.t 24), none⟩] [0, 3, 4, 6, 23])
 (.cond (.t 23) (.seq (.ops [
⟨(some 25), .mov (.t 0), none⟩,
⟨(some 26), .nilck (.t 25), none⟩,
⟨(some 27), .faddr 19 (.t 26), none⟩,
⟨(some 28), .load true 2 (.t 27), none⟩,
⟨none, .store 2 (.t 4) (.t 28), none⟩] [4])
 .ret)
 (.seq (.ops [
⟨(some 30), .bin .eql (.t 6) (.k (.int .i64 4)), none⟩,
⟨(some 29), .mov (.t 30), none⟩] [0, 3, 4, 29])
 (.cond (.t 29) (.seq (.opsD c_engine_machine_word_D1 [0, 1, 3, 7, 0, 16, 63, 127, 255] [4])
 .ret)
 .skip))))))))))
 (.seq (.ops [
⟨(some 39), .build [(.bool false), (.int .i64 0)] [], none⟩,
⟨none, .store 2 (.t 4) (.t 39), none⟩] [4])
 .ret))), [.cell 4 true 2]⟩
abbrev n_engine_machine_word : Nat := 49
def c_engine_machine_node_1_D0 : List O := [
⟨(some 7), .load false 1 (.t 2), none⟩,
⟨(some 8), .mov (.t 0), none⟩,
⟨(some 9), .call 51 [(.t 8)], none⟩,
⟨(some 10), .nilck (.t 7), none⟩,
⟨(some 11), .faddr 19 (.t 10), none⟩,
⟨none, .store 2 (.t 11) (.t 9), none⟩]
def c_engine_machine_node_1 : F := ⟨false, 3, (.seq (.ops [
⟨(some 5), .mov (.k (.int .i64 0)), none⟩,
⟨(some 6), .mov (.k (.int .i64 0)), none⟩] [0, 1, 2])
 (.seq (.opsD c_engine_machine_node_1_D0 [0, 0, 2, 7, 15, 31] [1])
 (.seq (.ops [
⟨(some 12), .mov (.t 1), none⟩,
⟨(some 5), .mov (.t 12), none⟩,
⟨(some 6), .mov (.k (.int .i64 0)), none⟩] [5, 6])
 .ret))), [.tmp 5, .tmp 6]⟩
abbrev n_engine_machine_node_1 : Nat := 50
def c_engine_is : F := ⟨true, 1, (.seq (.ops [
⟨(some 2), .alloc [(.bool false), (.int .i64 0)], none⟩] [0, 2])
 (.seq (.ops [
⟨(some 3), .mov (.t 0), none⟩,
⟨(some 4), .build [(.bool false), (.int .i64 0)] [(0, 1, (.k (.bool true))), (1, 1, (.t 3))], none⟩,
⟨none, .store 2 (.t 2) (.t 4), none⟩] [2])
 .ret)), [.cell 2 true 2]⟩
abbrev n_engine_is : Nat := 51
def c_heap_Load : F := ⟨true, 2, (.seq (.ops [
⟨(some 4), .mov (.k (.int .i64 0)), none⟩,
⟨(some 5), .mov (.k (.int .i64 0)), none⟩] [0, 1])
 (.seq (.seq (.ops [
⟨(some 6), .mov (.t 0), none⟩,
⟨(some 7), .mov (.t 1), none⟩,
⟨(some 8), .call 86 [(.t 6), (.t 7)], none⟩,
⟨(some 9), .un .not (.t 8), none⟩] [0, 1, 9])
 (.cond (.t 9) (.seq (.ops [
⟨(some 4), .mov (.k (.int .i64 0)), none⟩,
⟨(some 5), .mov (.k (.int .i64 4)), none⟩] [4, 5])
 .ret)
 .skip))
 (.seq (.ops [
⟨(some 10), .mov (.t 0), none⟩,
⟨(some 11), .mov (.t 1), none⟩,
⟨(some 12), .iaddr 1 (.t 10) (.t 11), none⟩,
⟨(some 13), .load false 1 (.t 12), none⟩,
⟨(some 4), .mov (.t 13), none⟩,
⟨(some 5), .mov (.k (.int .i64 0)), none⟩] [4, 5])
 .ret))), [.tmp 4, .tmp 5]⟩
abbrev n_heap_Load : Nat := 52
def c_heap_Store : F := ⟨true, 3, (.seq (.ops [
⟨(some 6), .mov (.k .nils), none⟩,
⟨(some 7), .mov (.k (.int .i64 0)), none⟩] [0, 1, 2])
 (.seq (.seq (.ops [
⟨(some 9), .mov (.t 0), none⟩,
⟨(some 10), .mov (.t 1), none⟩,
⟨(some 11), .call 86 [(.t 9), (.t 10)], none⟩,
⟨(some 12), .un .not (.t 11), none⟩] [0, 1, 2, 12])
 (.cond (.t 12) (.seq (.ops [
⟨(some 6), .mov (.k .nils), none⟩,
⟨(some 7), .mov (.k (.int .i64 4)), none⟩] [6, 7])
 .ret)
 .skip))
 (.seq (.ops [
⟨(some 13), .mov (.t 0), none⟩,
⟨(some 14), .len 0 (.t 13), none⟩,
⟨(some 15), .mkslice 2 1 8 false [(.int .i64 0)] (.t 14), none⟩,
⟨(some 8), .mov (.t 15), none⟩] [0, 1, 2, 8])
 (.seq (.ops [
⟨(some 16), .mov (.t 8), none⟩,
⟨(some 17), .mov (.t 0), none⟩,
⟨(some 18), .copy 1 (.t 16) (.t 17), none⟩] [1, 2, 8])
 (.seq (.ops [
⟨(some 19), .mov (.t 8), none⟩,
⟨(some 20), .mov (.t 1), none⟩,
⟨(some 21), .mov (.t 2), none⟩,
⟨(some 22), .iaddr 1 (.t 19) (.t 20), none⟩,
⟨none, .store 1 (.t 22) (.t 21), none⟩] [8])
 (.seq (.ops [
⟨(some 23), .mov (.t 8), none⟩,
⟨(some 6), .mov (.t 23), none⟩,
⟨(some 7), .mov (.k (.int .i64 0)), none⟩] [6, 7])
 .ret)))))), [.tmp 6, .tmp 7]⟩
abbrev n_heap_Store : Nat := 53
def c_engine_machine_call_D0 : List O := [
⟨(some 9), .mov (.t 0), none⟩,
⟨(some 10), .nilck (.t 9), none⟩,
⟨(some 11), .faddr 17 (.t 10), none⟩,
⟨(some 12), .load false 1 (.t 11), none⟩,
⟨(some 13), .mov (.t 0), none⟩,
⟨(some 14), .nilck (.t 13), none⟩,
⟨(some 15), .faddr 3 (.t 14), none⟩,
⟨(some 16), .faddr 9 (.t 15), none⟩,
⟨(some 17), .load false 1 (.t 16), none⟩,
⟨(some 18), .len 0 (.t 17), none⟩,
⟨(some 19), .bin .geq (.t 12) (.t 18), none⟩]
def c_engine_machine_call_D1 : List O := [
⟨(some 20), .mov (.t 0), none⟩,
⟨(some 21), .nilck (.t 20), none⟩,
⟨(some 22), .faddr 3 (.t 21), none⟩,
⟨(some 23), .faddr 9 (.t 22), none⟩,
⟨(some 24), .load false 1 (.t 23), none⟩,
⟨(some 25), .mov (.t 0), none⟩,
⟨(some 26), .nilck (.t 25), none⟩,
⟨(some 27), .faddr 17 (.t 26), none⟩,
⟨(some 28), .load false 1 (.t 27), none⟩,
⟨(some 29), .iaddr 1 (.t 24) (.t 28), none⟩,
⟨(some 30), .load false 1 (.t 29), none⟩,
⟨(some 8), .mov (.t 30), none⟩]
def c_engine_machine_call : F := ⟨false, 3, (.seq (.ops [
⟨(some 6), .mov (.k (.int .i64 0)), none⟩,
⟨(some 7), .mov (.k (.int .i64 0)), none⟩] [0, 1, 2])
 (.seq (.seq (.opsD c_engine_machine_call_D0 [0, 1, 3, 7, 0, 16, 48, 112, 240, 496, 1023] [0, 1, 2, 19])
 (.cond (.t 19) (.seq (.ops [
⟨(some 6), .mov (.k (.int .i64 0)), none⟩,
⟨(some 7), .mov (.k (.int .i64 5)), none⟩] [6, 7])
 .ret)
 .skip))
 (.seq (.opsD c_engine_machine_call_D1 [0, 1, 3, 7, 15, 0, 32, 96, 224, 511, 1023, 2047] [0, 1, 2, 8])
 (.seq (.ops [
⟨(some 31), .mov (.t 0), none⟩,
⟨(some 32), .nilck (.t 31), none⟩,
⟨(some 33), .faddr 17 (.t 32), none⟩,
⟨(some 34), .load false 1 (.t 33), none⟩,
⟨(some 35), .bin .add (.t 34) (.k (.int .i64 1)), none⟩,
⟨(some 36), .nilck (.t 31), none⟩,
⟨(some 37), .faddr 17 (.t 36), none⟩,
⟨none, .store 1 (.t 37) (.t 35), none⟩] [0, 1, 2, 8])
 (.seq (.ops [
⟨(some 38), .mov (.t 0), none⟩,
⟨(some 39), .mov (.t 0), none⟩,
⟨(some 40), .nilck (.t 39), none⟩,
⟨(some 41), .faddr 21 (.t 40), none⟩,
⟨(some 42), .faddr 0 (.t 41), none⟩,
⟨(some 43), .load false 1 (.t 42), none⟩,
⟨(some 44), .mov (.t 1), none⟩,
⟨(some 45), .mov (.t 2), none⟩,
⟨(some 46), .mov (.t 8), none⟩,
⟨(some 47), .build [(.int .i64 0), (.int .i64 0), (.int .i64 0)] [(0, 1, (.t 44)), (1, 1, (.t 45)), (2, 1, (.t 46))], none⟩,
⟨(some 48), .lit 59 3 false [(.int .i64 0), (.int .i64 0), (.int .i64 0)] 1 [(0, (.t 47))], none⟩,
⟨(some 49), .append 59 3 24 false (.t 43) (.t 48), none⟩,
⟨(some 50), .nilck (.t 38), none⟩,
⟨(some 51), .faddr 21 (.t 50), none⟩,
⟨(some 52), .faddr 0 (.t 51), none⟩,
⟨none, .store 1 (.t 52) (.t 49), none⟩] [8])
 (.seq (.ops [
⟨(some 53), .mov (.t 8), none⟩,
⟨(some 6), .mov (.t 53), none⟩,
⟨(some 7), .mov (.k (.int .i64 0)), none⟩] [6, 7])
 .ret)))))), [.tmp 6, .tmp 7]⟩
abbrev n_engine_machine_call : Nat := 54
def c_num_Do : F := ⟨true, 3, (.seq (.ops [
⟨(some 6), .mov (.k (.int .i64 0)), none⟩,
⟨(some 7), .mov (.k (.int .i64 0)), none⟩] [0, 1, 2])
 (.seq (.ops [
⟨(some 9), .call 87 [], none⟩,
⟨(some 10), .mov (.t 0), none⟩,
⟨(some 11), .lookup false .ti .nilF (.t 9) (.t 10), none⟩,
⟨(some 8), .mov (.t 11), none⟩] [0, 1, 2, 8])
 (.seq (.block 0 (.seq (.ops [
⟨(some 13), .mov (.t 8), none⟩,
⟨(some 14), .eq false .tf (.t 13) (.k .nilF), none⟩,
⟨(some 12), .mov (.t 14), none⟩] [0, 1, 2, 8, 12])
 (.cond (.t 12) (.seq (.ops [
⟨(some 6), .mov (.k (.int .i64 0)), none⟩,
⟨(some 7), .mov (.k (.int .i64 2)), none⟩] [6, 7])
 .ret)
 (.seq (.ops [
⟨(some 16), .mov (.t 0), none⟩,
⟨(some 17), .bin .eql (.t 16) (.k (.int .i64 7)), none⟩,
⟨(some 18), .mov (.t 17), none⟩,
⟨(some 19), .mov (.t 2), (some (18, true))⟩,
⟨(some 20), .bin .eql (.t 19) (.k (.int .i64 0)), (some (18, true))⟩,
⟨(some 21), .pick (.t 18) (.t 20) (.k (.bool false)), none⟩,
⟨(some 15), .mov (.t 21), none⟩] [1, 2, 8, 15])
 (.cond (.t 15) (.seq (.ops [
⟨(some 6), .mov (.k (.int .i64 0)), none⟩,
⟨(some 7), .mov (.k (.int .i64 3)), none⟩] [6, 7])
 .ret)
 .skip)))))
 (.seq (.ops [
⟨(some 22), .mov (.t 8), none⟩,
⟨(some 23), .mov (.t 1), none⟩,
⟨(some 24), .mov (.t 2), none⟩,
⟨(some 25), .callv (.t 22) [(.t 23), (.t 24)], none⟩,
⟨(some 6), .mov (.t 25), none⟩,
⟨(some 7), .mov (.k (.int .i64 0)), none⟩] [6, 7])
 .ret)))), [.tmp 6, .tmp 7]⟩
abbrev n_num_Do : Nat := 55
def c_joineryref14_Word : F := ⟨true, 1, (.seq (.ops [
⟨(some 2), .mov (.k (.str [])), none⟩] [0])
 (.seq (.seq (.ops [
⟨(some 3), .mov (.t 0), none⟩] [0, 3])
 (.block 0 (.seq (.ops [
⟨(some 5), .bin .eql (.t 3) (.k (.int .i64 0)), none⟩,
⟨(some 4), .mov (.t 5), none⟩] [0, 3, 4])
 (.cond (.t 4) (.seq (.ops [
⟨(some 2), .mov (.k (.str [99, 117, 116])), none⟩] [2])
 .ret)
 (.seq (.ops [
⟨(some 7), .bin .eql (.t 3) (.k (.int .i64 13)), none⟩,
⟨(some 6), .mov (.t 7), none⟩] [0, 3, 6])
 (.cond (.t 6) (.seq (.ops [
⟨(some 2), .mov (.k (.str [108, 111, 97, 100])), none⟩] [2])
 .ret)
 (.seq (.ops [
⟨(some 9), .bin .eql (.t 3) (.k (.int .i64 14)), none⟩,
⟨(some 8), .mov (.t 9), none⟩] [0, 3, 8])
 (.cond (.t 8) (.seq (.ops [
⟨(some 2), .mov (.k (.str [115, 116, 111, 114, 101])), none⟩] [2])
 .ret)
 (.seq (.ops [
⟨(some 11), .bin .eql (.t 3) (.k (.int .i64 15)), none⟩,
⟨(some 10), .mov (.t 11), none⟩] [0, 3, 10])
 (.cond (.t 10) (.seq (.ops [
⟨(some 2), .mov (.k (.str [99, 97, 108, 108])), none⟩] [2])
 .ret)
 (.seq (.ops [
⟨(some 13), .bin .eql (.t 3) (.k (.int .i64 17)), none⟩,
⟨(some 12), .mov (.t 13), none⟩] [0, 3, 12])
 (.cond (.t 12) (.seq (.ops [
⟨(some 2), .mov (.k (.str [122, 101, 114, 111])), none⟩] [2])
 .ret)
 (.seq (.ops [
⟨(some 15), .bin .eql (.t 3) (.k (.int .i64 18)), none⟩,
⟨(some 14), .mov (.t 15), none⟩] [0, 14])
 (.cond (.t 14) (.seq (.ops [
⟨(some 2), .mov (.k (.str [114, 101, 116])), none⟩] [2])
 .ret)
 .skip))))))))))))))
 (.seq (.seq (.ops [
⟨(some 16), .mov (.t 0), none⟩,
⟨(some 17), .bin .geq (.t 16) (.k (.int .i64 4)), none⟩,
⟨(some 18), .mov (.t 17), none⟩,
⟨(some 19), .mov (.t 0), (some (18, true))⟩,
⟨(some 20), .bin .leq (.t 19) (.k (.int .i64 12)), (some (18, true))⟩,
⟨(some 21), .pick (.t 18) (.t 20) (.k (.bool false)), none⟩] [0, 21])
 (.cond (.t 21) (.seq (.ops [
⟨(some 22), .lit 9 1 false [(.str [])] 9 [(0, (.k (.str [97, 100, 100]))), (1, (.k (.str [115, 117, 98]))), (2, (.k (.str [109, 117, 108]))), (3, (.k (.str [100, 105, 118]))), (4, (.k (.str [97, 110, 100]))), (5, (.k (.str [111, 114]))), (6, (.k (.str [120, 111, 114]))), (7, (.k (.str [108, 101, 115, 115]))), (8, (.k (.str [115, 97, 109, 101])))], none⟩,
⟨(some 23), .mov (.t 0), none⟩,
⟨(some 24), .bin .sub (.t 23) (.k (.int .i64 4)), none⟩,
⟨(some 25), .iaddr 1 (.t 22) (.t 24), none⟩,
⟨(some 26), .load false 1 (.t 25), none⟩,
⟨(some 2), .mov (.t 26), none⟩] [2])
 .ret)
 .skip))
 (.seq (.ops [
⟨(some 2), .mov (.k (.str [])), none⟩] [2])
 .ret)))), [.tmp 2]⟩
abbrev n_joineryref14_Word : Nat := 56
def c_joineryref14_args : F := ⟨true, 1, (.seq (.ops [
⟨(some 2), .mov (.k (.int .i64 0)), none⟩] [0])
 (.seq (.seq (.ops [
⟨(some 3), .mov (.t 0), none⟩,
⟨(some 4), .bin .geq (.t 3) (.k (.int .i64 4)), none⟩,
⟨(some 5), .mov (.t 4), none⟩,
⟨(some 6), .mov (.t 0), (some (5, true))⟩,
⟨(some 7), .bin .leq (.t 6) (.k (.int .i64 12)), (some (5, true))⟩,
⟨(some 8), .pick (.t 5) (.t 7) (.k (.bool false)), none⟩,
⟨(some 9), .mov (.t 8), none⟩,
⟨(some 10), .mov (.t 0), (some (9, false))⟩,
⟨(some 11), .bin .eql (.t 10) (.k (.int .i64 14)), (some (9, false))⟩,
⟨(some 12), .pick (.t 9) (.k (.bool true)) (.t 11), none⟩] [0, 12])
 (.cond (.t 12) (.seq (.ops [
⟨(some 2), .mov (.k (.int .i64 2)), none⟩] [2])
 .ret)
 .skip))
 (.seq (.seq (.ops [
⟨(some 13), .mov (.t 0), none⟩,
⟨(some 14), .bin .eql (.t 13) (.k (.int .i64 0)), none⟩] [14])
 (.cond (.t 14) (.seq (.ops [
⟨(some 2), .mov (.k (.int .i64 0)), none⟩] [2])
 .ret)
 .skip))
 (.seq (.ops [
⟨(some 2), .mov (.k (.int .i64 1)), none⟩] [2])
 .ret)))), [.tmp 2]⟩
abbrev n_joineryref14_args : Nat := 57
def c_joineryref14_outs : F := ⟨true, 1, (.seq (.ops [
⟨(some 2), .mov (.k (.int .i64 0)), none⟩] [0])
 (.seq (.seq (.ops [
⟨(some 3), .mov (.t 0), none⟩,
⟨(some 4), .bin .eql (.t 3) (.k (.int .i64 0)), none⟩,
⟨(some 5), .mov (.t 4), none⟩,
⟨(some 6), .mov (.t 0), (some (5, false))⟩,
⟨(some 7), .bin .eql (.t 6) (.k (.int .i64 18)), (some (5, false))⟩,
⟨(some 8), .pick (.t 5) (.k (.bool true)) (.t 7), none⟩] [0, 8])
 (.cond (.t 8) (.seq (.ops [
⟨(some 2), .mov (.k (.int .i64 0)), none⟩] [2])
 .ret)
 .skip))
 (.seq (.seq (.ops [
⟨(some 9), .mov (.t 0), none⟩,
⟨(some 10), .bin .eql (.t 9) (.k (.int .i64 17)), none⟩] [10])
 (.cond (.t 10) (.seq (.ops [
⟨(some 2), .mov (.k (.int .i64 2)), none⟩] [2])
 .ret)
 .skip))
 (.seq (.ops [
⟨(some 2), .mov (.k (.int .i64 1)), none⟩] [2])
 .ret)))), [.tmp 2]⟩
abbrev n_joineryref14_outs : Nat := 58
def c_joineryref14_val_L0 : C := (.seq (.seq (.ops [
⟨(some 8), .mov (.t 7), none⟩,
⟨(some 9), .faddr 2 (.t 3), none⟩,
⟨(some 10), .load false 1 (.t 9), none⟩,
⟨(some 11), .len 0 (.t 10), none⟩,
⟨(some 12), .bin .lss (.t 8) (.t 11), none⟩] [2, 3, 4, 7, 12])
 (.cond (.t 12) .skip
 (.exit 0)))
 (.seq (.block 1 (.seq (.ops [
⟨(some 15), .faddr 0 (.t 4), none⟩,
⟨(some 16), .load false 1 (.t 15), none⟩,
⟨(some 17), .bin .eql (.t 16) (.k (.int .i64 4)), none⟩,
⟨(some 18), .mov (.t 17), none⟩,
⟨(some 19), .faddr 1 (.t 4), (some (18, true))⟩,
⟨(some 20), .load false 1 (.t 19), (some (18, true))⟩,
⟨(some 21), .mov (.t 7), (some (18, true))⟩,
⟨(some 22), .bin .eql (.t 20) (.t 21), (some (18, true))⟩,
⟨(some 23), .pick (.t 18) (.t 22) (.k (.bool false)), none⟩,
⟨(some 24), .mov (.t 23), none⟩,
⟨(some 25), .faddr 2 (.t 3), (some (24, true))⟩,
⟨(some 26), .load false 1 (.t 25), (some (24, true))⟩,
⟨(some 27), .mov (.t 7), (some (24, true))⟩,
⟨(some 28), .iaddr 2 (.t 26) (.t 27), (some (24, true))⟩,
⟨(some 29), .faddr 0 (.t 28), (some (24, true))⟩,
⟨(some 30), .load false 1 (.t 29), (some (24, true))⟩,
⟨(some 31), .mov (.t 2), (some (24, true))⟩,
⟨(some 32), .bin .eql (.t 30) (.t 31), (some (24, true))⟩,
⟨(some 33), .pick (.t 24) (.t 32) (.k (.bool false)), none⟩] [2, 3, 4, 7, 33])
 (.cond (.t 33) (.seq (.ops [
⟨(some 6), .mov (.k (.bool true)), none⟩] [6])
 .ret)
 .skip)))
 (.ops [
⟨(some 13), .mov (.t 7), none⟩,
⟨(some 14), .bin .add (.t 13) (.k (.int .i64 1)), none⟩,
⟨(some 7), .mov (.t 14), none⟩] [2, 3, 4, 7])))
def c_joineryref14_val : F := ⟨true, 3, (.seq (.ops [
⟨(some 3), .box (.t 0), none⟩,
⟨(some 4), .box (.t 1), none⟩,
⟨(some 6), .mov (.k (.bool false)), none⟩] [2, 3, 4])
 (.seq (.seq (.ops [
⟨(some 7), .mov (.k (.int .i64 0)), none⟩] [2, 3, 4, 7])
 (.block 0 (.loop c_joineryref14_val_L0)))
 (.seq (.ops [
⟨(some 6), .mov (.k (.bool false)), none⟩] [6])
 .ret))), [.tmp 6]⟩
abbrev n_joineryref14_val : Nat := 59
def c_joineryref14_Ways_L0 : C := (.seq (.seq (.ops [
⟨(some 33), .mov (.t 7), none⟩,
⟨(some 34), .faddr 1 (.t 2), none⟩,
⟨(some 35), .load false 1 (.t 34), none⟩,
⟨(some 36), .mov (.t 6), none⟩,
⟨(some 37), .iaddr 4 (.t 35) (.t 36), none⟩,
⟨(some 38), .faddr 3 (.t 37), none⟩,
⟨(some 39), .load false 1 (.t 38), none⟩,
⟨(some 40), .len 0 (.t 39), none⟩,
⟨(some 41), .bin .lss (.t 33) (.t 40), none⟩] [1, 2, 5, 6, 7, 41])
 (.cond (.t 41) .skip
 (.exit 2)))
 (.seq (.block 3 (.seq (.ops [
⟨(some 44), .faddr 1 (.t 2), none⟩,
⟨(some 45), .load false 1 (.t 44), none⟩,
⟨(some 46), .mov (.t 6), none⟩,
⟨(some 47), .iaddr 4 (.t 45) (.t 46), none⟩,
⟨(some 48), .faddr 3 (.t 47), none⟩,
⟨(some 49), .load false 1 (.t 48), none⟩,
⟨(some 50), .mov (.t 7), none⟩,
⟨(some 51), .iaddr 1 (.t 49) (.t 50), none⟩,
⟨(some 52), .load false 1 (.t 51), none⟩,
⟨(some 53), .mov (.t 1), none⟩,
⟨(some 54), .bin .eql (.t 52) (.t 53), none⟩] [1, 2, 5, 6, 7, 54])
 (.cond (.t 54) (.ops [
⟨(some 55), .mov (.t 5), none⟩,
⟨(some 56), .mov (.t 6), none⟩,
⟨(some 57), .mov (.t 7), none⟩,
⟨(some 58), .build [(.int .i64 0), (.int .i64 0)] [(0, 1, (.t 56)), (1, 1, (.t 57))], none⟩,
⟨(some 59), .lit 70 2 false [(.int .i64 0), (.int .i64 0)] 1 [(0, (.t 58))], none⟩,
⟨(some 60), .append 70 2 16 false (.t 55) (.t 59), none⟩,
⟨(some 5), .mov (.t 60), none⟩] [1, 2, 5, 6, 7])
 .skip)))
 (.ops [
⟨(some 42), .mov (.t 7), none⟩,
⟨(some 43), .bin .add (.t 42) (.k (.int .i64 1)), none⟩,
⟨(some 7), .mov (.t 43), none⟩] [1, 2, 5, 6, 7])))
def c_joineryref14_Ways_L1 : C := (.seq (.seq (.ops [
⟨(some 26), .mov (.t 6), none⟩,
⟨(some 27), .faddr 1 (.t 2), none⟩,
⟨(some 28), .load false 1 (.t 27), none⟩,
⟨(some 29), .len 0 (.t 28), none⟩,
⟨(some 30), .bin .lss (.t 26) (.t 29), none⟩] [1, 2, 5, 6, 30])
 (.cond (.t 30) .skip
 (.exit 0)))
 (.seq (.block 1 (.seq (.ops [
⟨(some 7), .mov (.k (.int .i64 0)), none⟩] [1, 2, 5, 6, 7])
 (.block 2 (.loop c_joineryref14_Ways_L0))))
 (.ops [
⟨(some 31), .mov (.t 6), none⟩,
⟨(some 32), .bin .add (.t 31) (.k (.int .i64 1)), none⟩,
⟨(some 6), .mov (.t 32), none⟩] [1, 2, 5, 6])))
def c_joineryref14_Ways : F := ⟨true, 2, (.seq (.ops [
⟨(some 2), .box (.t 0), none⟩,
⟨(some 4), .mov (.k .nils), none⟩] [1, 2])
 (.seq (.ops [
⟨(some 5), .ownnil 70 2 false, none⟩] [1, 2, 5])
 (.seq (.seq (.ops [
⟨(some 8), .mov (.t 1), none⟩,
⟨(some 9), .bin .lss (.t 8) (.k (.int .i64 0)), none⟩,
⟨(some 10), .mov (.t 9), none⟩,
⟨(some 11), .mov (.t 1), (some (10, false))⟩,
⟨(some 12), .faddr 1 (.t 2), (some (10, false))⟩,
⟨(some 13), .load false 1 (.t 12), (some (10, false))⟩,
⟨(some 14), .len 0 (.t 13), (some (10, false))⟩,
⟨(some 15), .bin .geq (.t 11) (.t 14), (some (10, false))⟩,
⟨(some 16), .pick (.t 10) (.k (.bool true)) (.t 15), none⟩] [1, 2, 5, 16])
 (.cond (.t 16) (.seq (.ops [
⟨(some 17), .mov (.t 5), none⟩,
⟨(some 4), .mov (.t 17), none⟩] [4])
 .ret)
 .skip))
 (.seq (.seq (.ops [
⟨(some 18), .faddr 0 (.t 2), none⟩,
⟨(some 19), .load false 1 (.t 18), none⟩,
⟨(some 20), .mov (.t 1), none⟩,
⟨(some 21), .bin .eql (.t 19) (.t 20), none⟩] [1, 2, 5, 21])
 (.cond (.t 21) (.ops [
⟨(some 22), .mov (.t 5), none⟩,
⟨(some 23), .build [(.int .i64 0), (.int .i64 0)] [(0, 1, (.k (.int .i64 (-1)))), (1, 1, (.k (.int .i64 0)))], none⟩,
⟨(some 24), .lit 70 2 false [(.int .i64 0), (.int .i64 0)] 1 [(0, (.t 23))], none⟩,
⟨(some 25), .append 70 2 16 false (.t 22) (.t 24), none⟩,
⟨(some 5), .mov (.t 25), none⟩] [1, 2, 5])
 .skip))
 (.seq (.seq (.ops [
⟨(some 6), .mov (.k (.int .i64 0)), none⟩] [1, 2, 5, 6])
 (.block 0 (.loop c_joineryref14_Ways_L1)))
 (.seq (.ops [
⟨(some 61), .mov (.t 5), none⟩,
⟨(some 4), .mov (.t 61), none⟩] [4])
 .ret)))))), [.tmp 4]⟩
abbrev n_joineryref14_Ways : Nat := 60
def c_joineryref14_may : F := ⟨true, 3, (.seq (.ops [
⟨(some 3), .box (.t 0), none⟩,
⟨(some 4), .box (.t 1), none⟩,
⟨(some 5), .box (.t 2), none⟩,
⟨(some 6), .mov (.k (.bool false)), none⟩] [3, 4, 5])
 (.seq (.seq (.ops [
⟨(some 8), .faddr 0 (.t 4), none⟩,
⟨(some 9), .load false 1 (.t 8), none⟩,
⟨(some 10), .bin .eql (.t 9) (.k (.int .i64 2)), none⟩] [3, 4, 5, 10])
 (.cond (.t 10) (.seq (.ops [
⟨(some 6), .mov (.k (.bool true)), none⟩] [6])
 .ret)
 .skip))
 (.seq (.seq (.ops [
⟨(some 11), .faddr 0 (.t 4), none⟩,
⟨(some 12), .load false 1 (.t 11), none⟩,
⟨(some 13), .bin .eql (.t 12) (.k (.int .i64 0)), none⟩] [3, 4, 5, 13])
 (.cond (.t 13) (.seq (.ops [
⟨(some 14), .faddr 1 (.t 4), none⟩,
⟨(some 15), .load false 1 (.t 14), none⟩,
⟨(some 16), .bin .eql (.t 15) (.k (.int .i64 0)), none⟩,
⟨(some 6), .mov (.t 16), none⟩] [6])
 .ret)
 .skip))
 (.seq (.seq (.ops [
⟨(some 17), .faddr 0 (.t 5), none⟩,
⟨(some 18), .load false 1 (.t 17), none⟩,
⟨(some 19), .bin .eql (.t 18) (.k (.int .i64 (-1))), none⟩] [3, 4, 5, 19])
 (.cond (.t 19) (.seq (.ops [
⟨(some 20), .faddr 0 (.t 4), none⟩,
⟨(some 21), .load false 1 (.t 20), none⟩,
⟨(some 22), .bin .eql (.t 21) (.k (.int .i64 1)), none⟩,
⟨(some 23), .mov (.t 22), none⟩,
⟨(some 24), .faddr 1 (.t 4), (some (23, true))⟩,
⟨(some 25), .load false 1 (.t 24), (some (23, true))⟩,
⟨(some 26), .bin .geq (.t 25) (.k (.int .i64 0)), (some (23, true))⟩,
⟨(some 27), .pick (.t 23) (.t 26) (.k (.bool false)), none⟩,
⟨(some 28), .mov (.t 27), none⟩,
⟨(some 29), .faddr 1 (.t 4), (some (28, true))⟩,
⟨(some 30), .load false 1 (.t 29), (some (28, true))⟩,
⟨(some 31), .bin .leq (.t 30) (.k (.int .i64 7)), (some (28, true))⟩,
⟨(some 32), .pick (.t 28) (.t 31) (.k (.bool false)), none⟩,
⟨(some 6), .mov (.t 32), none⟩] [6])
 .ret)
 .skip))
 (.seq (.ops [
⟨(some 33), .faddr 1 (.t 3), none⟩,
⟨(some 34), .load false 1 (.t 33), none⟩,
⟨(some 35), .faddr 0 (.t 5), none⟩,
⟨(some 36), .load false 1 (.t 35), none⟩,
⟨(some 37), .iaddr 4 (.t 34) (.t 36), none⟩,
⟨(some 38), .faddr 0 (.t 37), none⟩,
⟨(some 39), .load false 1 (.t 38), none⟩,
⟨(some 7), .mov (.t 39), none⟩] [3, 4, 5, 7])
 (.seq (.seq (.ops [
⟨(some 40), .faddr 0 (.t 4), none⟩,
⟨(some 41), .load false 1 (.t 40), none⟩,
⟨(some 42), .bin .eql (.t 41) (.k (.int .i64 3)), none⟩] [3, 4, 5, 7, 42])
 (.cond (.t 42) (.seq (.ops [
⟨(some 43), .faddr 1 (.t 4), none⟩,
⟨(some 44), .load false 1 (.t 43), none⟩,
⟨(some 45), .bin .eql (.t 44) (.k (.int .i64 0)), none⟩,
⟨(some 46), .mov (.t 45), none⟩,
⟨(some 47), .mov (.t 7), (some (46, true))⟩,
⟨(some 48), .bin .geq (.t 47) (.k (.int .i64 4)), (some (46, true))⟩,
⟨(some 49), .mov (.t 48), (some (46, true))⟩,
⟨(some 50), .mov (.t 7), (some (49, true))⟩,
⟨(some 51), .bin .leq (.t 50) (.k (.int .i64 13)), (some (49, true))⟩,
⟨(some 52), .pick (.t 49) (.t 51) (.k (.bool false)), (some (46, true))⟩,
⟨(some 53), .mov (.t 52), (some (46, true))⟩,
⟨(some 54), .mov (.t 7), (some (53, false))⟩,
⟨(some 55), .bin .eql (.t 54) (.k (.int .i64 15)), (some (53, false))⟩,
⟨(some 56), .pick (.t 53) (.k (.bool true)) (.t 55), (some (46, true))⟩,
⟨(some 57), .pick (.t 46) (.t 56) (.k (.bool false)), none⟩,
⟨(some 6), .mov (.t 57), none⟩] [6])
 .ret)
 .skip))
 (.seq (.ops [
⟨(some 58), .load true 3 (.t 3), none⟩,
⟨(some 59), .load true 2 (.t 4), none⟩,
⟨(some 60), .faddr 0 (.t 5), none⟩,
⟨(some 61), .load false 1 (.t 60), none⟩,
⟨(some 62), .call 59 [(.t 58), (.t 59), (.t 61)], none⟩,
⟨(some 6), .mov (.t 62), none⟩] [6])
 .ret))))))), [.tmp 6]⟩
abbrev n_joineryref14_may : Nat := 61
def c_joineryref15_by_D0 : List O := [
⟨(some 69), .load true 11 (.t 8), none⟩,
⟨(some 70), .mov (.t 2), none⟩,
⟨(some 71), .mov (.t 3), none⟩,
⟨(some 72), .faddr 2 (.t 7), none⟩,
⟨(some 73), .load false 1 (.t 72), none⟩,
⟨(some 74), .mov (.t 17), none⟩,
⟨(some 75), .iaddr 2 (.t 73) (.t 74), none⟩,
⟨(some 76), .faddr 1 (.t 75), none⟩,
⟨(some 77), .load false 1 (.t 76), none⟩,
⟨(some 78), .mov (.t 19), none⟩,
⟨(some 79), .iaddr 2 (.t 77) (.t 78), none⟩,
⟨(some 80), .load true 2 (.t 79), none⟩,
⟨(some 81), .call 63 [(.t 69), (.t 70), (.t 71), (.t 80)], none⟩,
⟨none, .store 2 (.t 18) (.t 81), none⟩]
def c_joineryref15_by_L1 : C := (.seq (.seq (.ops [
⟨(some 37), .faddr 2 (.t 7), none⟩,
⟨(some 38), .load false 1 (.t 37), none⟩,
⟨(some 39), .mov (.t 17), none⟩,
⟨(some 40), .iaddr 2 (.t 38) (.t 39), none⟩,
⟨(some 41), .faddr 0 (.t 40), none⟩,
⟨(some 42), .load false 1 (.t 41), none⟩,
⟨(some 43), .mov (.t 6), none⟩,
⟨(some 44), .bin .eql (.t 42) (.t 43), none⟩,
⟨(some 45), .mov (.t 44), none⟩,
⟨(some 46), .mov (.t 19), (some (45, true))⟩,
⟨(some 47), .mov (.t 15), (some (45, true))⟩,
⟨(some 48), .len 0 (.t 47), (some (45, true))⟩,
⟨(some 49), .bin .lss (.t 46) (.t 48), (some (45, true))⟩,
⟨(some 50), .pick (.t 45) (.t 49) (.k (.bool false)), none⟩] [2, 3, 4, 5, 6, 7, 8, 15, 16, 17, 18, 19, 50])
 (.cond (.t 50) .skip
 (.exit 2)))
 (.seq (.block 3 (.seq (.ops [
⟨(some 53), .mov (.t 15), none⟩,
⟨(some 54), .mov (.t 19), none⟩,
⟨(some 55), .iaddr 2 (.t 53) (.t 54), none⟩,
⟨(some 56), .faddr 0 (.t 55), none⟩,
⟨(some 57), .load false 1 (.t 56), none⟩,
⟨(some 58), .mov (.t 4), none⟩,
⟨(some 59), .bin .eql (.t 57) (.t 58), none⟩,
⟨(some 60), .mov (.t 59), none⟩,
⟨(some 61), .mov (.t 15), (some (60, true))⟩,
⟨(some 62), .mov (.t 19), (some (60, true))⟩,
⟨(some 63), .iaddr 2 (.t 61) (.t 62), (some (60, true))⟩,
⟨(some 64), .faddr 1 (.t 63), (some (60, true))⟩,
⟨(some 65), .load false 1 (.t 64), (some (60, true))⟩,
⟨(some 66), .mov (.t 5), (some (60, true))⟩,
⟨(some 67), .bin .eql (.t 65) (.t 66), (some (60, true))⟩,
⟨(some 68), .pick (.t 60) (.t 67) (.k (.bool false)), none⟩] [2, 3, 4, 5, 6, 7, 8, 15, 16, 17, 18, 19, 68])
 (.cond (.t 68) (.opsD c_joineryref15_by_D0 [0, 0, 0, 0, 8, 0, 56, 120, 248, 0, 1016, 2040, 4095, 8191] [2, 3, 4, 5, 6, 7, 8, 15, 16, 17, 18, 19])
 .skip)))
 (.ops [
⟨(some 51), .mov (.t 19), none⟩,
⟨(some 52), .bin .add (.t 51) (.k (.int .i64 1)), none⟩,
⟨(some 19), .mov (.t 52), none⟩] [2, 3, 4, 5, 6, 7, 8, 15, 16, 17, 18, 19])))
def c_joineryref15_by_L2 : C := (.seq (.seq (.ops [
⟨(some 26), .mov (.t 17), none⟩,
⟨(some 27), .faddr 2 (.t 7), none⟩,
⟨(some 28), .load false 1 (.t 27), none⟩,
⟨(some 29), .len 0 (.t 28), none⟩,
⟨(some 30), .bin .lss (.t 26) (.t 29), none⟩] [2, 3, 4, 5, 6, 7, 8, 15, 16, 17, 30])
 (.cond (.t 30) .skip
 (.exit 0)))
 (.seq (.block 1 (.seq (.ops [
⟨(some 33), .mov (.t 2), none⟩,
⟨(some 34), .mov (.t 17), none⟩,
⟨(some 35), .iaddr 2 (.t 33) (.t 34), none⟩,
⟨(some 36), .load true 2 (.t 35), none⟩,
⟨(some 18), .alloc [(.bool false), (.int .i64 0)], none⟩,
⟨none, .store 2 (.t 18) (.t 36), none⟩] [2, 3, 4, 5, 6, 7, 8, 15, 16, 17, 18])
 (.seq (.seq (.ops [
⟨(some 19), .mov (.k (.int .i64 0)), none⟩] [2, 3, 4, 5, 6, 7, 8, 15, 16, 17, 18, 19])
 (.block 2 (.loop c_joineryref15_by_L1)))
 (.ops [
⟨(some 82), .mov (.t 16), none⟩,
⟨(some 83), .load true 2 (.t 18), none⟩,
⟨(some 84), .lit 45 2 false [(.bool false), (.int .i64 0)] 1 [(0, (.t 83))], none⟩,
⟨(some 85), .append 45 2 16 false (.t 82) (.t 84), none⟩,
⟨(some 16), .mov (.t 85), none⟩] [2, 3, 4, 5, 6, 7, 8, 15, 16, 17]))))
 (.ops [
⟨(some 31), .mov (.t 17), none⟩,
⟨(some 32), .bin .add (.t 31) (.k (.int .i64 1)), none⟩,
⟨(some 17), .mov (.t 32), none⟩] [2, 3, 4, 5, 6, 7, 8, 15, 16, 17])))
def c_joineryref15_by : F := ⟨false, 7, (.seq (.ops [
⟨(some 7), .box (.t 0), none⟩,
⟨(some 8), .box (.t 1), none⟩,
⟨(some 14), .mov (.k .nils), none⟩] [2, 3, 4, 5, 6, 7, 8])
 (.seq (.seq (.ops [
⟨(some 20), .mov (.t 6), none⟩,
⟨(some 21), .bin .lss (.t 20) (.k (.int .i64 0)), none⟩] [2, 3, 4, 5, 6, 7, 8, 21])
 (.cond (.t 21) (.seq (.ops [
⟨(some 22), .mov (.t 2), none⟩,
⟨(some 14), .mov (.t 22), none⟩] [14])
 .ret)
 .skip))
 (.seq (.ops [
⟨(some 23), .load true 3 (.t 7), none⟩,
⟨(some 24), .mov (.t 6), none⟩,
⟨(some 25), .call 60 [(.t 23), (.t 24)], none⟩,
⟨(some 15), .mov (.t 25), none⟩] [2, 3, 4, 5, 6, 7, 8, 15])
 (.seq (.ops [
⟨(some 16), .ownnil 45 2 false, none⟩] [2, 3, 4, 5, 6, 7, 8, 15, 16])
 (.seq (.seq (.ops [
⟨(some 17), .mov (.k (.int .i64 0)), none⟩] [2, 3, 4, 5, 6, 7, 8, 15, 16, 17])
 (.block 0 (.loop c_joineryref15_by_L2)))
 (.seq (.ops [
⟨(some 86), .mov (.t 16), none⟩,
⟨(some 14), .mov (.t 86), none⟩] [14])
 .ret)))))), [.tmp 14]⟩
abbrev n_joineryref15_by : Nat := 62
def c_joineryref15_word : F := ⟨true, 4, (.seq (.ops [
⟨(some 4), .box (.t 0), none⟩,
⟨(some 7), .box (.t 3), none⟩,
⟨(some 8), .alloc [(.bool false), (.int .i64 0)], none⟩] [1, 2, 4, 7, 8])
 (.seq (.seq (.ops [
⟨(some 10), .faddr 0 (.t 7), none⟩,
⟨(some 11), .load false 1 (.t 10), none⟩,
⟨(some 12), .bin .eql (.t 11) (.k (.int .i64 0)), none⟩] [1, 2, 4, 7, 8, 12])
 (.cond (.t 12) (.seq (.ops [
⟨(some 13), .build [(.bool false), (.int .i64 0)] [], none⟩,
⟨none, .store 2 (.t 8) (.t 13), none⟩] [8])
 .ret)
 .skip))
 (.seq (.seq (.ops [
⟨(some 14), .faddr 0 (.t 7), none⟩,
⟨(some 15), .load false 1 (.t 14), none⟩,
⟨(some 16), .bin .eql (.t 15) (.k (.int .i64 4)), none⟩] [1, 2, 4, 7, 8, 16])
 (.cond (.t 16) (.seq (.ops [
⟨(some 17), .mov (.t 1), none⟩,
⟨(some 18), .faddr 1 (.t 7), none⟩,
⟨(some 19), .load false 1 (.t 18), none⟩,
⟨(some 20), .iaddr 2 (.t 17) (.t 19), none⟩,
⟨(some 21), .load true 2 (.t 20), none⟩,
⟨none, .store 2 (.t 8) (.t 21), none⟩] [8])
 .ret)
 .skip))
 (.seq (.ops [
⟨(some 22), .faddr 1 (.t 7), none⟩,
⟨(some 23), .load false 1 (.t 22), none⟩,
⟨(some 9), .mov (.t 23), none⟩] [2, 4, 7, 8, 9])
 (.seq (.seq (.ops [
⟨(some 24), .faddr 0 (.t 7), none⟩,
⟨(some 25), .load false 1 (.t 24), none⟩,
⟨(some 26), .bin .eql (.t 25) (.k (.int .i64 1)), none⟩] [2, 4, 7, 8, 9, 26])
 (.cond (.t 26) (.ops [
⟨(some 27), .faddr 1 (.t 7), none⟩,
⟨(some 28), .load false 1 (.t 27), none⟩,
⟨(some 29), .faddr 0 (.t 4), none⟩,
⟨(some 30), .iaddrA 8 1 (.t 29) (.t 28), none⟩,
⟨(some 31), .load false 1 (.t 30), none⟩,
⟨(some 9), .mov (.t 31), none⟩] [2, 7, 8, 9])
 .skip))
 (.seq (.seq (.ops [
⟨(some 32), .faddr 0 (.t 7), none⟩,
⟨(some 33), .load false 1 (.t 32), none⟩,
⟨(some 34), .bin .eql (.t 33) (.k (.int .i64 3)), none⟩] [2, 8, 9, 34])
 (.cond (.t 34) (.ops [
⟨(some 35), .mov (.t 2), none⟩,
⟨(some 9), .mov (.t 35), none⟩] [8, 9])
 .skip))
 (.seq (.ops [
⟨(some 36), .mov (.t 9), none⟩,
⟨(some 37), .build [(.bool false), (.int .i64 0)] [(0, 1, (.k (.bool true))), (1, 1, (.t 36))], none⟩,
⟨none, .store 2 (.t 8) (.t 37), none⟩] [8])
 .ret))))))), [.cell 8 true 2]⟩
abbrev n_joineryref15_word : Nat := 63
def c_joineryref06_Load_L0 : C := (.seq (.seq (.ops [
⟨(some 10), .mov (.t 6), none⟩,
⟨(some 11), .mov (.t 0), none⟩,
⟨(some 12), .len 0 (.t 11), none⟩,
⟨(some 13), .bin .lss (.t 10) (.t 12), none⟩] [0, 1, 6, 13])
 (.cond (.t 13) .skip
 (.exit 0)))
 (.seq (.block 1 (.seq (.ops [
⟨(some 16), .mov (.t 6), none⟩,
⟨(some 17), .mov (.t 1), none⟩,
⟨(some 18), .bin .eql (.t 16) (.t 17), none⟩] [0, 1, 6, 18])
 (.cond (.t 18) (.seq (.ops [
⟨(some 19), .mov (.t 0), none⟩,
⟨(some 20), .mov (.t 6), none⟩,
⟨(some 21), .iaddr 1 (.t 19) (.t 20), none⟩,
⟨(some 22), .load false 1 (.t 21), none⟩,
⟨(some 4), .mov (.t 22), none⟩,
⟨(some 5), .mov (.k (.int .i64 0)), none⟩] [4, 5])
 .ret)
 .skip)))
 (.ops [
⟨(some 14), .mov (.t 6), none⟩,
⟨(some 15), .bin .add (.t 14) (.k (.int .i64 1)), none⟩,
⟨(some 6), .mov (.t 15), none⟩] [0, 1, 6])))
def c_joineryref06_Load : F := ⟨true, 2, (.seq (.ops [
⟨(some 4), .mov (.k (.int .i64 0)), none⟩,
⟨(some 5), .mov (.k (.int .i64 0)), none⟩] [0, 1])
 (.seq (.seq (.ops [
⟨(some 7), .mov (.t 0), none⟩,
⟨(some 8), .len 0 (.t 7), none⟩,
⟨(some 9), .bin .leq (.t 8) (.k (.int .i64 16)), none⟩] [0, 1, 9])
 (.cond (.t 9) (.seq (.ops [
⟨(some 6), .mov (.k (.int .i64 0)), none⟩] [0, 1, 6])
 (.block 0 (.loop c_joineryref06_Load_L0)))
 .skip))
 (.seq (.ops [
⟨(some 4), .mov (.k (.int .i64 0)), none⟩,
⟨(some 5), .mov (.k (.int .i64 4)), none⟩] [4, 5])
 .ret))), [.tmp 4, .tmp 5]⟩
abbrev n_joineryref06_Load : Nat := 64
def c_joineryref06_Store_L0 : C := (.seq (.seq (.ops [
⟨(some 21), .mov (.t 11), none⟩,
⟨(some 22), .mov (.t 0), none⟩,
⟨(some 23), .len 0 (.t 22), none⟩,
⟨(some 24), .bin .lss (.t 21) (.t 23), none⟩] [0, 1, 2, 10, 11, 24])
 (.cond (.t 24) .skip
 (.exit 0)))
 (.seq (.block 1 (.seq (.ops [
⟨(some 27), .mov (.t 11), none⟩,
⟨(some 28), .mov (.t 1), none⟩,
⟨(some 29), .bin .eql (.t 27) (.t 28), none⟩] [0, 1, 2, 10, 11, 29])
 (.cond (.t 29) (.ops [
⟨(some 30), .mov (.t 10), none⟩,
⟨(some 31), .mov (.t 2), none⟩,
⟨(some 32), .lit 2 1 false [(.int .i64 0)] 1 [(0, (.t 31))], none⟩,
⟨(some 33), .append 2 1 8 false (.t 30) (.t 32), none⟩,
⟨(some 10), .mov (.t 33), none⟩] [0, 1, 2, 10, 11])
 (.ops [
⟨(some 34), .mov (.t 10), none⟩,
⟨(some 35), .mov (.t 0), none⟩,
⟨(some 36), .mov (.t 11), none⟩,
⟨(some 37), .iaddr 1 (.t 35) (.t 36), none⟩,
⟨(some 38), .load false 1 (.t 37), none⟩,
⟨(some 39), .lit 2 1 false [(.int .i64 0)] 1 [(0, (.t 38))], none⟩,
⟨(some 40), .append 2 1 8 false (.t 34) (.t 39), none⟩,
⟨(some 10), .mov (.t 40), none⟩] [0, 1, 2, 10, 11]))))
 (.ops [
⟨(some 25), .mov (.t 11), none⟩,
⟨(some 26), .bin .add (.t 25) (.k (.int .i64 1)), none⟩,
⟨(some 11), .mov (.t 26), none⟩] [0, 1, 2, 10, 11])))
def c_joineryref06_Store : F := ⟨true, 3, (.seq (.ops [
⟨(some 6), .mov (.k .nils), none⟩,
⟨(some 7), .mov (.k (.int .i64 0)), none⟩] [0, 1, 2])
 (.seq (.ops [
⟨(some 13), .mov (.t 0), none⟩,
⟨(some 14), .mov (.t 1), none⟩,
⟨(some 15), .call 64 [(.t 13), (.t 14)], none⟩,
⟨(some 12), .mov (.t 15), none⟩,
⟨(some 16), .extract (.t 12) 0, none⟩,
⟨(some 17), .extract (.t 12) 1, none⟩,
⟨(some 8), .mov (.t 16), none⟩,
⟨(some 9), .mov (.t 17), none⟩] [0, 1, 2, 9])
 (.seq (.seq (.ops [
⟨(some 18), .mov (.t 9), none⟩,
⟨(some 19), .bin .neq (.t 18) (.k (.int .i64 0)), none⟩] [0, 1, 2, 9, 19])
 (.cond (.t 19) (.seq (.ops [
⟨(some 20), .mov (.t 9), none⟩,
⟨(some 6), .mov (.k .nils), none⟩,
⟨(some 7), .mov (.t 20), none⟩] [6, 7])
 .ret)
 .skip))
 (.seq (.ops [
⟨(some 10), .ownnil 2 1 false, none⟩] [0, 1, 2, 10])
 (.seq (.seq (.ops [
⟨(some 11), .mov (.k (.int .i64 0)), none⟩] [0, 1, 2, 10, 11])
 (.block 0 (.loop c_joineryref06_Store_L0)))
 (.seq (.ops [
⟨(some 41), .mov (.t 10), none⟩,
⟨(some 6), .mov (.t 41), none⟩,
⟨(some 7), .mov (.k (.int .i64 0)), none⟩] [6, 7])
 .ret)))))), [.tmp 6, .tmp 7]⟩
abbrev n_joineryref06_Store : Nat := 65
def c_joineryref01_Do : F := ⟨true, 3, (.seq (.ops [
⟨(some 6), .mov (.k (.int .i64 0)), none⟩,
⟨(some 7), .mov (.k (.int .i64 0)), none⟩] [0, 1, 2])
 (.seq (.seq (.ops [
⟨(some 8), .mov (.t 0), none⟩] [1, 2, 8])
 (.block 0 (.seq (.ops [
⟨(some 10), .bin .eql (.t 8) (.k (.int .i64 4)), none⟩,
⟨(some 9), .mov (.t 10), none⟩] [1, 2, 8, 9])
 (.cond (.t 9) (.seq (.ops [
⟨(some 11), .mov (.t 1), none⟩,
⟨(some 12), .mov (.t 2), none⟩,
⟨(some 13), .bin .add (.t 11) (.t 12), none⟩,
⟨(some 6), .mov (.t 13), none⟩,
⟨(some 7), .mov (.k (.int .i64 0)), none⟩] [6, 7])
 .ret)
 (.seq (.ops [
⟨(some 15), .bin .eql (.t 8) (.k (.int .i64 5)), none⟩,
⟨(some 14), .mov (.t 15), none⟩] [1, 2, 8, 14])
 (.cond (.t 14) (.seq (.ops [
⟨(some 16), .mov (.t 1), none⟩,
⟨(some 17), .mov (.t 2), none⟩,
⟨(some 18), .bin .sub (.k (.int .i64 0)) (.t 17), none⟩,
⟨(some 19), .bin .add (.t 16) (.t 18), none⟩,
⟨(some 6), .mov (.t 19), none⟩,
⟨(some 7), .mov (.k (.int .i64 0)), none⟩] [6, 7])
 .ret)
 (.seq (.ops [
⟨(some 21), .bin .eql (.t 8) (.k (.int .i64 6)), none⟩,
⟨(some 20), .mov (.t 21), none⟩] [1, 2, 8, 20])
 (.cond (.t 20) (.seq (.ops [
⟨(some 22), .mov (.t 1), none⟩,
⟨(some 23), .mov (.t 2), none⟩,
⟨(some 24), .bin .mul (.t 22) (.t 23), none⟩,
⟨(some 6), .mov (.t 24), none⟩,
⟨(some 7), .mov (.k (.int .i64 0)), none⟩] [6, 7])
 .ret)
 (.seq (.ops [
⟨(some 26), .bin .eql (.t 8) (.k (.int .i64 7)), none⟩,
⟨(some 25), .mov (.t 26), none⟩] [1, 2, 8, 25])
 (.cond (.t 25) (.seq (.seq (.ops [
⟨(some 27), .mov (.t 2), none⟩,
⟨(some 28), .bin .eql (.t 27) (.k (.int .i64 0)), none⟩] [1, 2, 28])
 (.cond (.t 28) (.seq (.ops [
⟨(some 6), .mov (.k (.int .i64 0)), none⟩,
⟨(some 7), .mov (.k (.int .i64 3)), none⟩] [6, 7])
 .ret)
 .skip))
 (.seq (.seq (.ops [
⟨(some 29), .mov (.t 2), none⟩,
⟨(some 30), .bin .eql (.t 29) (.k (.int .i64 (-1))), none⟩] [1, 2, 30])
 (.cond (.t 30) (.seq (.ops [
⟨(some 31), .mov (.t 1), none⟩,
⟨(some 32), .bin .sub (.k (.int .i64 0)) (.t 31), none⟩,
⟨(some 6), .mov (.t 32), none⟩,
⟨(some 7), .mov (.k (.int .i64 0)), none⟩] [6, 7])
 .ret)
 .skip))
 (.seq (.ops [
⟨(some 33), .mov (.t 1), none⟩,
⟨(some 34), .mov (.t 2), none⟩,
⟨(some 35), .bin .quo (.t 33) (.t 34), none⟩,
⟨(some 6), .mov (.t 35), none⟩,
⟨(some 7), .mov (.k (.int .i64 0)), none⟩] [6, 7])
 .ret)))
 (.seq (.ops [
⟨(some 37), .bin .eql (.t 8) (.k (.int .i64 8)), none⟩,
⟨(some 36), .mov (.t 37), none⟩] [1, 2, 8, 36])
 (.cond (.t 36) (.seq (.ops [
⟨(some 38), .mov (.t 1), none⟩,
⟨(some 39), .mov (.t 2), none⟩,
⟨(some 40), .bin .and (.t 38) (.t 39), none⟩,
⟨(some 6), .mov (.t 40), none⟩,
⟨(some 7), .mov (.k (.int .i64 0)), none⟩] [6, 7])
 .ret)
 (.seq (.ops [
⟨(some 42), .bin .eql (.t 8) (.k (.int .i64 9)), none⟩,
⟨(some 41), .mov (.t 42), none⟩] [1, 2, 8, 41])
 (.cond (.t 41) (.seq (.ops [
⟨(some 43), .mov (.t 1), none⟩,
⟨(some 44), .mov (.t 2), none⟩,
⟨(some 45), .bin .or (.t 43) (.t 44), none⟩,
⟨(some 6), .mov (.t 45), none⟩,
⟨(some 7), .mov (.k (.int .i64 0)), none⟩] [6, 7])
 .ret)
 (.seq (.ops [
⟨(some 47), .bin .eql (.t 8) (.k (.int .i64 10)), none⟩,
⟨(some 46), .mov (.t 47), none⟩] [1, 2, 8, 46])
 (.cond (.t 46) (.seq (.ops [
⟨(some 48), .mov (.t 1), none⟩,
⟨(some 49), .mov (.t 2), none⟩,
⟨(some 50), .bin .or (.t 48) (.t 49), none⟩,
⟨(some 51), .mov (.t 1), none⟩,
⟨(some 52), .mov (.t 2), none⟩,
⟨(some 53), .bin .and (.t 51) (.t 52), none⟩,
⟨(some 54), .bin .sub (.t 50) (.t 53), none⟩,
⟨(some 6), .mov (.t 54), none⟩,
⟨(some 7), .mov (.k (.int .i64 0)), none⟩] [6, 7])
 .ret)
 (.seq (.ops [
⟨(some 56), .bin .eql (.t 8) (.k (.int .i64 11)), none⟩,
⟨(some 55), .mov (.t 56), none⟩] [1, 2, 8, 55])
 (.cond (.t 55) (.seq (.seq (.ops [
⟨(some 57), .mov (.t 2), none⟩,
⟨(some 58), .mov (.t 1), none⟩,
⟨(some 59), .bin .gtr (.t 57) (.t 58), none⟩] [59])
 (.cond (.t 59) (.seq (.ops [
⟨(some 6), .mov (.k (.int .i64 1)), none⟩,
⟨(some 7), .mov (.k (.int .i64 0)), none⟩] [6, 7])
 .ret)
 .skip))
 (.seq (.ops [
⟨(some 6), .mov (.k (.int .i64 0)), none⟩,
⟨(some 7), .mov (.k (.int .i64 0)), none⟩] [6, 7])
 .ret))
 (.seq (.ops [
⟨(some 61), .bin .eql (.t 8) (.k (.int .i64 12)), none⟩,
⟨(some 60), .mov (.t 61), none⟩] [1, 2, 60])
 (.cond (.t 60) (.seq (.seq (.ops [
⟨(some 62), .mov (.t 1), none⟩,
⟨(some 63), .mov (.t 2), none⟩,
⟨(some 64), .bin .lss (.t 62) (.t 63), none⟩,
⟨(some 65), .mov (.t 64), none⟩,
⟨(some 66), .mov (.t 1), (some (65, false))⟩,
⟨(some 67), .mov (.t 2), (some (65, false))⟩,
⟨(some 68), .bin .gtr (.t 66) (.t 67), (some (65, false))⟩,
⟨(some 69), .pick (.t 65) (.k (.bool true)) (.t 68), none⟩] [69])
 (.cond (.t 69) (.seq (.ops [
⟨(some 6), .mov (.k (.int .i64 0)), none⟩,
⟨(some 7), .mov (.k (.int .i64 0)), none⟩] [6, 7])
 .ret)
 .skip))
 (.seq (.ops [
⟨(some 6), .mov (.k (.int .i64 1)), none⟩,
⟨(some 7), .mov (.k (.int .i64 0)), none⟩] [6, 7])
 .ret))
 .skip))))))))))))))))))))
 (.seq (.ops [
⟨(some 6), .mov (.k (.int .i64 0)), none⟩,
⟨(some 7), .mov (.k (.int .i64 2)), none⟩] [6, 7])
 .ret))), [.tmp 6, .tmp 7]⟩
abbrev n_joineryref01_Do : Nat := 66
def c_skel_Build_1 : F := ⟨false, 4, (.seq (.ops [
⟨(some 5), .alloc [(.int .i64 0), .nilI, .nilI, .nilI, .nilI, .nilI, .nilI, .nilI, .nilI, .nilI, .nilI, .nilI, .nilI, .nilI, .nilI, .nilI, .nilI, .nilI, .nilI, .nilI, .nilI, .nilI, .nilI, .nilI, .nilI], none⟩] [0, 1, 2, 3, 5])
 (.seq (.ops [
⟨(some 11), .load false 1 (.t 1), none⟩,
⟨(some 12), .mov (.t 0), none⟩,
⟨(some 13), .call 72 [(.t 11), (.t 12)], none⟩,
⟨(some 10), .mov (.t 13), none⟩,
⟨(some 14), .extract (.t 10) 0, none⟩,
⟨(some 15), .extract (.t 10) 1, none⟩,
⟨(some 6), .alloc [(.int .i64 0), .nilI, .nilI, .nilI, .nilI, .nilI, .nilI, .nilI, .nilI, .nilI, .nilI, .nilI, .nilI, .nilI, .nilI, .nilI, .nilI, .nilI, .nilI, .nilI, .nilI, .nilI, .nilI, .nilI, .nilI, (.int .i64 0)], none⟩,
⟨none, .store 26 (.t 6) (.t 14), none⟩,
⟨(some 7), .mov (.t 15), none⟩] [2, 3, 5, 6])
 (.seq (.seq (.ops [
⟨(some 16), .faddr 0 (.t 6), none⟩,
⟨(some 17), .load false 1 (.t 16), none⟩,
⟨(some 18), .bin .lss (.t 17) (.k (.int .i64 0)), none⟩] [2, 3, 5, 6, 18])
 (.cond (.t 18) (.seq (.ops [
⟨(some 19), .faddr 1 (.t 6), none⟩,
⟨(some 20), .load true 24 (.t 19), none⟩,
⟨(some 21), .build [(.int .i64 0), .nilI, .nilI, .nilI, .nilI, .nilI, .nilI, .nilI, .nilI, .nilI, .nilI, .nilI, .nilI, .nilI, .nilI, .nilI, .nilI, .nilI, .nilI, .nilI, .nilI, .nilI, .nilI, .nilI, .nilI] [(0, 1, (.k (.int .i64 (-1)))), (1, 24, (.t 20))], none⟩,
⟨none, .store 25 (.t 5) (.t 21), none⟩] [5])
 .ret)
 .skip))
 (.seq (.ops [
⟨(some 23), .load false 1 (.t 2), none⟩,
⟨(some 24), .faddr 0 (.t 6), none⟩,
⟨(some 25), .load false 1 (.t 24), none⟩,
⟨(some 26), .lookup true .ti (.int .i64 0) (.t 23) (.t 25), none⟩,
⟨(some 22), .mov (.t 26), none⟩,
⟨(some 27), .extract (.t 22) 0, none⟩,
⟨(some 28), .extract (.t 22) 1, none⟩,
⟨(some 8), .mov (.t 27), none⟩,
⟨(some 9), .mov (.t 28), none⟩] [2, 3, 5, 6, 8, 9])
 (.seq (.seq (.ops [
⟨(some 29), .mov (.t 9), none⟩,
⟨(some 30), .un .not (.t 29), none⟩] [2, 3, 5, 6, 8, 30])
 (.cond (.t 30) (.seq (.ops [
⟨(some 31), .faddr 25 (.t 3), none⟩,
⟨(some 32), .load false 1 (.t 31), none⟩,
⟨(some 33), .len 0 (.t 32), none⟩,
⟨(some 8), .mov (.t 33), none⟩] [2, 3, 5, 6, 8])
 (.seq (.ops [
⟨(some 34), .load false 1 (.t 2), none⟩,
⟨(some 35), .faddr 0 (.t 6), none⟩,
⟨(some 36), .load false 1 (.t 35), none⟩,
⟨(some 37), .mov (.t 8), none⟩,
⟨none, .mapset .ti (.t 34) (.t 36) (.t 37), none⟩] [3, 5, 6, 8])
 (.ops [
⟨(some 38), .faddr 25 (.t 3), none⟩,
⟨(some 39), .load false 1 (.t 38), none⟩,
⟨(some 40), .faddr 0 (.t 6), none⟩,
⟨(some 41), .load false 1 (.t 40), none⟩,
⟨(some 42), .build [(.int .i64 0), .nils] [(0, 1, (.t 41))], none⟩,
⟨(some 43), .lit 120 2 false [(.int .i64 0), .nils] 1 [(0, (.t 42))], none⟩,
⟨(some 44), .append 120 2 32 false (.t 39) (.t 43), none⟩,
⟨(some 45), .faddr 25 (.t 3), none⟩,
⟨none, .store 1 (.t 45) (.t 44), none⟩] [5, 6, 8])))
 .skip))
 (.seq (.ops [
⟨(some 46), .mov (.t 8), none⟩,
⟨(some 47), .faddr 1 (.t 6), none⟩,
⟨(some 48), .load true 24 (.t 47), none⟩,
⟨(some 49), .build [(.int .i64 0), .nilI, .nilI, .nilI, .nilI, .nilI, .nilI, .nilI, .nilI, .nilI, .nilI, .nilI, .nilI, .nilI, .nilI, .nilI, .nilI, .nilI, .nilI, .nilI, .nilI, .nilI, .nilI, .nilI, .nilI] [(0, 1, (.t 46)), (1, 24, (.t 48))], none⟩,
⟨none, .store 25 (.t 5) (.t 49), none⟩] [5])
 .ret)))))), [.cell 5 true 25]⟩
abbrev n_skel_Build_1 : Nat := 71
def c_path_From_L0 : C := (.seq (.seq (.ops [
⟨(some 27), .mov (.t 8), none⟩,
⟨(some 28), .callv (.t 27) [], none⟩] [4, 6, 7, 8, 28])
 (.cond (.t 28) .skip
 (.exit 0)))
 (.block 1 .skip))
def c_path_From : F := ⟨true, 2, (.seq (.ops [
⟨(some 2), .box (.t 0), none⟩,
⟨(some 4), .alloc [(.int .i64 0), .nilI, .nilI, .nilI, .nilI, .nilI, .nilI, .nilI, .nilI, .nilI, .nilI, .nilI, .nilI, .nilI, .nilI, .nilI, .nilI, .nilI, .nilI, .nilI, .nilI, .nilI, .nilI, .nilI, .nilI, (.int .i64 0)], none⟩,
⟨(some 5), .mov (.k (.int .i64 0)), none⟩] [1, 2, 4])
 (.seq (.seq (.ops [
⟨(some 9), .load false 1 (.t 2), none⟩,
⟨(some 10), .call 28 [(.t 9)], none⟩,
⟨(some 11), .un .not (.t 10), none⟩,
⟨(some 12), .mov (.t 11), none⟩,
⟨(some 13), .mov (.t 1), (some (12, false))⟩,
⟨(some 14), .bin .lss (.t 13) (.k (.int .i64 0)), (some (12, false))⟩,
⟨(some 15), .pick (.t 12) (.k (.bool true)) (.t 14), none⟩,
⟨(some 16), .mov (.t 15), none⟩,
⟨(some 17), .mov (.t 1), (some (16, false))⟩,
⟨(some 18), .load false 1 (.t 2), (some (16, false))⟩,
⟨(some 19), .len 0 (.t 18), (some (16, false))⟩,
⟨(some 20), .bin .geq (.t 17) (.t 19), (some (16, false))⟩,
⟨(some 21), .pick (.t 16) (.k (.bool true)) (.t 20), none⟩] [1, 2, 4, 21])
 (.cond (.t 21) (.seq (.ops [
⟨(some 22), .build [(.int .i64 0), .nilI, .nilI, .nilI, .nilI, .nilI, .nilI, .nilI, .nilI, .nilI, .nilI, .nilI, .nilI, .nilI, .nilI, .nilI, .nilI, .nilI, .nilI, .nilI, .nilI, .nilI, .nilI, .nilI, .nilI, (.int .i64 0)] [], none⟩,
⟨none, .store 26 (.t 4) (.t 22), none⟩,
⟨(some 5), .mov (.k (.int .i64 1)), none⟩] [4, 5])
 .ret)
 .skip))
 (.seq (.ops [
⟨(some 6), .alloc [(.bool false), (.bool false), (.bool false), (.bool false), (.bool false), (.bool false), (.bool false), (.bool false), (.bool false), (.bool false), (.bool false), (.bool false), (.bool false), (.bool false), (.bool false), (.bool false), (.bool false), (.bool false), (.bool false), (.bool false), (.bool false), (.bool false), (.bool false), (.bool false), (.bool false), (.bool false), (.bool false), (.bool false), (.bool false), (.bool false), (.bool false), (.bool false), (.bool false), (.bool false), (.bool false), (.bool false), (.bool false), (.bool false), (.bool false), (.bool false), (.bool false), (.bool false), (.bool false), (.bool false), (.bool false), (.bool false), (.bool false), (.bool false), (.bool false), (.bool false), (.bool false), (.bool false), (.bool false), (.bool false), (.bool false), (.bool false), (.bool false), (.bool false), (.bool false), (.bool false), (.bool false), (.bool false), (.bool false), (.bool false), (.bool false), (.bool false), (.bool false), (.bool false), (.bool false), (.bool false), (.bool false), (.bool false), (.bool false), (.bool false), (.bool false), (.bool false), (.bool false), (.bool false), (.bool false), (.bool false), (.bool false), (.bool false), (.bool false), (.bool false), (.bool false), (.bool false), (.bool false), (.bool false), (.bool false), (.bool false), (.bool false), (.bool false), (.bool false), (.bool false), (.bool false), (.bool false), (.bool false), (.bool false), (.bool false), (.bool false), (.bool false), (.bool false), (.bool false), (.bool false), (.bool false), (.bool false), (.bool false), (.bool false), (.bool false), (.bool false), (.bool false), (.bool false), (.bool false), (.bool false), (.bool false), (.bool false), (.bool false), (.bool false), (.bool false), (.bool false), (.bool false), (.bool false), (.bool false), (.bool false), (.bool false), (.bool false), (.bool false), (.bool false), (.bool false), (.bool false), (.bool false), (.bool false), (.bool false), (.bool false), (.bool false), (.bool false), (.bool false), (.bool false), (.bool false), (.bool false), (.bool false), (.bool false), (.bool false), (.bool false), (.bool false), (.bool false), (.bool false), (.bool false), (.bool false), (.bool false), (.bool false), (.bool false), (.bool false), (.bool false), (.bool false), (.bool false), (.bool false), (.bool false), (.bool false), (.bool false), (.bool false), (.bool false), (.bool false), (.bool false), (.bool false), (.bool false), (.bool false), (.bool false), (.bool false), (.bool false), (.bool false), (.bool false), (.bool false), (.bool false), (.bool false), (.bool false), (.bool false), (.bool false), (.bool false), (.bool false), (.bool false), (.bool false), (.bool false), (.bool false), (.bool false), (.bool false), (.bool false), (.bool false), (.bool false), (.bool false), (.bool false), (.bool false), (.bool false), (.bool false), (.bool false), (.bool false), (.bool false), (.bool false), (.bool false), (.bool false)], none⟩] [1, 2, 4, 6])
 (.seq (.ops [
⟨(some 23), .mov (.t 1), none⟩,
⟨(some 24), .call 93 [], none⟩,
⟨(some 25), .build [(.int .i64 0), .nilI, .nilI, .nilI, .nilI, .nilI, .nilI, .nilI, .nilI, .nilI, .nilI, .nilI, .nilI, .nilI, .nilI, .nilI, .nilI, .nilI, .nilI, .nilI, .nilI, .nilI, .nilI, .nilI, .nilI, (.int .i64 0)] [(0, 1, (.t 23)), (1, 24, (.t 24))], none⟩,
⟨(some 7), .alloc [(.int .i64 0), .nilI, .nilI, .nilI, .nilI, .nilI, .nilI, .nilI, .nilI, .nilI, .nilI, .nilI, .nilI, .nilI, .nilI, .nilI, .nilI, .nilI, .nilI, .nilI, .nilI, .nilI, .nilI, .nilI, .nilI, (.int .i64 0)], none⟩,
⟨none, .store 26 (.t 7) (.t 25), none⟩] [2, 4, 6, 7])
 (.seq (.ops [
⟨(some 26), .mkfn 94 [(.t 2), (.t 7), (.t 6)], none⟩,
⟨(some 8), .mov (.t 26), none⟩] [4, 6, 7, 8])
 (.seq (.block 0 (.loop c_path_From_L0))
 (.seq (.seq (.ops [
⟨(some 29), .faddr 0 (.t 7), none⟩,
⟨(some 30), .load false 1 (.t 29), none⟩,
⟨(some 31), .iaddrA 200 1 (.t 6) (.t 30), none⟩,
⟨(some 32), .load false 1 (.t 31), none⟩] [4, 7, 32])
 (.cond (.t 32) (.seq (.ops [
⟨(some 33), .call 93 [], none⟩,
⟨(some 34), .build [(.int .i64 0), .nilI, .nilI, .nilI, .nilI, .nilI, .nilI, .nilI, .nilI, .nilI, .nilI, .nilI, .nilI, .nilI, .nilI, .nilI, .nilI, .nilI, .nilI, .nilI, .nilI, .nilI, .nilI, .nilI, .nilI, (.int .i64 0)] [(0, 1, (.k (.int .i64 (-1)))), (1, 24, (.t 33))], none⟩,
⟨none, .store 26 (.t 4) (.t 34), none⟩,
⟨(some 5), .mov (.k (.int .i64 0)), none⟩] [4, 5])
 .ret)
 .skip))
 (.seq (.ops [
⟨(some 35), .load true 26 (.t 7), none⟩,
⟨none, .store 26 (.t 4) (.t 35), none⟩,
⟨(some 5), .mov (.k (.int .i64 0)), none⟩] [4, 5])
 .ret)))))))), [.cell 4 true 26, .tmp 5]⟩
abbrev n_path_From : Nat := 72
def c_skel_nexts : F := ⟨true, 2, (.seq (.ops [
⟨(some 2), .box (.t 0), none⟩,
⟨(some 4), .mov (.k .nils), none⟩] [1, 2])
 (.seq (.seq (.ops [
⟨(some 5), .faddr 0 (.t 2), none⟩,
⟨(some 6), .load false 1 (.t 5), none⟩] [1, 2, 6])
 (.block 0 (.seq (.ops [
⟨(some 8), .bin .eql (.t 6) (.k (.int .i64 18)), none⟩,
⟨(some 7), .mov (.t 8), none⟩] [1, 2, 6, 7])
 (.cond (.t 7) (.seq (.ops [
⟨(some 4), .mov (.k .nils), none⟩] [4])
 .ret)
 (.seq (.ops [
⟨(some 10), .bin .eql (.t 6) (.k (.int .i64 17)), none⟩,
⟨(some 9), .mov (.t 10), none⟩] [1, 2, 9])
 (.cond (.t 9) (.seq (.ops [
⟨(some 11), .faddr 5 (.t 2), none⟩,
⟨(some 12), .load false 1 (.t 11), none⟩,
⟨(some 13), .mov (.t 1), none⟩,
⟨(some 14), .bin .add (.t 13) (.k (.int .i64 1)), none⟩,
⟨(some 15), .lit 3 1 false [(.int .i64 0)] 2 [(0, (.t 12)), (1, (.t 14))], none⟩,
⟨(some 4), .mov (.t 15), none⟩] [4])
 .ret)
 .skip))))))
 (.seq (.ops [
⟨(some 16), .mov (.t 1), none⟩,
⟨(some 17), .bin .add (.t 16) (.k (.int .i64 1)), none⟩,
⟨(some 18), .lit 3 1 false [(.int .i64 0)] 1 [(0, (.t 17))], none⟩,
⟨(some 4), .mov (.t 18), none⟩] [4])
 .ret))), [.tmp 4]⟩
abbrev n_skel_nexts : Nat := 73
def c_value_built_L0 : C := (.seq (.ops [
⟨(some 21), .bin .lss (.t 20) (.t 19), none⟩] [0, 3, 5, 18, 19, 20, 21])
 (.seq (.cond (.t 21) .skip
 (.exit 0))
 (.seq (.block 1 (.seq (.ops [
⟨(some 22), .iaddr 2 (.t 18) (.t 20), none⟩,
⟨(some 23), .load true 2 (.t 22), none⟩,
⟨(some 7), .alloc [(.int .i64 0), .nils], none⟩,
⟨none, .store 2 (.t 7) (.t 23), none⟩] [0, 3, 5, 7, 18, 19, 20])
 (.seq (.seq (.ops [
⟨(some 24), .faddr 0 (.t 7), none⟩,
⟨(some 25), .load false 1 (.t 24), none⟩,
⟨(some 26), .bin .lss (.t 25) (.k (.int .i64 0)), none⟩,
⟨(some 27), .mov (.t 26), none⟩,
⟨(some 28), .faddr 0 (.t 7), (some (27, false))⟩,
⟨(some 29), .load false 1 (.t 28), (some (27, false))⟩,
⟨(some 30), .mov (.t 0), (some (27, false))⟩,
⟨(some 31), .len 0 (.t 30), (some (27, false))⟩,
⟨(some 32), .bin .geq (.t 29) (.t 31), (some (27, false))⟩,
⟨(some 33), .pick (.t 27) (.k (.bool true)) (.t 32), none⟩] [0, 3, 5, 7, 18, 19, 20, 33])
 (.cond (.t 33) (.seq (.ops [
⟨(some 4), .mov (.k (.bool false)), none⟩] [4])
 .ret)
 .skip))
 (.ops [
⟨(some 34), .mov (.t 5), none⟩,
⟨(some 35), .faddr 0 (.t 7), none⟩,
⟨(some 36), .load false 1 (.t 35), none⟩,
⟨(some 37), .faddr 1 (.t 7), none⟩,
⟨(some 38), .load false 1 (.t 37), none⟩,
⟨(some 39), .len 0 (.t 38), none⟩,
⟨(some 40), .bin .eql (.t 39) (.k (.int .i64 0)), none⟩,
⟨(some 41), .iaddr 1 (.t 34) (.t 36), none⟩,
⟨none, .store 1 (.t 41) (.t 40), none⟩] [0, 3, 5, 18, 19, 20]))))
 (.ops [
⟨(some 42), .bin .add (.t 20) (.k (.int .i64 1)), none⟩,
⟨(some 20), .mov (.t 42), none⟩] [0, 3, 5, 18, 19, 20]))))
def c_value_built_D1 : List O := [
⟨(some 75), .faddr 0 (.t 11), none⟩,
⟨(some 76), .load false 1 (.t 75), none⟩,
⟨(some 77), .faddr 25 (.t 3), none⟩,
⟨(some 78), .load false 1 (.t 77), none⟩,
⟨(some 79), .mov (.t 10), none⟩,
⟨(some 80), .iaddr 2 (.t 78) (.t 79), none⟩,
⟨(some 81), .faddr 0 (.t 80), none⟩,
⟨(some 82), .load false 1 (.t 81), none⟩,
⟨(some 83), .bin .neq (.t 76) (.t 82), none⟩,
⟨(some 84), .mov (.t 83), none⟩,
⟨(some 85), .faddr 1 (.t 11), (some (84, false))⟩,
⟨(some 86), .load false 1 (.t 85), (some (84, false))⟩,
⟨(some 87), .len 0 (.t 86), (some (84, false))⟩,
⟨(some 88), .faddr 25 (.t 3), (some (84, false))⟩,
⟨(some 89), .load false 1 (.t 88), (some (84, false))⟩,
⟨(some 90), .mov (.t 10), (some (84, false))⟩,
⟨(some 91), .iaddr 2 (.t 89) (.t 90), (some (84, false))⟩,
⟨(some 92), .faddr 1 (.t 91), (some (84, false))⟩,
⟨(some 93), .load false 1 (.t 92), (some (84, false))⟩,
⟨(some 94), .len 0 (.t 93), (some (84, false))⟩,
⟨(some 95), .bin .neq (.t 87) (.t 94), (some (84, false))⟩,
⟨(some 96), .pick (.t 84) (.k (.bool true)) (.t 95), none⟩]
def c_value_built_D2 : List O := [
⟨(some 105), .load true 25 (.t 13), none⟩,
⟨(some 106), .faddr 25 (.t 3), none⟩,
⟨(some 107), .load false 1 (.t 106), none⟩,
⟨(some 108), .mov (.t 10), none⟩,
⟨(some 109), .iaddr 2 (.t 107) (.t 108), none⟩,
⟨(some 110), .faddr 1 (.t 109), none⟩,
⟨(some 111), .load false 1 (.t 110), none⟩,
⟨(some 112), .mov (.t 12), none⟩,
⟨(some 113), .iaddr 25 (.t 111) (.t 112), none⟩,
⟨(some 114), .load true 25 (.t 113), none⟩,
⟨(some 115), .eq true (.tst [(1, .ti), (24, (.tarr 24 1 (.tifc [(204, (.tst [(1, .ti)])), (201, (.tst [(1, .ti)]))])))]) (.t 105) (.t 114), none⟩]
def c_value_built_L3 : C := (.seq (.ops [
⟨(some 101), .bin .lss (.t 100) (.t 99), none⟩] [3, 10, 68, 69, 70, 98, 99, 100, 101])
 (.seq (.cond (.t 101) .skip
 (.exit 4))
 (.seq (.block 5 (.seq (.ops [
⟨(some 102), .mov (.t 100), none⟩,
⟨(some 103), .iaddr 25 (.t 98) (.t 100), none⟩,
⟨(some 104), .load true 25 (.t 103), none⟩,
⟨(some 13), .alloc [(.int .i64 0), .nilI, .nilI, .nilI, .nilI, .nilI, .nilI, .nilI, .nilI, .nilI, .nilI, .nilI, .nilI, .nilI, .nilI, .nilI, .nilI, .nilI, .nilI, .nilI, .nilI, .nilI, .nilI, .nilI, .nilI], none⟩,
⟨(some 12), .mov (.t 102), none⟩,
⟨none, .store 25 (.t 13) (.t 104), none⟩] [3, 10, 12, 13, 68, 69, 70, 98, 99, 100])
 (.seq (.opsD c_value_built_D2 [0, 0, 2, 0, 14, 30, 62, 0, 254, 510, 1023] [3, 10, 68, 69, 70, 98, 99, 100, 115])
 (.cond (.t 115) (.seq (.ops [
⟨(some 4), .mov (.k (.bool false)), none⟩] [4])
 .ret)
 .skip))))
 (.ops [
⟨(some 116), .bin .add (.t 100) (.k (.int .i64 1)), none⟩,
⟨(some 100), .mov (.t 116), none⟩] [3, 10, 68, 69, 70, 98, 99, 100]))))
def c_value_built_L4 : C := (.seq (.ops [
⟨(some 71), .bin .lss (.t 70) (.t 69), none⟩] [3, 68, 69, 70, 71])
 (.seq (.cond (.t 71) .skip
 (.exit 2))
 (.seq (.block 3 (.seq (.ops [
⟨(some 72), .mov (.t 70), none⟩,
⟨(some 73), .iaddr 2 (.t 68) (.t 70), none⟩,
⟨(some 74), .load true 2 (.t 73), none⟩,
⟨(some 11), .alloc [(.int .i64 0), .nils], none⟩,
⟨(some 10), .mov (.t 72), none⟩,
⟨none, .store 2 (.t 11) (.t 74), none⟩] [3, 10, 11, 68, 69, 70])
 (.seq (.seq (.opsD c_value_built_D1 [0, 1, 0, 4, 0, 28, 60, 124, 255, 511, 1023, 2047, 4095, 1023, 9215, 1023, 58367, 123903, 254975, 517119, 1048575, 2097151] [3, 10, 11, 68, 69, 70, 96])
 (.cond (.t 96) (.seq (.ops [
⟨(some 4), .mov (.k (.bool false)), none⟩] [4])
 .ret)
 .skip))
 (.seq (.ops [
⟨(some 97), .faddr 1 (.t 11), none⟩,
⟨(some 98), .load false 1 (.t 97), none⟩,
⟨(some 99), .len 0 (.t 98), none⟩,
⟨(some 100), .mov (.k (.int .i64 0)), none⟩] [3, 10, 68, 69, 70, 98, 99, 100])
 (.block 4 (.loop c_value_built_L3))))))
 (.ops [
⟨(some 117), .bin .add (.t 70) (.k (.int .i64 1)), none⟩,
⟨(some 70), .mov (.t 117), none⟩] [3, 68, 69, 70]))))
def c_value_built : F := ⟨true, 2, (.seq (.ops [
⟨(some 3), .box (.t 1), none⟩,
⟨(some 4), .mov (.k (.bool false)), none⟩] [0, 3])
 (.seq (.ops [
⟨(some 14), .mov (.t 0), none⟩,
⟨(some 15), .len 0 (.t 14), none⟩,
⟨(some 16), .mkslice 4 1 1 false [(.bool false)] (.t 15), none⟩,
⟨(some 5), .mov (.t 16), none⟩] [0, 3, 5])
 (.seq (.seq (.ops [
⟨(some 17), .faddr 25 (.t 3), none⟩,
⟨(some 18), .load false 1 (.t 17), none⟩,
⟨(some 19), .len 0 (.t 18), none⟩,
⟨(some 20), .mov (.k (.int .i64 0)), none⟩] [0, 3, 5, 18, 19, 20])
 (.block 0 (.loop c_value_built_L0)))
 (.seq (.ops [
⟨(some 44), .mov (.t 0), none⟩,
⟨(some 45), .mov (.t 5), none⟩,
⟨(some 46), .call 33 [(.t 44), (.t 45)], none⟩,
⟨(some 43), .mov (.t 46), none⟩,
⟨(some 47), .extract (.t 43) 0, none⟩,
⟨(some 48), .extract (.t 43) 1, none⟩,
⟨(some 8), .alloc [(.int .i64 0), .nilI, .nilI, .nilI, .nilI, .nilI, .nilI, .nilI, .nilI, .nilI, .nilI, .nilI, .nilI, .nilI, .nilI, .nilI, .nilI, .nilI, .nilI, .nilI, .nilI, .nilI, .nilI, .nilI, .nilI, .nils], none⟩,
⟨none, .store 26 (.t 8) (.t 47), none⟩,
⟨(some 9), .mov (.t 48), none⟩] [3, 8, 9])
 (.seq (.seq (.ops [
⟨(some 49), .mov (.t 9), none⟩,
⟨(some 50), .bin .neq (.t 49) (.k (.int .i64 0)), none⟩,
⟨(some 51), .mov (.t 50), none⟩,
⟨(some 52), .faddr 25 (.t 8), (some (51, false))⟩,
⟨(some 53), .load false 1 (.t 52), (some (51, false))⟩,
⟨(some 54), .len 0 (.t 53), (some (51, false))⟩,
⟨(some 55), .faddr 25 (.t 3), (some (51, false))⟩,
⟨(some 56), .load false 1 (.t 55), (some (51, false))⟩,
⟨(some 57), .len 0 (.t 56), (some (51, false))⟩,
⟨(some 58), .bin .neq (.t 54) (.t 57), (some (51, false))⟩,
⟨(some 59), .pick (.t 51) (.k (.bool true)) (.t 58), none⟩,
⟨(some 60), .mov (.t 59), none⟩,
⟨(some 61), .faddr 0 (.t 8), (some (60, false))⟩,
⟨(some 62), .load true 25 (.t 61), (some (60, false))⟩,
⟨(some 63), .faddr 0 (.t 3), (some (60, false))⟩,
⟨(some 64), .load true 25 (.t 63), (some (60, false))⟩,
⟨(some 65), .eq true (.tst [(1, .ti), (24, (.tarr 24 1 (.tifc [(204, (.tst [(1, .ti)])), (201, (.tst [(1, .ti)]))])))]) (.t 62) (.t 64), (some (60, false))⟩,
⟨(some 66), .pick (.t 60) (.k (.bool true)) (.t 65), none⟩] [3, 8, 66])
 (.cond (.t 66) (.seq (.ops [
⟨(some 4), .mov (.k (.bool false)), none⟩] [4])
 .ret)
 .skip))
 (.seq (.seq (.ops [
⟨(some 67), .faddr 25 (.t 8), none⟩,
⟨(some 68), .load false 1 (.t 67), none⟩,
⟨(some 69), .len 0 (.t 68), none⟩,
⟨(some 70), .mov (.k (.int .i64 0)), none⟩] [3, 68, 69, 70])
 (.block 2 (.loop c_value_built_L4)))
 (.seq (.ops [
⟨(some 4), .mov (.k (.bool true)), none⟩] [4])
 .ret))))))), [.tmp 4]⟩
abbrev n_value_built : Nat := 74
def c_value_Facts_1_D0 : List O := [
⟨(some 39), .load false 1 (.t 4), none⟩,
⟨(some 40), .faddr 0 (.t 11), none⟩,
⟨(some 41), .load false 1 (.t 40), none⟩,
⟨(some 42), .iaddr 1 (.t 39) (.t 41), none⟩,
⟨(some 43), .load false 1 (.t 42), none⟩,
⟨(some 44), .faddr 1 (.t 12), none⟩,
⟨(some 45), .load false 1 (.t 44), none⟩,
⟨(some 46), .iaddr 2 (.t 43) (.t 45), none⟩,
⟨(some 47), .load true 2 (.t 46), none⟩,
⟨none, .store 2 (.t 12) (.t 47), none⟩]
def c_value_Facts_1_L1 : C := (.seq (.ops [
⟨(some 22), .bin .lss (.t 21) (.t 20), none⟩] [0, 1, 3, 4, 7, 8, 9, 19, 20, 21, 22])
 (.seq (.cond (.t 22) .skip
 (.exit 0))
 (.seq (.block 1 (.seq (.ops [
⟨(some 23), .mov (.t 21), none⟩,
⟨(some 24), .iaddr 2 (.t 19) (.t 21), none⟩,
⟨(some 25), .load true 2 (.t 24), none⟩,
⟨(some 11), .alloc [(.int .i64 0), (.int .i64 0)], none⟩,
⟨(some 10), .mov (.t 23), none⟩,
⟨none, .store 2 (.t 11) (.t 25), none⟩] [0, 1, 3, 4, 7, 8, 9, 10, 11, 19, 20, 21])
 (.seq (.ops [
⟨(some 26), .load false 1 (.t 3), none⟩,
⟨(some 27), .mov (.t 0), none⟩,
⟨(some 28), .iaddr 1 (.t 26) (.t 27), none⟩,
⟨(some 29), .load false 1 (.t 28), none⟩,
⟨(some 30), .mov (.t 10), none⟩,
⟨(some 31), .iaddr 1 (.t 29) (.t 30), none⟩,
⟨(some 32), .load false 1 (.t 31), none⟩,
⟨(some 33), .mov (.t 1), none⟩,
⟨(some 34), .iaddr 2 (.t 32) (.t 33), none⟩,
⟨(some 35), .load true 2 (.t 34), none⟩,
⟨(some 12), .alloc [(.int .i64 0), (.int .i64 0)], none⟩,
⟨none, .store 2 (.t 12) (.t 35), none⟩] [0, 1, 3, 4, 7, 8, 9, 11, 12, 19, 20, 21])
 (.seq (.seq (.ops [
⟨(some 36), .faddr 0 (.t 12), none⟩,
⟨(some 37), .load false 1 (.t 36), none⟩,
⟨(some 38), .bin .eql (.t 37) (.k (.int .i64 4)), none⟩] [0, 1, 3, 4, 7, 8, 9, 11, 12, 19, 20, 21, 38])
 (.cond (.t 38) (.opsD c_value_Facts_1_D0 [0, 0, 2, 7, 15, 0, 32, 127, 255, 511] [0, 1, 3, 4, 7, 8, 9, 12, 19, 20, 21])
 .skip))
 (.block 2 (.seq (.ops [
⟨(some 50), .load true 2 (.t 12), none⟩,
⟨(some 51), .load true 2 (.k (.fp gl_0)), none⟩,
⟨(some 52), .eq false (.tst [(1, .ti), (1, .ti)]) (.t 50) (.t 51), none⟩,
⟨(some 49), .mov (.t 52), none⟩] [0, 1, 3, 4, 7, 8, 9, 12, 19, 20, 21, 49])
 (.cond (.t 49) .skip
 (.seq (.seq (.ops [
⟨(some 54), .faddr 0 (.t 12), none⟩,
⟨(some 55), .load false 1 (.t 54), none⟩,
⟨(some 56), .bin .neq (.t 55) (.k (.int .i64 2)), none⟩,
⟨(some 57), .mov (.t 56), none⟩,
⟨(some 58), .faddr 0 (.t 12), (some (57, true))⟩,
⟨(some 59), .load false 1 (.t 58), (some (57, true))⟩,
⟨(some 60), .bin .neq (.t 59) (.k (.int .i64 0)), (some (57, true))⟩,
⟨(some 61), .pick (.t 57) (.t 60) (.k (.bool false)), none⟩,
⟨(some 53), .mov (.t 61), none⟩] [0, 1, 3, 4, 7, 8, 9, 12, 19, 20, 21, 53])
 (.cond (.t 53) .skip
 (.ops [
⟨(some 62), .load true 2 (.t 9), none⟩,
⟨(some 63), .load true 2 (.k (.fp gl_0)), none⟩,
⟨(some 64), .eq true (.tst [(1, .ti), (1, .ti)]) (.t 62) (.t 63), none⟩,
⟨(some 65), .mov (.t 64), none⟩,
⟨(some 66), .load true 2 (.t 9), (some (65, true))⟩,
⟨(some 67), .load true 2 (.t 12), (some (65, true))⟩,
⟨(some 68), .eq true (.tst [(1, .ti), (1, .ti)]) (.t 66) (.t 67), (some (65, true))⟩,
⟨(some 69), .pick (.t 65) (.t 68) (.k (.bool false)), none⟩,
⟨(some 53), .mov (.t 69), none⟩] [0, 1, 3, 4, 7, 8, 9, 12, 19, 20, 21, 53])))
 (.cond (.t 53) (.seq (.ops [
⟨(some 70), .load true 2 (.t 8), none⟩,
⟨none, .store 2 (.t 7) (.t 70), none⟩] [7])
 .ret)
 (.ops [
⟨(some 48), .load true 2 (.t 12), none⟩,
⟨none, .store 2 (.t 9) (.t 48), none⟩] [0, 1, 3, 4, 7, 8, 9, 19, 20, 21]))))))))))
 (.ops [
⟨(some 71), .bin .add (.t 21) (.k (.int .i64 1)), none⟩,
⟨(some 21), .mov (.t 71), none⟩] [0, 1, 3, 4, 7, 8, 9, 19, 20, 21]))))
def c_value_Facts_1 : F := ⟨false, 5, (.seq (.ops [
⟨(some 7), .alloc [(.int .i64 0), (.int .i64 0)], none⟩] [0, 1, 2, 3, 4, 7])
 (.seq (.ops [
⟨(some 13), .mov (.t 1), none⟩,
⟨(some 14), .build [(.int .i64 0), (.int .i64 0)] [(0, 1, (.k (.int .i64 4))), (1, 1, (.t 13))], none⟩,
⟨(some 8), .alloc [(.int .i64 0), (.int .i64 0)], none⟩,
⟨none, .store 2 (.t 8) (.t 14), none⟩] [0, 1, 2, 3, 4, 7, 8])
 (.seq (.ops [
⟨(some 15), .load true 2 (.k (.fp gl_0)), none⟩,
⟨(some 9), .alloc [(.int .i64 0), (.int .i64 0)], none⟩,
⟨none, .store 2 (.t 9) (.t 15), none⟩] [0, 1, 2, 3, 4, 7, 8, 9])
 (.seq (.seq (.ops [
⟨(some 16), .load false 1 (.t 2), none⟩,
⟨(some 17), .mov (.t 0), none⟩,
⟨(some 18), .iaddr 1 (.t 16) (.t 17), none⟩,
⟨(some 19), .load false 1 (.t 18), none⟩,
⟨(some 20), .len 0 (.t 19), none⟩,
⟨(some 21), .mov (.k (.int .i64 0)), none⟩] [0, 1, 3, 4, 7, 8, 9, 19, 20, 21])
 (.block 0 (.loop c_value_Facts_1_L1)))
 (.seq (.ops [
⟨(some 72), .load true 2 (.t 9), none⟩,
⟨none, .store 2 (.t 7) (.t 72), none⟩] [7])
 .ret))))), [.cell 7 true 2]⟩
abbrev n_value_Facts_1 : Nat := 75
def c_value_by : F := ⟨true, 4, (.seq (.ops [
⟨(some 5), .box (.t 1), none⟩,
⟨(some 6), .box (.t 2), none⟩,
⟨(some 8), .alloc [(.int .i64 0), (.int .i64 0)], none⟩] [0, 3, 5, 6, 8])
 (.seq (.ops [
⟨(some 18), .load true 26 (.t 5), none⟩,
⟨(some 19), .load true 2 (.t 6), none⟩,
⟨(some 20), .call 96 [(.t 18), (.t 19)], none⟩,
⟨(some 17), .mov (.t 20), none⟩,
⟨(some 21), .extract (.t 17) 0, none⟩,
⟨(some 22), .extract (.t 17) 1, none⟩,
⟨(some 9), .alloc [(.int .i64 0), .nilI, .nilI, .nilI, .nilI, .nilI, .nilI, .nilI, .nilI, .nilI, .nilI, .nilI, .nilI, .nilI, .nilI, .nilI, .nilI, .nilI, .nilI, .nilI, .nilI, .nilI, .nilI, .nilI, .nilI], none⟩,
⟨none, .store 25 (.t 9) (.t 21), none⟩,
⟨(some 10), .mov (.t 22), none⟩] [0, 3, 5, 6, 8, 9])
 (.seq (.seq (.ops [
⟨(some 24), .mov (.t 3), none⟩,
⟨(some 25), .faddr 1 (.t 9), none⟩,
⟨(some 26), .iaddrA 24 1 (.t 25) (.t 24), none⟩,
⟨(some 27), .load false 1 (.t 26), none⟩,
⟨(some 28), .assert 201 true (.agg [(.int .i64 0)]) (.t 27), none⟩,
⟨(some 23), .mov (.t 28), none⟩,
⟨(some 29), .extract (.t 23) 0, none⟩,
⟨(some 30), .extract (.t 23) 1, none⟩,
⟨(some 11), .alloc [(.int .i64 0)], none⟩,
⟨none, .store 1 (.t 11) (.t 29), none⟩,
⟨(some 12), .mov (.t 30), none⟩] [0, 3, 5, 6, 8, 9, 11, 12])
 (.seq (.ops [
⟨(some 31), .mov (.t 12), none⟩] [0, 3, 5, 6, 8, 9, 11, 31])
 (.cond (.t 31) (.seq (.ops [
⟨(some 32), .faddr 0 (.t 11), none⟩,
⟨(some 33), .load false 1 (.t 32), none⟩,
⟨(some 34), .build [(.int .i64 0), (.int .i64 0)] [(0, 1, (.k (.int .i64 2))), (1, 1, (.t 33))], none⟩,
⟨none, .store 2 (.t 8) (.t 34), none⟩] [8])
 .ret)
 .skip)))
 (.seq (.ops [
⟨(some 36), .mov (.t 3), none⟩,
⟨(some 37), .faddr 1 (.t 9), none⟩,
⟨(some 38), .iaddrA 24 1 (.t 37) (.t 36), none⟩,
⟨(some 39), .load false 1 (.t 38), none⟩,
⟨(some 40), .assert 204 true (.agg [(.int .i64 0)]) (.t 39), none⟩,
⟨(some 35), .mov (.t 40), none⟩,
⟨(some 41), .extract (.t 35) 0, none⟩,
⟨(some 42), .extract (.t 35) 1, none⟩,
⟨(some 13), .alloc [(.int .i64 0)], none⟩,
⟨none, .store 1 (.t 13) (.t 41), none⟩,
⟨(some 14), .mov (.t 42), none⟩] [0, 5, 6, 8, 13])
 (.seq (.seq (.ops [
⟨(some 43), .faddr 0 (.t 6), none⟩,
⟨(some 44), .load false 1 (.t 43), none⟩,
⟨(some 45), .bin .lss (.t 44) (.k (.int .i64 0)), none⟩] [0, 5, 6, 8, 13, 45])
 (.cond (.t 45) (.seq (.seq (.ops [
⟨(some 46), .faddr 0 (.t 13), none⟩,
⟨(some 47), .load false 1 (.t 46), none⟩,
⟨(some 48), .call 97 [(.t 47)], none⟩] [8, 13, 48])
 (.cond (.t 48) (.seq (.ops [
⟨(some 49), .faddr 0 (.t 13), none⟩,
⟨(some 50), .load false 1 (.t 49), none⟩,
⟨(some 51), .build [(.int .i64 0), (.int .i64 0)] [(0, 1, (.k (.int .i64 1))), (1, 1, (.t 50))], none⟩,
⟨none, .store 2 (.t 8) (.t 51), none⟩] [8])
 .ret)
 .skip))
 (.seq (.ops [
⟨(some 52), .build [(.int .i64 0), (.int .i64 0)] [], none⟩,
⟨none, .store 2 (.t 8) (.t 52), none⟩] [8])
 .ret))
 .skip))
 (.seq (.seq (.ops [
⟨(some 54), .mov (.t 0), none⟩,
⟨(some 55), .faddr 25 (.t 5), none⟩,
⟨(some 56), .load false 1 (.t 55), none⟩,
⟨(some 57), .faddr 0 (.t 6), none⟩,
⟨(some 58), .load false 1 (.t 57), none⟩,
⟨(some 59), .iaddr 2 (.t 56) (.t 58), none⟩,
⟨(some 60), .faddr 0 (.t 59), none⟩,
⟨(some 61), .load false 1 (.t 60), none⟩,
⟨(some 62), .iaddr 6 (.t 54) (.t 61), none⟩,
⟨(some 63), .load true 6 (.t 62), none⟩,
⟨(some 64), .call 98 [(.t 63)], none⟩,
⟨(some 53), .mov (.t 64), none⟩,
⟨(some 65), .extract (.t 53) 0, none⟩,
⟨(some 66), .extract (.t 53) 1, none⟩,
⟨(some 15), .mov (.t 65), none⟩,
⟨(some 16), .mov (.t 66), none⟩] [8, 13, 15, 16])
 (.seq (.ops [
⟨(some 67), .mov (.t 16), none⟩,
⟨(some 68), .mov (.t 67), none⟩,
⟨(some 69), .mov (.t 15), (some (68, true))⟩,
⟨(some 70), .faddr 0 (.t 13), (some (68, true))⟩,
⟨(some 71), .load false 1 (.t 70), (some (68, true))⟩,
⟨(some 72), .bin .eql (.t 69) (.t 71), (some (68, true))⟩,
⟨(some 73), .pick (.t 68) (.t 72) (.k (.bool false)), none⟩] [8, 13, 73])
 (.cond (.t 73) (.seq (.ops [
⟨(some 74), .build [(.int .i64 0), (.int .i64 0)] [(0, 1, (.k (.int .i64 3)))], none⟩,
⟨none, .store 2 (.t 8) (.t 74), none⟩] [8])
 .ret)
 .skip)))
 (.seq (.ops [
⟨(some 75), .faddr 0 (.t 13), none⟩,
⟨(some 76), .load false 1 (.t 75), none⟩,
⟨(some 77), .build [(.int .i64 0), (.int .i64 0)] [(0, 1, (.k (.int .i64 4))), (1, 1, (.t 76))], none⟩,
⟨none, .store 2 (.t 8) (.t 77), none⟩] [8])
 .ret))))))), [.cell 8 true 2]⟩
abbrev n_value_by : Nat := 76
def c_skel_Ways_1_D0 : List O := [
⟨(some 13), .load false 1 (.t 2), none⟩,
⟨(some 14), .mov (.t 0), none⟩,
⟨(some 15), .load false 1 (.t 2), none⟩,
⟨(some 16), .mov (.t 0), none⟩,
⟨(some 17), .iaddr 1 (.t 15) (.t 16), none⟩,
⟨(some 18), .load false 1 (.t 17), none⟩,
⟨(some 19), .load true 2 (.t 4), none⟩,
⟨(some 20), .lit 70 2 false [(.int .i64 0), (.int .i64 0)] 1 [(0, (.t 19))], none⟩,
⟨(some 21), .append 70 2 16 false (.t 18) (.t 20), none⟩,
⟨(some 22), .iaddr 1 (.t 13) (.t 14), none⟩,
⟨none, .store 1 (.t 22) (.t 21), none⟩]
def c_skel_Ways_1 : F := ⟨false, 3, (.seq (.ops [
⟨(some 4), .box (.t 1), none⟩] [0, 2, 4])
 (.seq (.ops [
⟨(some 5), .mov (.t 0), none⟩,
⟨(some 6), .bin .geq (.t 5) (.k (.int .i64 0)), none⟩,
⟨(some 7), .mov (.t 6), none⟩,
⟨(some 8), .mov (.t 0), (some (7, true))⟩,
⟨(some 9), .load false 1 (.t 2), (some (7, true))⟩,
⟨(some 10), .len 0 (.t 9), (some (7, true))⟩,
⟨(some 11), .bin .lss (.t 8) (.t 10), (some (7, true))⟩,
⟨(some 12), .pick (.t 7) (.t 11) (.k (.bool false)), none⟩] [0, 2, 4, 12])
 (.cond (.t 12) (.opsD c_skel_Ways_1_D0 [0, 0, 0, 0, 12, 28, 0, 64, 252, 511, 1023] [])
 .skip))), []⟩
abbrev n_skel_Ways_1 : Nat := 77
def c_refine_Classes_L0 : C := (.block 1 (.seq (.ops [
⟨(some 11), .mov (.t 0), none⟩,
⟨(some 12), .mov (.t 3), none⟩,
⟨(some 13), .call 99 [(.t 11), (.t 12)], none⟩,
⟨(some 10), .mov (.t 13), none⟩,
⟨(some 14), .extract (.t 10) 0, none⟩,
⟨(some 15), .extract (.t 10) 1, none⟩,
⟨(some 5), .mov (.t 14), none⟩,
⟨(some 6), .mov (.t 15), none⟩] [0, 4, 5, 6])
 (.seq (.ops [
⟨(some 16), .mov (.t 5), none⟩,
⟨(some 3), .mov (.t 16), none⟩] [0, 3, 4, 6])
 (.seq (.seq (.ops [
⟨(some 17), .mov (.t 6), none⟩,
⟨(some 18), .mov (.t 4), none⟩,
⟨(some 19), .bin .eql (.t 17) (.t 18), none⟩] [0, 3, 6, 19])
 (.cond (.t 19) (.seq (.ops [
⟨(some 20), .mov (.t 3), none⟩,
⟨(some 2), .mov (.t 20), none⟩] [2])
 .ret)
 .skip))
 (.ops [
⟨(some 21), .mov (.t 6), none⟩,
⟨(some 4), .mov (.t 21), none⟩] [0, 3, 4])))))
def c_refine_Classes : F := ⟨true, 1, (.seq (.ops [
⟨(some 2), .mov (.k .nils), none⟩] [0])
 (.seq (.ops [
⟨(some 7), .mov (.t 0), none⟩,
⟨(some 8), .len 0 (.t 7), none⟩,
⟨(some 9), .mkslice 3 1 8 false [(.int .i64 0)] (.t 8), none⟩,
⟨(some 3), .mov (.t 9), none⟩] [0, 3])
 (.seq (.ops [
⟨(some 4), .mov (.k (.int .i64 0)), none⟩] [0, 3, 4])
 (.block 0 (.loop c_refine_Classes_L0))))), [.tmp 2]⟩
abbrev n_refine_Classes : Nat := 78
def c_ins_of : F := ⟨true, 1, (.seq (.ops [
⟨(some 2), .alloc [(.str []), (.str [])], none⟩,
⟨(some 3), .mov (.k (.bool false)), none⟩] [0, 2])
 (.seq (.seq (.ops [
⟨(some 4), .mov (.t 0), none⟩,
⟨(some 5), .bin .lss (.t 4) (.k (.int .i64 1)), none⟩,
⟨(some 6), .mov (.t 5), none⟩,
⟨(some 7), .mov (.t 0), (some (6, false))⟩,
⟨(some 8), .bin .gtr (.t 7) (.k (.int .i64 18)), (some (6, false))⟩,
⟨(some 9), .pick (.t 6) (.k (.bool true)) (.t 8), none⟩] [0, 2, 9])
 (.cond (.t 9) (.seq (.ops [
⟨(some 10), .build [(.str []), (.str [])] [], none⟩,
⟨none, .store 2 (.t 2) (.t 10), none⟩,
⟨(some 3), .mov (.k (.bool false)), none⟩] [2, 3])
 .ret)
 .skip))
 (.seq (.ops [
⟨(some 11), .mov (.t 0), none⟩,
⟨(some 12), .bin .sub (.t 11) (.k (.int .i64 1)), none⟩,
⟨(some 13), .iaddrA 18 2 (.k (.fp gl_1)) (.t 12), none⟩,
⟨(some 14), .load true 2 (.t 13), none⟩,
⟨none, .store 2 (.t 2) (.t 14), none⟩,
⟨(some 3), .mov (.k (.bool true)), none⟩] [2, 3])
 .ret))), [.cell 2 true 2, .tmp 3]⟩
abbrev n_ins_of : Nat := 79
def c_ins_field : F := ⟨false, 2, (.seq (.ops [
⟨(some 4), .mov (.k .nilp), none⟩] [0, 1])
 (.seq (.seq (.ops [
⟨(some 5), .mov (.t 1), none⟩] [0, 5])
 (.block 0 (.seq (.seq (.ops [
⟨(some 7), .bin .eql (.t 5) (.k (.int .i32 68)), none⟩,
⟨(some 6), .mov (.t 7), none⟩] [0, 5, 6])
 (.cond (.t 6) .skip
 (.ops [
⟨(some 8), .bin .eql (.t 5) (.k (.int .i32 100)), none⟩,
⟨(some 6), .mov (.t 8), none⟩] [0, 5, 6])))
 (.cond (.t 6) (.seq (.ops [
⟨(some 9), .mov (.t 0), none⟩,
⟨(some 10), .nilck (.t 9), none⟩,
⟨(some 11), .faddr 1 (.t 10), none⟩,
⟨(some 4), .mov (.t 11), none⟩] [4])
 .ret)
 (.seq (.seq (.ops [
⟨(some 13), .bin .eql (.t 5) (.k (.int .i32 65)), none⟩,
⟨(some 12), .mov (.t 13), none⟩] [0, 5, 12])
 (.cond (.t 12) .skip
 (.ops [
⟨(some 14), .bin .eql (.t 5) (.k (.int .i32 97)), none⟩,
⟨(some 12), .mov (.t 14), none⟩] [0, 12])))
 (.cond (.t 12) (.seq (.ops [
⟨(some 15), .mov (.t 0), none⟩,
⟨(some 16), .nilck (.t 15), none⟩,
⟨(some 17), .faddr 2 (.t 16), none⟩,
⟨(some 4), .mov (.t 17), none⟩] [4])
 .ret)
 .skip))))))
 (.seq (.ops [
⟨(some 18), .mov (.t 0), none⟩,
⟨(some 19), .nilck (.t 18), none⟩,
⟨(some 20), .faddr 3 (.t 19), none⟩,
⟨(some 4), .mov (.t 20), none⟩] [4])
 .ret))), [.tmp 4]⟩
abbrev n_ins_field : Nat := 80
def c_ins_words_L0 : C := (.seq (.ops [
⟨(some 9), .next (.t 8), none⟩,
⟨(some 10), .extract (.t 9) 0, none⟩] [0, 3, 4, 8, 9, 10])
 (.seq (.cond (.t 10) .skip
 (.exit 0))
 (.block 1 (.seq (.ops [
⟨(some 11), .extract (.t 9) 1, none⟩,
⟨(some 12), .extract (.t 9) 2, none⟩,
⟨(some 5), .mov (.t 11), none⟩,
⟨(some 6), .mov (.t 12), none⟩] [0, 3, 4, 5, 6, 8])
 (.seq (.ops [
⟨(some 13), .mov (.t 6), none⟩,
⟨(some 14), .bin .eql (.t 13) (.k (.int .i32 32)), none⟩] [0, 3, 4, 5, 8, 14])
 (.cond (.t 14) (.seq (.ops [
⟨(some 15), .mov (.t 3), none⟩,
⟨(some 16), .mov (.t 0), none⟩,
⟨(some 17), .mov (.t 4), none⟩,
⟨(some 18), .mov (.t 5), none⟩,
⟨(some 19), .sliceS (.t 16) (some (.t 17)) (some (.t 18)), none⟩,
⟨(some 20), .lit 9 1 false [(.str [])] 1 [(0, (.t 19))], none⟩,
⟨(some 21), .append 9 1 16 false (.t 15) (.t 20), none⟩,
⟨(some 3), .mov (.t 21), none⟩] [0, 3, 5, 8])
 (.ops [
⟨(some 22), .mov (.t 5), none⟩,
⟨(some 23), .bin .add (.t 22) (.k (.int .i64 1)), none⟩,
⟨(some 4), .mov (.t 23), none⟩] [0, 3, 4, 8]))
 .skip))))))
def c_ins_words : F := ⟨true, 1, (.seq (.ops [
⟨(some 2), .mov (.k .nils), none⟩] [0])
 (.seq (.ops [
⟨(some 3), .ownnil 9 1 false, none⟩] [0, 3])
 (.seq (.ops [
⟨(some 4), .mov (.k (.int .i64 0)), none⟩] [0, 3, 4])
 (.seq (.seq (.ops [
⟨(some 7), .mov (.t 0), none⟩,
⟨(some 8), .range (.t 7), none⟩] [0, 3, 4, 8])
 (.block 0 (.loop c_ins_words_L0)))
 (.seq (.ops [
⟨(some 24), .mov (.t 3), none⟩,
⟨(some 25), .mov (.t 0), none⟩,
⟨(some 26), .mov (.t 4), none⟩,
⟨(some 27), .sliceS (.t 25) (some (.t 26)) none, none⟩,
⟨(some 28), .lit 9 1 false [(.str [])] 1 [(0, (.t 27))], none⟩,
⟨(some 29), .append 9 1 16 false (.t 24) (.t 28), none⟩,
⟨(some 2), .mov (.t 29), none⟩] [2])
 .ret))))), [.tmp 2]⟩
abbrev n_ins_words : Nat := 81
def c_ins_fill : F := ⟨false, 3, (.seq (.ops [
⟨(some 6), .mov (.k (.int .i64 0)), none⟩] [0, 1, 2])
 (.seq (.seq (.ops [
⟨(some 11), .mov (.t 1), none⟩] [0, 1, 2, 11])
 (.block 0 (.seq (.seq (.ops [
⟨(some 13), .bin .eql (.t 11) (.k (.int .i32 78)), none⟩,
⟨(some 12), .mov (.t 13), none⟩] [0, 1, 2, 11, 12])
 (.cond (.t 12) .skip
 (.ops [
⟨(some 14), .bin .eql (.t 11) (.k (.int .i32 84)), none⟩,
⟨(some 12), .mov (.t 14), none⟩] [0, 1, 2, 12])))
 (.cond (.t 12) (.seq (.ops [
⟨(some 16), .mov (.t 2), none⟩,
⟨(some 17), .call 100 [(.t 16)], none⟩,
⟨(some 15), .mov (.t 17), none⟩,
⟨(some 18), .extract (.t 15) 0, none⟩,
⟨(some 19), .extract (.t 15) 1, none⟩,
⟨(some 7), .mov (.t 18), none⟩,
⟨(some 8), .mov (.t 19), none⟩] [0, 1, 7, 8])
 (.seq (.seq (.ops [
⟨(some 20), .mov (.t 1), none⟩,
⟨(some 21), .bin .eql (.t 20) (.k (.int .i32 78)), none⟩] [0, 7, 8, 21])
 (.cond (.t 21) (.ops [
⟨(some 22), .mov (.t 0), none⟩,
⟨(some 23), .mov (.t 7), none⟩,
⟨(some 24), .nilck (.t 22), none⟩,
⟨(some 25), .faddr 4 (.t 24), none⟩,
⟨none, .store 1 (.t 25) (.t 23), none⟩] [8])
 (.ops [
⟨(some 26), .mov (.t 0), none⟩,
⟨(some 27), .mov (.t 7), none⟩,
⟨(some 28), .nilck (.t 26), none⟩,
⟨(some 29), .faddr 5 (.t 28), none⟩,
⟨none, .store 1 (.t 29) (.t 27), none⟩] [8])))
 (.seq (.ops [
⟨(some 30), .mov (.t 8), none⟩,
⟨(some 6), .mov (.t 30), none⟩] [6])
 .ret)))
 .skip))))
 (.seq (.ops [
⟨(some 32), .mov (.t 2), none⟩,
⟨(some 33), .call 101 [(.t 32)], none⟩,
⟨(some 31), .mov (.t 33), none⟩,
⟨(some 34), .extract (.t 31) 0, none⟩,
⟨(some 35), .extract (.t 31) 1, none⟩,
⟨(some 9), .mov (.t 34), none⟩,
⟨(some 10), .mov (.t 35), none⟩] [0, 1, 9, 10])
 (.seq (.ops [
⟨(some 36), .mov (.t 0), none⟩,
⟨(some 37), .mov (.t 1), none⟩,
⟨(some 38), .call 80 [(.t 36), (.t 37)], none⟩,
⟨(some 39), .mov (.t 9), none⟩,
⟨(some 40), .nilck (.t 38), none⟩,
⟨none, .store 1 (.t 40) (.t 39), none⟩] [10])
 (.seq (.ops [
⟨(some 41), .mov (.t 10), none⟩,
⟨(some 6), .mov (.t 41), none⟩] [6])
 .ret))))), [.tmp 6]⟩
abbrev n_ins_fill : Nat := 82
def c_ins_Check_L0 : C := (.seq (.ops [
⟨(some 43), .next (.t 42), none⟩,
⟨(some 44), .extract (.t 43) 0, none⟩] [1, 2, 7, 42, 43, 44])
 (.seq (.cond (.t 44) .skip
 (.exit 0))
 (.block 1 (.seq (.ops [
⟨(some 45), .extract (.t 43) 2, none⟩,
⟨(some 9), .mov (.t 45), none⟩] [1, 2, 7, 9, 42])
 (.block 2 (.seq (.ops [
⟨(some 47), .mov (.t 9), none⟩,
⟨(some 48), .bin .eql (.t 47) (.k (.int .i32 78)), none⟩,
⟨(some 46), .mov (.t 48), none⟩] [1, 2, 7, 9, 42, 46])
 (.cond (.t 46) .skip
 (.seq (.ops [
⟨(some 50), .mov (.t 9), none⟩,
⟨(some 51), .bin .eql (.t 50) (.k (.int .i32 84)), none⟩,
⟨(some 49), .mov (.t 51), none⟩] [1, 2, 7, 9, 42, 49])
 (.cond (.t 49) (.ops [
⟨(some 52), .faddr 5 (.t 2), none⟩,
⟨(some 53), .load false 1 (.t 52), none⟩,
⟨(some 54), .bin .lss (.t 53) (.k (.int .i64 0)), none⟩,
⟨(some 55), .mov (.t 54), none⟩,
⟨(some 56), .faddr 5 (.t 2), (some (55, false))⟩,
⟨(some 57), .load false 1 (.t 56), (some (55, false))⟩,
⟨(some 58), .mov (.t 1), (some (55, false))⟩,
⟨(some 59), .bin .geq (.t 57) (.t 58), (some (55, false))⟩,
⟨(some 60), .pick (.t 55) (.k (.bool true)) (.t 59), none⟩,
⟨(some 7), .mov (.t 60), none⟩] [1, 2, 7, 42])
 (.seq (.seq (.ops [
⟨(some 62), .mov (.t 9), none⟩,
⟨(some 63), .bin .geq (.t 62) (.k (.int .i32 97)), none⟩,
⟨(some 64), .mov (.t 63), none⟩,
⟨(some 65), .mov (.t 9), (some (64, true))⟩,
⟨(some 66), .call 80 [(.t 2), (.t 65)], (some (64, true))⟩,
⟨(some 67), .nilck (.t 66), (some (64, true))⟩,
⟨(some 68), .load false 1 (.t 67), (some (64, true))⟩,
⟨(some 69), .call 103 [(.t 68)], (some (64, true))⟩,
⟨(some 70), .un .not (.t 69), (some (64, true))⟩,
⟨(some 71), .pick (.t 64) (.t 70) (.k (.bool false)), none⟩,
⟨(some 61), .mov (.t 71), none⟩] [1, 2, 7, 9, 42, 61])
 (.cond (.t 61) .skip
 (.ops [
⟨(some 72), .mov (.t 9), none⟩,
⟨(some 73), .bin .lss (.t 72) (.k (.int .i32 97)), none⟩,
⟨(some 74), .mov (.t 73), none⟩,
⟨(some 75), .mov (.t 9), (some (74, true))⟩,
⟨(some 76), .call 80 [(.t 2), (.t 75)], (some (74, true))⟩,
⟨(some 77), .nilck (.t 76), (some (74, true))⟩,
⟨(some 78), .load false 1 (.t 77), (some (74, true))⟩,
⟨(some 79), .call 97 [(.t 78)], (some (74, true))⟩,
⟨(some 80), .un .not (.t 79), (some (74, true))⟩,
⟨(some 81), .pick (.t 74) (.t 80) (.k (.bool false)), none⟩,
⟨(some 61), .mov (.t 81), none⟩] [1, 2, 7, 42, 61])))
 (.cond (.t 61) (.seq (.ops [
⟨(some 4), .mov (.k (.int .i64 6)), none⟩] [4])
 .ret)
 .skip)))))))))))
def c_ins_Check : F := ⟨true, 2, (.seq (.ops [
⟨(some 2), .box (.t 0), none⟩,
⟨(some 4), .mov (.k (.int .i64 0)), none⟩] [1, 2])
 (.seq (.ops [
⟨(some 11), .faddr 0 (.t 2), none⟩,
⟨(some 12), .load false 1 (.t 11), none⟩,
⟨(some 13), .call 79 [(.t 12)], none⟩,
⟨(some 10), .mov (.t 13), none⟩,
⟨(some 14), .extract (.t 10) 0, none⟩,
⟨(some 15), .extract (.t 10) 1, none⟩,
⟨(some 5), .alloc [(.str []), (.str [])], none⟩,
⟨none, .store 2 (.t 5) (.t 14), none⟩,
⟨(some 6), .mov (.t 15), none⟩] [1, 2, 5, 6])
 (.seq (.seq (.ops [
⟨(some 16), .mov (.t 6), none⟩,
⟨(some 17), .un .not (.t 16), none⟩,
⟨(some 18), .mov (.t 17), none⟩,
⟨(some 19), .load true 6 (.t 2), (some (18, false))⟩,
⟨(some 20), .load true 2 (.t 5), (some (18, false))⟩,
⟨(some 21), .call 102 [(.t 19), (.t 20)], (some (18, false))⟩,
⟨(some 22), .build [(.int .i64 0), (.int .i64 0), (.int .i64 0), (.int .i64 0), (.int .i64 0), (.int .i64 0)] [], (some (18, false))⟩,
⟨(some 23), .eq true (.tst [(1, .ti), (1, .ti), (1, .ti), (1, .ti), (1, .ti), (1, .ti)]) (.t 21) (.t 22), (some (18, false))⟩,
⟨(some 24), .pick (.t 18) (.k (.bool true)) (.t 23), none⟩,
⟨(some 25), .mov (.t 24), none⟩,
⟨(some 26), .faddr 0 (.t 2), (some (25, false))⟩,
⟨(some 27), .load false 1 (.t 26), (some (25, false))⟩,
⟨(some 28), .bin .eql (.t 27) (.k (.int .i64 15)), (some (25, false))⟩,
⟨(some 29), .mov (.t 28), (some (25, false))⟩,
⟨(some 30), .faddr 4 (.t 2), (some (29, true))⟩,
⟨(some 31), .load false 1 (.t 30), (some (29, true))⟩,
⟨(some 32), .bin .lss (.t 31) (.k (.int .i64 0)), (some (29, true))⟩,
⟨(some 33), .mov (.t 32), (some (29, true))⟩,
⟨(some 34), .faddr 4 (.t 2), (some (33, false))⟩,
⟨(some 35), .load false 1 (.t 34), (some (33, false))⟩,
⟨(some 36), .bin .gtr (.t 35) (.k (.int .i64 99)), (some (33, false))⟩,
⟨(some 37), .pick (.t 33) (.k (.bool true)) (.t 36), (some (29, true))⟩,
⟨(some 38), .pick (.t 29) (.t 37) (.k (.bool false)), (some (25, false))⟩,
⟨(some 39), .pick (.t 25) (.k (.bool true)) (.t 38), none⟩] [1, 2, 5, 39])
 (.cond (.t 39) (.seq (.ops [
⟨(some 4), .mov (.k (.int .i64 1)), none⟩] [4])
 .ret)
 .skip))
 (.seq (.ops [
⟨(some 7), .mov (.k (.bool false)), none⟩] [1, 2, 5, 7])
 (.seq (.seq (.ops [
⟨(some 40), .faddr 1 (.t 5), none⟩,
⟨(some 41), .load false 1 (.t 40), none⟩,
⟨(some 42), .range (.t 41), none⟩] [1, 2, 7, 42])
 (.block 0 (.loop c_ins_Check_L0)))
 (.seq (.seq (.ops [
⟨(some 82), .mov (.t 7), none⟩] [82])
 (.cond (.t 82) (.seq (.ops [
⟨(some 4), .mov (.k (.int .i64 4)), none⟩] [4])
 .ret)
 .skip))
 (.seq (.ops [
⟨(some 4), .mov (.k (.int .i64 0)), none⟩] [4])
 .ret))))))), [.tmp 4]⟩
abbrev n_ins_Check : Nat := 83
def c_shape_of : F := ⟨true, 1, (.seq (.ops [
⟨(some 2), .alloc [(.str []), (.int .i64 0), (.int .i64 0), (.bool false)], none⟩,
⟨(some 3), .mov (.k (.bool false)), none⟩] [0, 2])
 (.seq (.seq (.ops [
⟨(some 4), .mov (.t 0), none⟩,
⟨(some 5), .bin .lss (.t 4) (.k (.int .i64 0)), none⟩,
⟨(some 6), .mov (.t 5), none⟩,
⟨(some 7), .mov (.t 0), (some (6, false))⟩,
⟨(some 8), .bin .geq (.t 7) (.k (.int .i64 19)), (some (6, false))⟩,
⟨(some 9), .pick (.t 6) (.k (.bool true)) (.t 8), none⟩,
⟨(some 10), .mov (.t 9), none⟩,
⟨(some 11), .mov (.t 0), (some (10, false))⟩,
⟨(some 12), .iaddrA 19 4 (.k (.fp gl_2)) (.t 11), (some (10, false))⟩,
⟨(some 13), .faddr 0 (.t 12), (some (10, false))⟩,
⟨(some 14), .load false 1 (.t 13), (some (10, false))⟩,
⟨(some 15), .bin .eql (.t 14) (.k (.str [])), (some (10, false))⟩,
⟨(some 16), .pick (.t 10) (.k (.bool true)) (.t 15), none⟩] [0, 2, 16])
 (.cond (.t 16) (.seq (.ops [
⟨(some 17), .build [(.str []), (.int .i64 0), (.int .i64 0), (.bool false)] [], none⟩,
⟨none, .store 4 (.t 2) (.t 17), none⟩,
⟨(some 3), .mov (.k (.bool false)), none⟩] [2, 3])
 .ret)
 .skip))
 (.seq (.ops [
⟨(some 18), .mov (.t 0), none⟩,
⟨(some 19), .iaddrA 19 4 (.k (.fp gl_2)) (.t 18), none⟩,
⟨(some 20), .load true 4 (.t 19), none⟩,
⟨none, .store 4 (.t 2) (.t 20), none⟩,
⟨(some 3), .mov (.k (.bool true)), none⟩] [2, 3])
 .ret))), [.cell 2 true 4, .tmp 3]⟩
abbrev n_shape_of : Nat := 84
def c_shape_value : F := ⟨true, 3, (.seq (.ops [
⟨(some 3), .box (.t 0), none⟩,
⟨(some 4), .box (.t 1), none⟩,
⟨(some 6), .mov (.k (.bool false)), none⟩] [2, 3, 4])
 (.seq (.ops [
⟨(some 7), .faddr 0 (.t 4), none⟩,
⟨(some 8), .load false 1 (.t 7), none⟩,
⟨(some 9), .bin .eql (.t 8) (.k (.int .i64 4)), none⟩,
⟨(some 10), .mov (.t 9), none⟩,
⟨(some 11), .faddr 1 (.t 4), (some (10, true))⟩,
⟨(some 12), .load false 1 (.t 11), (some (10, true))⟩,
⟨(some 13), .bin .geq (.t 12) (.k (.int .i64 0)), (some (10, true))⟩,
⟨(some 14), .pick (.t 10) (.t 13) (.k (.bool false)), none⟩,
⟨(some 15), .mov (.t 14), none⟩,
⟨(some 16), .faddr 1 (.t 4), (some (15, true))⟩,
⟨(some 17), .load false 1 (.t 16), (some (15, true))⟩,
⟨(some 18), .faddr 2 (.t 3), (some (15, true))⟩,
⟨(some 19), .load false 1 (.t 18), (some (15, true))⟩,
⟨(some 20), .len 0 (.t 19), (some (15, true))⟩,
⟨(some 21), .bin .lss (.t 17) (.t 20), (some (15, true))⟩,
⟨(some 22), .pick (.t 15) (.t 21) (.k (.bool false)), none⟩,
⟨(some 23), .mov (.t 22), none⟩,
⟨(some 24), .faddr 2 (.t 3), (some (23, true))⟩,
⟨(some 25), .load false 1 (.t 24), (some (23, true))⟩,
⟨(some 26), .faddr 1 (.t 4), (some (23, true))⟩,
⟨(some 27), .load false 1 (.t 26), (some (23, true))⟩,
⟨(some 28), .iaddr 2 (.t 25) (.t 27), (some (23, true))⟩,
⟨(some 29), .faddr 0 (.t 28), (some (23, true))⟩,
⟨(some 30), .load false 1 (.t 29), (some (23, true))⟩,
⟨(some 31), .mov (.t 2), (some (23, true))⟩,
⟨(some 32), .bin .eql (.t 30) (.t 31), (some (23, true))⟩,
⟨(some 33), .pick (.t 23) (.t 32) (.k (.bool false)), none⟩,
⟨(some 6), .mov (.t 33), none⟩] [6])
 .ret)), [.tmp 6]⟩
abbrev n_shape_value : Nat := 85
def c_heap_in : F := ⟨true, 2, (.seq (.ops [
⟨(some 4), .mov (.k (.bool false)), none⟩] [0, 1])
 (.seq (.ops [
⟨(some 5), .mov (.t 0), none⟩,
⟨(some 6), .call 48 [(.t 5)], none⟩,
⟨(some 7), .mov (.t 6), none⟩,
⟨(some 8), .mov (.t 1), (some (7, true))⟩,
⟨(some 9), .bin .geq (.t 8) (.k (.int .i64 0)), (some (7, true))⟩,
⟨(some 10), .pick (.t 7) (.t 9) (.k (.bool false)), none⟩,
⟨(some 11), .mov (.t 10), none⟩,
⟨(some 12), .mov (.t 1), (some (11, true))⟩,
⟨(some 13), .mov (.t 0), (some (11, true))⟩,
⟨(some 14), .len 0 (.t 13), (some (11, true))⟩,
⟨(some 15), .bin .lss (.t 12) (.t 14), (some (11, true))⟩,
⟨(some 16), .pick (.t 11) (.t 15) (.k (.bool false)), none⟩,
⟨(some 4), .mov (.t 16), none⟩] [4])
 .ret)), [.tmp 4]⟩
abbrev n_heap_in : Nat := 86
def c_num_deeds : F := ⟨false, 0, (.seq (.ops [
⟨(some 0), .mov (.k .nilm), none⟩] [])
 (.seq (.ops [
⟨(some 1), .mkmap, none⟩,
⟨none, .mapset .ti (.t 1) (.k (.int .i64 4)) (.k (.fn 104 [])), none⟩,
⟨none, .mapset .ti (.t 1) (.k (.int .i64 5)) (.k (.fn 105 [])), none⟩,
⟨none, .mapset .ti (.t 1) (.k (.int .i64 6)) (.k (.fn 106 [])), none⟩,
⟨none, .mapset .ti (.t 1) (.k (.int .i64 7)) (.k (.fn 107 [])), none⟩,
⟨none, .mapset .ti (.t 1) (.k (.int .i64 8)) (.k (.fn 108 [])), none⟩,
⟨none, .mapset .ti (.t 1) (.k (.int .i64 9)) (.k (.fn 109 [])), none⟩,
⟨none, .mapset .ti (.t 1) (.k (.int .i64 10)) (.k (.fn 110 [])), none⟩,
⟨none, .mapset .ti (.t 1) (.k (.int .i64 11)) (.k (.fn 111 [])), none⟩,
⟨none, .mapset .ti (.t 1) (.k (.int .i64 12)) (.k (.fn 113 [])), none⟩,
⟨(some 2), .mov (.t 1), none⟩,
⟨(some 0), .mov (.t 2), none⟩] [0])
 .ret)), [.tmp 0]⟩
abbrev n_num_deeds : Nat := 87
def c_env_New_L0 : C := (.seq (.ops [
⟨(some 4), .bin .lss (.t 3) (.k (.int .i64 24)), none⟩] [0, 1, 3, 4])
 (.seq (.cond (.t 4) .skip
 (.exit 0))
 (.seq (.block 1 (.seq (.ops [
⟨(some 5), .mov (.t 3), none⟩,
⟨(some 2), .mov (.t 5), none⟩] [0, 1, 2, 3])
 (.ops [
⟨(some 6), .mov (.t 2), none⟩,
⟨(some 7), .mov (.t 2), none⟩,
⟨(some 8), .build [(.int .i64 0)] [(0, 1, (.t 7))], none⟩,
⟨(some 9), .iface 204 (.t 8), none⟩,
⟨(some 10), .iaddrA 24 1 (.t 1) (.t 6), none⟩,
⟨none, .store 1 (.t 10) (.t 9), none⟩] [0, 1, 3])))
 (.ops [
⟨(some 11), .bin .add (.t 3) (.k (.int .i64 1)), none⟩,
⟨(some 3), .mov (.t 11), none⟩] [0, 1, 3]))))
def c_env_New : F := ⟨true, 0, (.seq (.ops [
⟨(some 0), .alloc [.nilI, .nilI, .nilI, .nilI, .nilI, .nilI, .nilI, .nilI, .nilI, .nilI, .nilI, .nilI, .nilI, .nilI, .nilI, .nilI, .nilI, .nilI, .nilI, .nilI, .nilI, .nilI, .nilI, .nilI], none⟩] [0])
 (.seq (.ops [
⟨(some 1), .alloc [.nilI, .nilI, .nilI, .nilI, .nilI, .nilI, .nilI, .nilI, .nilI, .nilI, .nilI, .nilI, .nilI, .nilI, .nilI, .nilI, .nilI, .nilI, .nilI, .nilI, .nilI, .nilI, .nilI, .nilI], none⟩] [0, 1])
 (.seq (.seq (.ops [
⟨(some 3), .mov (.k (.int .i64 0)), none⟩] [0, 1, 3])
 (.block 0 (.loop c_env_New_L0)))
 (.seq (.ops [
⟨(some 12), .load true 24 (.t 1), none⟩,
⟨none, .store 24 (.t 0) (.t 12), none⟩] [0])
 .ret)))), [.cell 0 true 24]⟩
abbrev n_env_New : Nat := 93
def c_path_From_1 : F := ⟨false, 3, (.seq (.ops [
⟨(some 3), .mov (.k (.bool false)), none⟩] [0, 1, 2])
 (.seq (.ops [
⟨(some 5), .load false 1 (.t 0), none⟩,
⟨(some 6), .faddr 0 (.t 1), none⟩,
⟨(some 7), .load false 1 (.t 6), none⟩,
⟨(some 8), .iaddr 6 (.t 5) (.t 7), none⟩,
⟨(some 9), .load true 6 (.t 8), none⟩,
⟨(some 4), .alloc [(.int .i64 0), (.int .i64 0), (.int .i64 0), (.int .i64 0), (.int .i64 0), (.int .i64 0)], none⟩,
⟨none, .store 6 (.t 4) (.t 9), none⟩] [1, 2, 4])
 (.seq (.seq (.ops [
⟨(some 10), .load true 6 (.t 4), none⟩,
⟨(some 11), .call 30 [(.t 10)], none⟩,
⟨(some 12), .un .not (.t 11), none⟩,
⟨(some 13), .mov (.t 12), none⟩,
⟨(some 14), .faddr 0 (.t 1), (some (13, false))⟩,
⟨(some 15), .load false 1 (.t 14), (some (13, false))⟩,
⟨(some 16), .iaddrA 200 1 (.t 2) (.t 15), (some (13, false))⟩,
⟨(some 17), .load false 1 (.t 16), (some (13, false))⟩,
⟨(some 18), .pick (.t 13) (.k (.bool true)) (.t 17), none⟩] [1, 2, 4, 18])
 (.cond (.t 18) (.seq (.ops [
⟨(some 3), .mov (.k (.bool false)), none⟩] [3])
 .ret)
 .skip))
 (.seq (.ops [
⟨(some 19), .faddr 0 (.t 1), none⟩,
⟨(some 20), .load false 1 (.t 19), none⟩,
⟨(some 21), .iaddrA 200 1 (.t 2) (.t 20), none⟩,
⟨none, .store 1 (.t 21) (.k (.bool true)), none⟩] [1, 4])
 (.seq (.ops [
⟨(some 22), .faddr 1 (.t 1), none⟩,
⟨(some 23), .load true 24 (.t 22), none⟩,
⟨(some 24), .load true 6 (.t 4), none⟩,
⟨(some 25), .call 95 [(.t 23), (.t 24)], none⟩,
⟨(some 26), .faddr 1 (.t 1), none⟩,
⟨none, .store 24 (.t 26) (.t 25), none⟩] [1, 4])
 (.seq (.ops [
⟨(some 27), .faddr 25 (.t 1), none⟩,
⟨(some 28), .load false 1 (.t 27), none⟩,
⟨(some 29), .bin .add (.t 28) (.k (.int .i64 1)), none⟩,
⟨(some 30), .faddr 25 (.t 1), none⟩,
⟨none, .store 1 (.t 30) (.t 29), none⟩] [1, 4])
 (.seq (.ops [
⟨(some 31), .faddr 0 (.t 1), none⟩,
⟨(some 32), .load false 1 (.t 31), none⟩,
⟨(some 33), .bin .add (.t 32) (.k (.int .i64 1)), none⟩,
⟨(some 34), .faddr 0 (.t 1), none⟩,
⟨none, .store 1 (.t 34) (.t 33), none⟩] [1, 4])
 (.seq (.seq (.ops [
⟨(some 35), .faddr 0 (.t 4), none⟩,
⟨(some 36), .load false 1 (.t 35), none⟩,
⟨(some 37), .bin .eql (.t 36) (.k (.int .i64 16)), none⟩] [1, 4, 37])
 (.cond (.t 37) (.ops [
⟨(some 38), .faddr 5 (.t 4), none⟩,
⟨(some 39), .load false 1 (.t 38), none⟩,
⟨(some 40), .faddr 0 (.t 1), none⟩,
⟨none, .store 1 (.t 40) (.t 39), none⟩] [])
 .skip))
 (.seq (.ops [
⟨(some 3), .mov (.k (.bool true)), none⟩] [3])
 .ret))))))))), [.tmp 3]⟩
abbrev n_path_From_1 : Nat := 94
def c_env_After_D0 : List O := [
⟨(some 36), .faddr 1 (.t 3), none⟩,
⟨(some 37), .load false 1 (.t 36), none⟩,
⟨(some 38), .faddr 2 (.t 3), none⟩,
⟨(some 39), .load false 1 (.t 38), none⟩,
⟨(some 40), .iaddrA 24 1 (.t 2) (.t 39), none⟩,
⟨(some 41), .load false 1 (.t 40), none⟩,
⟨(some 42), .iaddrA 24 1 (.t 2) (.t 37), none⟩,
⟨none, .store 1 (.t 42) (.t 41), none⟩]
def c_env_After_D1 : List O := [
⟨(some 45), .faddr 1 (.t 3), none⟩,
⟨(some 46), .load false 1 (.t 45), none⟩,
⟨(some 47), .faddr 2 (.t 3), none⟩,
⟨(some 48), .load false 1 (.t 47), none⟩,
⟨(some 49), .faddr 2 (.t 3), none⟩,
⟨(some 50), .load false 1 (.t 49), none⟩,
⟨(some 51), .iaddrA 24 1 (.t 2) (.t 50), none⟩,
⟨(some 52), .load false 1 (.t 51), none⟩,
⟨(some 53), .faddr 1 (.t 3), none⟩,
⟨(some 54), .load false 1 (.t 53), none⟩,
⟨(some 55), .iaddrA 24 1 (.t 2) (.t 54), none⟩,
⟨(some 56), .load false 1 (.t 55), none⟩,
⟨(some 57), .iaddrA 24 1 (.t 2) (.t 46), none⟩,
⟨none, .store 1 (.t 57) (.t 52), none⟩,
⟨(some 58), .iaddrA 24 1 (.t 2) (.t 48), none⟩,
⟨none, .store 1 (.t 58) (.t 56), none⟩]
def c_env_After : F := ⟨true, 2, (.seq (.ops [
⟨(some 2), .box (.t 0), none⟩,
⟨(some 3), .box (.t 1), none⟩,
⟨(some 4), .alloc [.nilI, .nilI, .nilI, .nilI, .nilI, .nilI, .nilI, .nilI, .nilI, .nilI, .nilI, .nilI, .nilI, .nilI, .nilI, .nilI, .nilI, .nilI, .nilI, .nilI, .nilI, .nilI, .nilI, .nilI], none⟩] [2, 3, 4])
 (.seq (.ops [
⟨(some 5), .load true 24 (.t 2), none⟩,
⟨(some 6), .call 117 [(.t 5)], none⟩,
⟨none, .store 24 (.t 2) (.t 6), none⟩] [2, 3, 4])
 (.seq (.seq (.ops [
⟨(some 7), .load true 6 (.t 3), none⟩,
⟨(some 8), .call 30 [(.t 7)], none⟩,
⟨(some 9), .un .not (.t 8), none⟩,
⟨(some 10), .mov (.t 9), none⟩,
⟨(some 11), .faddr 1 (.t 3), (some (10, false))⟩,
⟨(some 12), .load false 1 (.t 11), (some (10, false))⟩,
⟨(some 13), .call 103 [(.t 12)], (some (10, false))⟩,
⟨(some 14), .un .not (.t 13), (some (10, false))⟩,
⟨(some 15), .pick (.t 10) (.k (.bool true)) (.t 14), none⟩,
⟨(some 16), .mov (.t 15), none⟩,
⟨(some 17), .faddr 2 (.t 3), (some (16, false))⟩,
⟨(some 18), .load false 1 (.t 17), (some (16, false))⟩,
⟨(some 19), .call 103 [(.t 18)], (some (16, false))⟩,
⟨(some 20), .un .not (.t 19), (some (16, false))⟩,
⟨(some 21), .pick (.t 16) (.k (.bool true)) (.t 20), none⟩] [2, 3, 4, 21])
 (.cond (.t 21) (.seq (.ops [
⟨(some 22), .load true 24 (.t 2), none⟩,
⟨none, .store 24 (.t 4) (.t 22), none⟩] [4])
 .ret)
 .skip))
 (.seq (.seq (.ops [
⟨(some 23), .faddr 0 (.t 3), none⟩,
⟨(some 24), .load false 1 (.t 23), none⟩] [2, 3, 4, 24])
 (.block 0 (.seq (.ops [
⟨(some 26), .bin .eql (.t 24) (.k (.int .i64 1)), none⟩,
⟨(some 25), .mov (.t 26), none⟩] [2, 3, 4, 24, 25])
 (.cond (.t 25) (.ops [
⟨(some 27), .faddr 1 (.t 3), none⟩,
⟨(some 28), .load false 1 (.t 27), none⟩,
⟨(some 29), .faddr 4 (.t 3), none⟩,
⟨(some 30), .load false 1 (.t 29), none⟩,
⟨(some 31), .build [(.int .i64 0)] [(0, 1, (.t 30))], none⟩,
⟨(some 32), .iface 201 (.t 31), none⟩,
⟨(some 33), .iaddrA 24 1 (.t 2) (.t 28), none⟩,
⟨none, .store 1 (.t 33) (.t 32), none⟩] [2, 4])
 (.seq (.ops [
⟨(some 35), .bin .eql (.t 24) (.k (.int .i64 2)), none⟩,
⟨(some 34), .mov (.t 35), none⟩] [2, 3, 4, 24, 34])
 (.cond (.t 34) (.opsD c_env_After_D0 [0, 1, 0, 4, 12, 28, 63, 127] [2, 4])
 (.seq (.ops [
⟨(some 44), .bin .eql (.t 24) (.k (.int .i64 3)), none⟩,
⟨(some 43), .mov (.t 44), none⟩] [2, 3, 4, 43])
 (.cond (.t 43) (.opsD c_env_After_D1 [0, 1, 0, 4, 0, 16, 48, 112, 0, 256, 768, 1792, 4083, 8179, 16383, 32767] [2, 4])
 .skip))))))))
 (.seq (.ops [
⟨(some 59), .load true 24 (.t 2), none⟩,
⟨none, .store 24 (.t 4) (.t 59), none⟩] [4])
 .ret))))), [.cell 4 true 24]⟩
abbrev n_env_After : Nat := 95
def c_value_out_D0 : List O := [
⟨(some 18), .faddr 0 (.t 3), none⟩,
⟨(some 19), .load false 1 (.t 18), none⟩,
⟨(some 20), .bin .lss (.t 19) (.k (.int .i64 0)), none⟩,
⟨(some 21), .mov (.t 20), none⟩,
⟨(some 22), .faddr 0 (.t 3), (some (21, false))⟩,
⟨(some 23), .load false 1 (.t 22), (some (21, false))⟩,
⟨(some 24), .faddr 25 (.t 2), (some (21, false))⟩,
⟨(some 25), .load false 1 (.t 24), (some (21, false))⟩,
⟨(some 26), .len 0 (.t 25), (some (21, false))⟩,
⟨(some 27), .bin .geq (.t 23) (.t 26), (some (21, false))⟩,
⟨(some 28), .pick (.t 21) (.k (.bool true)) (.t 27), none⟩,
⟨(some 29), .mov (.t 28), none⟩,
⟨(some 30), .faddr 1 (.t 3), (some (29, false))⟩,
⟨(some 31), .load false 1 (.t 30), (some (29, false))⟩,
⟨(some 32), .bin .lss (.t 31) (.k (.int .i64 0)), (some (29, false))⟩,
⟨(some 33), .pick (.t 29) (.k (.bool true)) (.t 32), none⟩,
⟨(some 34), .mov (.t 33), none⟩,
⟨(some 35), .faddr 1 (.t 3), (some (34, false))⟩,
⟨(some 36), .load false 1 (.t 35), (some (34, false))⟩,
⟨(some 37), .faddr 25 (.t 2), (some (34, false))⟩,
⟨(some 38), .load false 1 (.t 37), (some (34, false))⟩,
⟨(some 39), .faddr 0 (.t 3), (some (34, false))⟩,
⟨(some 40), .load false 1 (.t 39), (some (34, false))⟩,
⟨(some 41), .iaddr 2 (.t 38) (.t 40), (some (34, false))⟩,
⟨(some 42), .faddr 1 (.t 41), (some (34, false))⟩,
⟨(some 43), .load false 1 (.t 42), (some (34, false))⟩,
⟨(some 44), .len 0 (.t 43), (some (34, false))⟩,
⟨(some 45), .bin .geq (.t 36) (.t 44), (some (34, false))⟩,
⟨(some 46), .pick (.t 34) (.k (.bool true)) (.t 45), none⟩,
⟨(some 17), .mov (.t 46), none⟩]
def c_value_out_D1 : List O := [
⟨(some 48), .faddr 25 (.t 2), none⟩,
⟨(some 49), .load false 1 (.t 48), none⟩,
⟨(some 50), .faddr 0 (.t 3), none⟩,
⟨(some 51), .load false 1 (.t 50), none⟩,
⟨(some 52), .iaddr 2 (.t 49) (.t 51), none⟩,
⟨(some 53), .faddr 1 (.t 52), none⟩,
⟨(some 54), .load false 1 (.t 53), none⟩,
⟨(some 55), .faddr 1 (.t 3), none⟩,
⟨(some 56), .load false 1 (.t 55), none⟩,
⟨(some 57), .iaddr 25 (.t 54) (.t 56), none⟩,
⟨(some 58), .load true 25 (.t 57), none⟩,
⟨none, .store 25 (.t 4) (.t 58), none⟩,
⟨(some 5), .mov (.k (.bool true)), none⟩]
def c_value_out : F := ⟨true, 2, (.seq (.ops [
⟨(some 2), .box (.t 0), none⟩,
⟨(some 3), .box (.t 1), none⟩,
⟨(some 4), .alloc [(.int .i64 0), .nilI, .nilI, .nilI, .nilI, .nilI, .nilI, .nilI, .nilI, .nilI, .nilI, .nilI, .nilI, .nilI, .nilI, .nilI, .nilI, .nilI, .nilI, .nilI, .nilI, .nilI, .nilI, .nilI, .nilI], none⟩,
⟨(some 5), .mov (.k (.bool false)), none⟩] [2, 3, 4])
 (.seq (.block 0 (.seq (.ops [
⟨(some 7), .faddr 0 (.t 3), none⟩,
⟨(some 8), .load false 1 (.t 7), none⟩,
⟨(some 9), .bin .eql (.t 8) (.k (.int .i64 (-1))), none⟩,
⟨(some 10), .mov (.t 9), none⟩,
⟨(some 11), .faddr 1 (.t 3), (some (10, true))⟩,
⟨(some 12), .load false 1 (.t 11), (some (10, true))⟩,
⟨(some 13), .bin .eql (.t 12) (.k (.int .i64 0)), (some (10, true))⟩,
⟨(some 14), .pick (.t 10) (.t 13) (.k (.bool false)), none⟩,
⟨(some 6), .mov (.t 14), none⟩] [2, 3, 4, 6])
 (.cond (.t 6) (.seq (.ops [
⟨(some 15), .faddr 0 (.t 2), none⟩,
⟨(some 16), .load true 25 (.t 15), none⟩,
⟨none, .store 25 (.t 4) (.t 16), none⟩,
⟨(some 5), .mov (.k (.bool true)), none⟩] [4, 5])
 .ret)
 (.seq (.opsD c_value_out_D0 [0, 1, 3, 7, 15, 31, 15, 79, 207, 511, 1023, 2047, 4095, 8191, 16383, 32767, 65535, 131071, 262143, 131071, 655359, 131071, 2228223, 7995391, 16383999, 33161215, 66715647, 134217727, 268435455, 536870911] [2, 3, 4, 17])
 (.cond (.t 17) (.seq (.ops [
⟨(some 47), .build [(.int .i64 0), .nilI, .nilI, .nilI, .nilI, .nilI, .nilI, .nilI, .nilI, .nilI, .nilI, .nilI, .nilI, .nilI, .nilI, .nilI, .nilI, .nilI, .nilI, .nilI, .nilI, .nilI, .nilI, .nilI, .nilI] [], none⟩,
⟨none, .store 25 (.t 4) (.t 47), none⟩,
⟨(some 5), .mov (.k (.bool false)), none⟩] [4, 5])
 .ret)
 .skip)))))
 (.seq (.opsD c_value_out_D1 [0, 1, 0, 4, 15, 31, 63, 0, 128, 511, 1023, 2047, 4095] [4, 5])
 .ret))), [.cell 4 true 25, .tmp 5]⟩
abbrev n_value_out : Nat := 96
def c_loc_Reg : F := ⟨true, 1, (.seq (.ops [
⟨(some 2), .mov (.k (.bool false)), none⟩] [0])
 (.seq (.ops [
⟨(some 3), .mov (.t 0), none⟩,
⟨(some 4), .bin .geq (.t 3) (.k (.int .i64 0)), none⟩,
⟨(some 5), .mov (.t 4), none⟩,
⟨(some 6), .mov (.t 0), (some (5, true))⟩,
⟨(some 7), .bin .lss (.t 6) (.k (.int .i64 8)), (some (5, true))⟩,
⟨(some 8), .pick (.t 5) (.t 7) (.k (.bool false)), none⟩,
⟨(some 2), .mov (.t 8), none⟩] [2])
 .ret)), [.tmp 2]⟩
abbrev n_loc_Reg : Nat := 97
def c_ins_Sets : F := ⟨true, 1, (.seq (.ops [
⟨(some 1), .box (.t 0), none⟩,
⟨(some 2), .mov (.k (.int .i64 0)), none⟩,
⟨(some 3), .mov (.k (.bool false)), none⟩] [1])
 (.seq (.seq (.ops [
⟨(some 4), .faddr 0 (.t 1), none⟩,
⟨(some 5), .load false 1 (.t 4), none⟩,
⟨(some 6), .bin .geq (.t 5) (.k (.int .i64 4)), none⟩,
⟨(some 7), .mov (.t 6), none⟩,
⟨(some 8), .faddr 0 (.t 1), (some (7, true))⟩,
⟨(some 9), .load false 1 (.t 8), (some (7, true))⟩,
⟨(some 10), .bin .leq (.t 9) (.k (.int .i64 15)), (some (7, true))⟩,
⟨(some 11), .pick (.t 7) (.t 10) (.k (.bool false)), none⟩,
⟨(some 12), .mov (.t 11), none⟩,
⟨(some 13), .faddr 0 (.t 1), (some (12, true))⟩,
⟨(some 14), .load false 1 (.t 13), (some (12, true))⟩,
⟨(some 15), .bin .neq (.t 14) (.k (.int .i64 14)), (some (12, true))⟩,
⟨(some 16), .pick (.t 12) (.t 15) (.k (.bool false)), none⟩] [1, 16])
 (.cond (.t 16) (.seq (.ops [
⟨(some 17), .faddr 1 (.t 1), none⟩,
⟨(some 18), .load false 1 (.t 17), none⟩,
⟨(some 2), .mov (.t 18), none⟩,
⟨(some 3), .mov (.k (.bool true)), none⟩] [2, 3])
 .ret)
 .skip))
 (.seq (.ops [
⟨(some 2), .mov (.k (.int .i64 0)), none⟩,
⟨(some 3), .mov (.k (.bool false)), none⟩] [2, 3])
 .ret))), [.tmp 2, .tmp 3]⟩
abbrev n_ins_Sets : Nat := 98
def c_refine_round_D0 : List O := [
⟨(some 30), .mov (.t 6), none⟩,
⟨(some 31), .mov (.t 1), none⟩,
⟨(some 32), .mov (.t 10), none⟩,
⟨(some 33), .iaddr 1 (.t 31) (.t 32), none⟩,
⟨(some 34), .load false 1 (.t 33), none⟩,
⟨(some 35), .faddr 0 (.t 11), none⟩,
⟨(some 36), .load false 1 (.t 35), none⟩,
⟨(some 37), .faddr 1 (.t 11), none⟩,
⟨(some 38), .load false 1 (.t 37), none⟩,
⟨(some 39), .len 0 (.t 38), none⟩,
⟨(some 40), .build [(.int .i64 0), (.int .i64 0), (.int .i64 0)] [(0, 1, (.t 34)), (1, 1, (.t 36)), (2, 1, (.t 39))], none⟩,
⟨(some 41), .call 118 [(.t 30), (.t 40)], none⟩,
⟨(some 12), .mov (.t 41), none⟩]
def c_refine_round_L1 : C := (.seq (.ops [
⟨(some 48), .bin .lss (.t 47) (.t 46), none⟩] [0, 1, 6, 7, 8, 9, 10, 12, 13, 23, 24, 25, 45, 46, 47, 48])
 (.seq (.cond (.t 48) .skip
 (.exit 2))
 (.seq (.block 3 (.seq (.ops [
⟨(some 49), .iaddr 2 (.t 45) (.t 47), none⟩,
⟨(some 50), .load true 2 (.t 49), none⟩,
⟨(some 15), .alloc [(.int .i64 0), (.int .i64 0)], none⟩,
⟨none, .store 2 (.t 15) (.t 50), none⟩] [0, 1, 6, 7, 8, 9, 10, 12, 13, 15, 23, 24, 25, 45, 46, 47])
 (.seq (.ops [
⟨(some 51), .mov (.t 13), none⟩,
⟨(some 52), .load true 2 (.t 15), none⟩,
⟨(some 53), .build [(.int .i64 0), (.int .i64 0), (.int .i64 0), (.bool false)] [(0, 1, (.t 51)), (1, 2, (.t 52))], none⟩,
⟨(some 16), .alloc [(.int .i64 0), (.int .i64 0), (.int .i64 0), (.bool false)], none⟩,
⟨none, .store 4 (.t 16) (.t 53), none⟩] [0, 1, 6, 7, 8, 9, 10, 12, 15, 16, 23, 24, 25, 45, 46, 47])
 (.seq (.seq (.ops [
⟨(some 54), .faddr 0 (.t 15), none⟩,
⟨(some 55), .load false 1 (.t 54), none⟩,
⟨(some 56), .bin .eql (.t 55) (.k (.int .i64 0)), none⟩,
⟨(some 57), .mov (.t 56), none⟩,
⟨(some 58), .faddr 1 (.t 15), (some (57, true))⟩,
⟨(some 59), .load false 1 (.t 58), (some (57, true))⟩,
⟨(some 60), .bin .geq (.t 59) (.k (.int .i64 0)), (some (57, true))⟩,
⟨(some 61), .pick (.t 57) (.t 60) (.k (.bool false)), none⟩,
⟨(some 62), .mov (.t 61), none⟩,
⟨(some 63), .faddr 1 (.t 15), (some (62, true))⟩,
⟨(some 64), .load false 1 (.t 63), (some (62, true))⟩,
⟨(some 65), .mov (.t 0), (some (62, true))⟩,
⟨(some 66), .len 0 (.t 65), (some (62, true))⟩,
⟨(some 67), .bin .lss (.t 64) (.t 66), (some (62, true))⟩,
⟨(some 68), .pick (.t 62) (.t 67) (.k (.bool false)), none⟩] [0, 1, 6, 7, 8, 9, 10, 12, 15, 16, 23, 24, 25, 45, 46, 47, 68])
 (.cond (.t 68) (.ops [
⟨(some 69), .mov (.t 1), none⟩,
⟨(some 70), .faddr 1 (.t 15), none⟩,
⟨(some 71), .load false 1 (.t 70), none⟩,
⟨(some 72), .iaddr 1 (.t 69) (.t 71), none⟩,
⟨(some 73), .load false 1 (.t 72), none⟩,
⟨(some 74), .build [(.int .i64 0), (.int .i64 0)] [(1, 1, (.t 73))], none⟩,
⟨(some 75), .faddr 1 (.t 16), none⟩,
⟨none, .store 2 (.t 75) (.t 74), none⟩,
⟨(some 76), .faddr 3 (.t 16), none⟩,
⟨none, .store 1 (.t 76) (.k (.bool true)), none⟩] [0, 1, 6, 7, 8, 9, 10, 12, 16, 23, 24, 25, 45, 46, 47])
 .skip))
 (.ops [
⟨(some 77), .mov (.t 7), none⟩,
⟨(some 78), .load true 4 (.t 16), none⟩,
⟨(some 79), .call 119 [(.t 77), (.t 78)], none⟩,
⟨(some 13), .mov (.t 79), none⟩] [0, 1, 6, 7, 8, 9, 10, 12, 13, 23, 24, 25, 45, 46, 47])))))
 (.ops [
⟨(some 80), .bin .add (.t 47) (.k (.int .i64 1)), none⟩,
⟨(some 47), .mov (.t 80), none⟩] [0, 1, 6, 7, 8, 9, 10, 12, 13, 23, 24, 25, 45, 46, 47]))))
def c_refine_round_L2 : C := (.seq (.ops [
⟨(some 26), .bin .lss (.t 25) (.t 24), none⟩] [0, 1, 6, 7, 8, 9, 23, 24, 25, 26])
 (.seq (.cond (.t 26) .skip
 (.exit 0))
 (.seq (.block 1 (.seq (.ops [
⟨(some 27), .mov (.t 25), none⟩,
⟨(some 28), .iaddr 2 (.t 23) (.t 25), none⟩,
⟨(some 29), .load true 2 (.t 28), none⟩,
⟨(some 11), .alloc [(.int .i64 0), .nils], none⟩,
⟨(some 10), .mov (.t 27), none⟩,
⟨none, .store 2 (.t 11) (.t 29), none⟩] [0, 1, 6, 7, 8, 9, 10, 11, 23, 24, 25])
 (.seq (.opsD c_refine_round_D0 [0, 0, 0, 6, 14, 0, 32, 0, 128, 384, 1022, 2047, 4095] [0, 1, 6, 7, 8, 9, 10, 11, 12, 23, 24, 25])
 (.seq (.ops [
⟨(some 42), .mov (.t 12), none⟩,
⟨(some 43), .bin .sub (.k (.int .i64 (-1))) (.t 42), none⟩,
⟨(some 13), .mov (.t 43), none⟩] [0, 1, 6, 7, 8, 9, 10, 11, 12, 13, 23, 24, 25])
 (.seq (.seq (.ops [
⟨(some 44), .faddr 1 (.t 11), none⟩,
⟨(some 45), .load false 1 (.t 44), none⟩,
⟨(some 46), .len 0 (.t 45), none⟩,
⟨(some 47), .mov (.k (.int .i64 0)), none⟩] [0, 1, 6, 7, 8, 9, 10, 12, 13, 23, 24, 25, 45, 46, 47])
 (.block 2 (.loop c_refine_round_L1)))
 (.ops [
⟨(some 81), .mov (.t 9), none⟩,
⟨(some 82), .mov (.t 10), none⟩,
⟨(some 83), .mov (.t 8), none⟩,
⟨(some 84), .mov (.t 12), none⟩,
⟨(some 85), .mov (.t 13), none⟩,
⟨(some 86), .build [(.int .i64 0), (.int .i64 0)] [(0, 1, (.t 84)), (1, 1, (.t 85))], none⟩,
⟨(some 87), .call 120 [(.t 83), (.t 86)], none⟩,
⟨(some 88), .iaddr 1 (.t 81) (.t 82), none⟩,
⟨none, .store 1 (.t 88) (.t 87), none⟩] [0, 1, 6, 7, 8, 9, 23, 24, 25]))))))
 (.ops [
⟨(some 89), .bin .add (.t 25) (.k (.int .i64 1)), none⟩,
⟨(some 25), .mov (.t 89), none⟩] [0, 1, 6, 7, 8, 9, 23, 24, 25]))))
def c_refine_round : F := ⟨true, 2, (.seq (.ops [
⟨(some 4), .mov (.k .nils), none⟩,
⟨(some 5), .mov (.k (.int .i64 0)), none⟩] [0, 1])
 (.seq (.ops [
⟨(some 17), .mkmap, none⟩,
⟨(some 18), .mkmap, none⟩,
⟨(some 19), .mkmap, none⟩,
⟨(some 6), .mov (.t 17), none⟩,
⟨(some 7), .mov (.t 18), none⟩,
⟨(some 8), .mov (.t 19), none⟩] [0, 1, 6, 7, 8])
 (.seq (.ops [
⟨(some 20), .mov (.t 0), none⟩,
⟨(some 21), .len 0 (.t 20), none⟩,
⟨(some 22), .mkslice 3 1 8 false [(.int .i64 0)] (.t 21), none⟩,
⟨(some 9), .mov (.t 22), none⟩] [0, 1, 6, 7, 8, 9])
 (.seq (.seq (.ops [
⟨(some 23), .mov (.t 0), none⟩,
⟨(some 24), .len 0 (.t 23), none⟩,
⟨(some 25), .mov (.k (.int .i64 0)), none⟩] [0, 1, 6, 7, 8, 9, 23, 24, 25])
 (.block 0 (.loop c_refine_round_L2)))
 (.seq (.ops [
⟨(some 90), .mov (.t 9), none⟩,
⟨(some 91), .mov (.t 8), none⟩,
⟨(some 92), .len 2 (.t 91), none⟩,
⟨(some 4), .mov (.t 90), none⟩,
⟨(some 5), .mov (.t 92), none⟩] [4, 5])
 .ret))))), [.tmp 4, .tmp 5]⟩
abbrev n_refine_round : Nat := 99
def c_num_Parse_L0 : C := (.seq (.ops [
⟨(some 44), .next (.t 43), none⟩,
⟨(some 45), .extract (.t 44) 0, none⟩] [5, 6, 43, 44, 45])
 (.seq (.cond (.t 45) .skip
 (.exit 0))
 (.block 1 (.seq (.ops [
⟨(some 46), .extract (.t 44) 2, none⟩,
⟨(some 8), .mov (.t 46), none⟩] [5, 6, 8, 43])
 (.seq (.seq (.ops [
⟨(some 47), .mov (.t 8), none⟩,
⟨(some 48), .bin .lss (.t 47) (.k (.int .i32 48)), none⟩,
⟨(some 49), .mov (.t 48), none⟩,
⟨(some 50), .mov (.t 8), (some (49, false))⟩,
⟨(some 51), .bin .gtr (.t 50) (.k (.int .i32 57)), (some (49, false))⟩,
⟨(some 52), .pick (.t 49) (.k (.bool true)) (.t 51), none⟩] [5, 6, 8, 43, 52])
 (.cond (.t 52) (.seq (.ops [
⟨(some 2), .mov (.k (.int .i64 0)), none⟩,
⟨(some 3), .mov (.k (.int .i64 2)), none⟩] [2, 3])
 .ret)
 .skip))
 (.ops [
⟨(some 53), .mov (.t 6), none⟩,
⟨(some 54), .bin .mul (.t 53) (.k (.int .u64 10)), none⟩,
⟨(some 55), .mov (.t 8), none⟩,
⟨(some 56), .bin .sub (.t 55) (.k (.int .i32 48)), none⟩,
⟨(some 57), .convI .u64 (.t 56), none⟩,
⟨(some 58), .bin .add (.t 54) (.t 57), none⟩,
⟨(some 6), .mov (.t 58), none⟩] [5, 6, 43]))))))
def c_num_Parse : F := ⟨true, 1, (.seq (.ops [
⟨(some 2), .mov (.k (.int .i64 0)), none⟩,
⟨(some 3), .mov (.k (.int .i64 0)), none⟩] [0])
 (.seq (.ops [
⟨(some 10), .mov (.t 0), none⟩,
⟨(some 4), .mov (.t 10), none⟩,
⟨(some 5), .mov (.k (.bool false)), none⟩] [0, 4, 5])
 (.seq (.seq (.ops [
⟨(some 11), .mov (.t 0), none⟩,
⟨(some 12), .len 1 (.t 11), none⟩,
⟨(some 13), .bin .gtr (.t 12) (.k (.int .i64 0)), none⟩,
⟨(some 14), .mov (.t 13), none⟩,
⟨(some 15), .mov (.t 0), (some (14, true))⟩,
⟨(some 16), .idxS (.t 15) (.k (.int .i64 0)), (some (14, true))⟩,
⟨(some 17), .bin .eql (.t 16) (.k (.int .u8 45)), (some (14, true))⟩,
⟨(some 18), .pick (.t 14) (.t 17) (.k (.bool false)), none⟩] [0, 4, 5, 18])
 (.cond (.t 18) (.ops [
⟨(some 19), .mov (.t 0), none⟩,
⟨(some 20), .sliceS (.t 19) (some (.k (.int .i64 1))) none, none⟩,
⟨(some 4), .mov (.t 20), none⟩,
⟨(some 5), .mov (.k (.bool true)), none⟩] [4, 5])
 .skip))
 (.seq (.seq (.ops [
⟨(some 21), .mov (.t 4), none⟩,
⟨(some 22), .len 1 (.t 21), none⟩,
⟨(some 23), .bin .eql (.t 22) (.k (.int .i64 0)), none⟩,
⟨(some 24), .mov (.t 23), none⟩,
⟨(some 25), .mov (.t 4), (some (24, false))⟩,
⟨(some 26), .len 1 (.t 25), (some (24, false))⟩,
⟨(some 27), .bin .gtr (.t 26) (.k (.int .i64 19)), (some (24, false))⟩,
⟨(some 28), .pick (.t 24) (.k (.bool true)) (.t 27), none⟩,
⟨(some 29), .mov (.t 28), none⟩,
⟨(some 30), .mov (.t 4), (some (29, false))⟩,
⟨(some 31), .idxS (.t 30) (.k (.int .i64 0)), (some (29, false))⟩,
⟨(some 32), .bin .eql (.t 31) (.k (.int .u8 48)), (some (29, false))⟩,
⟨(some 33), .mov (.t 32), (some (29, false))⟩,
⟨(some 34), .mov (.t 4), (some (33, true))⟩,
⟨(some 35), .len 1 (.t 34), (some (33, true))⟩,
⟨(some 36), .bin .gtr (.t 35) (.k (.int .i64 1)), (some (33, true))⟩,
⟨(some 37), .mov (.t 36), (some (33, true))⟩,
⟨(some 38), .mov (.t 5), (some (37, false))⟩,
⟨(some 39), .pick (.t 37) (.k (.bool true)) (.t 38), (some (33, true))⟩,
⟨(some 40), .pick (.t 33) (.t 39) (.k (.bool false)), (some (29, false))⟩,
⟨(some 41), .pick (.t 29) (.k (.bool true)) (.t 40), none⟩] [4, 5, 41])
 (.cond (.t 41) (.seq (.ops [
⟨(some 2), .mov (.k (.int .i64 0)), none⟩,
⟨(some 3), .mov (.k (.int .i64 2)), none⟩] [2, 3])
 .ret)
 .skip))
 (.seq (.ops [
⟨(some 6), .mov (.k (.int .u64 0)), none⟩] [4, 5, 6])
 (.seq (.seq (.ops [
⟨(some 42), .mov (.t 4), none⟩,
⟨(some 43), .range (.t 42), none⟩] [5, 6, 43])
 (.block 0 (.loop c_num_Parse_L0)))
 (.seq (.ops [
⟨(some 9), .mov (.k (.int .u64 9223372036854775807)), none⟩] [5, 6, 9])
 (.seq (.seq (.ops [
⟨(some 59), .mov (.t 5), none⟩] [6, 9, 59])
 (.cond (.t 59) (.seq (.ops [
⟨(some 60), .mov (.t 9), none⟩,
⟨(some 61), .bin .add (.t 60) (.k (.int .u64 1)), none⟩,
⟨(some 9), .mov (.t 61), none⟩] [6, 9])
 (.seq (.ops [
⟨(some 62), .mov (.t 6), none⟩,
⟨(some 63), .un .neg (.t 62), none⟩,
⟨(some 64), .mov (.t 9), none⟩,
⟨(some 65), .un .neg (.t 64), none⟩,
⟨(some 6), .mov (.t 63), none⟩,
⟨(some 9), .mov (.t 65), none⟩] [6, 9])
 (.seq (.seq (.ops [
⟨(some 66), .mov (.t 6), none⟩,
⟨(some 67), .mov (.t 9), none⟩,
⟨(some 68), .bin .lss (.t 66) (.t 67), none⟩] [6, 68])
 (.cond (.t 68) (.seq (.ops [
⟨(some 2), .mov (.k (.int .i64 0)), none⟩,
⟨(some 3), .mov (.k (.int .i64 2)), none⟩] [2, 3])
 .ret)
 .skip))
 (.seq (.ops [
⟨(some 69), .mov (.t 6), none⟩,
⟨(some 70), .convI .i64 (.t 69), none⟩,
⟨(some 2), .mov (.t 70), none⟩,
⟨(some 3), .mov (.k (.int .i64 0)), none⟩] [2, 3])
 .ret))))
 .skip))
 (.seq (.seq (.ops [
⟨(some 71), .mov (.t 6), none⟩,
⟨(some 72), .mov (.t 9), none⟩,
⟨(some 73), .bin .gtr (.t 71) (.t 72), none⟩] [6, 73])
 (.cond (.t 73) (.seq (.ops [
⟨(some 2), .mov (.k (.int .i64 0)), none⟩,
⟨(some 3), .mov (.k (.int .i64 2)), none⟩] [2, 3])
 .ret)
 .skip))
 (.seq (.ops [
⟨(some 74), .mov (.t 6), none⟩,
⟨(some 75), .convI .i64 (.t 74), none⟩,
⟨(some 2), .mov (.t 75), none⟩,
⟨(some 3), .mov (.k (.int .i64 0)), none⟩] [2, 3])
 .ret)))))))))), [.tmp 2, .tmp 3]⟩
abbrev n_num_Parse : Nat := 100
def c_loc_Parse_L0 : C := (.seq (.ops [
⟨(some 11), .next (.t 10), none⟩,
⟨(some 12), .extract (.t 11) 0, none⟩] [0, 4, 5, 6, 10, 11, 12])
 (.seq (.cond (.t 12) .skip
 (.exit 0))
 (.block 1 (.seq (.ops [
⟨(some 13), .extract (.t 11) 1, none⟩,
⟨(some 14), .extract (.t 11) 2, none⟩,
⟨(some 7), .mov (.t 13), none⟩,
⟨(some 8), .mov (.t 14), none⟩] [0, 4, 5, 6, 7, 8, 10])
 (.block 2 (.seq (.ops [
⟨(some 22), .mov (.t 7), none⟩,
⟨(some 23), .bin .eql (.t 22) (.k (.int .i64 0)), none⟩,
⟨(some 24), .mov (.t 23), none⟩,
⟨(some 25), .mov (.t 8), (some (24, true))⟩,
⟨(some 26), .bin .eql (.t 25) (.k (.int .i32 114)), (some (24, true))⟩,
⟨(some 27), .pick (.t 24) (.t 26) (.k (.bool false)), none⟩,
⟨(some 21), .mov (.t 27), none⟩] [0, 4, 5, 6, 7, 8, 10, 21])
 (.cond (.t 21) (.ops [
⟨(some 6), .mov (.k (.int .i64 8)), none⟩] [0, 4, 5, 6, 10])
 (.seq (.ops [
⟨(some 29), .mov (.t 7), none⟩,
⟨(some 30), .bin .eql (.t 29) (.k (.int .i64 0)), none⟩,
⟨(some 31), .mov (.t 30), none⟩,
⟨(some 32), .mov (.t 8), (some (31, true))⟩,
⟨(some 33), .bin .eql (.t 32) (.k (.int .i32 115)), (some (31, true))⟩,
⟨(some 34), .pick (.t 31) (.t 33) (.k (.bool false)), none⟩,
⟨(some 28), .mov (.t 34), none⟩] [0, 4, 5, 6, 7, 8, 10, 28])
 (.cond (.t 28) (.ops [
⟨(some 4), .mov (.k (.int .i64 8)), none⟩,
⟨(some 6), .mov (.k (.int .i64 16)), none⟩] [0, 4, 5, 6, 10])
 (.seq (.ops [
⟨(some 36), .mov (.t 7), none⟩,
⟨(some 37), .bin .eql (.t 36) (.k (.int .i64 0)), none⟩,
⟨(some 38), .mov (.t 37), none⟩,
⟨(some 39), .mov (.t 7), (some (38, false))⟩,
⟨(some 40), .bin .gtr (.t 39) (.k (.int .i64 2)), (some (38, false))⟩,
⟨(some 41), .pick (.t 38) (.k (.bool true)) (.t 40), none⟩,
⟨(some 42), .mov (.t 41), none⟩,
⟨(some 43), .mov (.t 8), (some (42, false))⟩,
⟨(some 44), .bin .lss (.t 43) (.k (.int .i32 48)), (some (42, false))⟩,
⟨(some 45), .pick (.t 42) (.k (.bool true)) (.t 44), none⟩,
⟨(some 46), .mov (.t 45), none⟩,
⟨(some 47), .mov (.t 8), (some (46, false))⟩,
⟨(some 48), .bin .gtr (.t 47) (.k (.int .i32 57)), (some (46, false))⟩,
⟨(some 49), .pick (.t 46) (.k (.bool true)) (.t 48), none⟩,
⟨(some 50), .mov (.t 49), none⟩,
⟨(some 51), .mov (.t 7), (some (50, false))⟩,
⟨(some 52), .bin .eql (.t 51) (.k (.int .i64 2)), (some (50, false))⟩,
⟨(some 53), .mov (.t 52), (some (50, false))⟩,
⟨(some 54), .mov (.t 5), (some (53, true))⟩,
⟨(some 55), .bin .eql (.t 54) (.k (.int .i64 0)), (some (53, true))⟩,
⟨(some 56), .pick (.t 53) (.t 55) (.k (.bool false)), (some (50, false))⟩,
⟨(some 57), .pick (.t 50) (.k (.bool true)) (.t 56), none⟩,
⟨(some 35), .mov (.t 57), none⟩] [0, 4, 5, 6, 8, 10, 35])
 (.cond (.t 35) (.seq (.ops [
⟨(some 2), .mov (.k (.int .i64 0)), none⟩,
⟨(some 3), .mov (.k (.int .i64 2)), none⟩] [2, 3])
 .ret)
 (.ops [
⟨(some 15), .mov (.t 5), none⟩,
⟨(some 16), .bin .mul (.t 15) (.k (.int .i64 10)), none⟩,
⟨(some 17), .mov (.t 8), none⟩,
⟨(some 18), .bin .sub (.t 17) (.k (.int .i32 48)), none⟩,
⟨(some 19), .convI .i64 (.t 18), none⟩,
⟨(some 20), .bin .add (.t 16) (.t 19), none⟩,
⟨(some 5), .mov (.t 20), none⟩] [0, 4, 5, 6, 10]))))))))))))
def c_loc_Parse : F := ⟨true, 1, (.seq (.ops [
⟨(some 2), .mov (.k (.int .i64 0)), none⟩,
⟨(some 3), .mov (.k (.int .i64 0)), none⟩] [0])
 (.seq (.ops [
⟨(some 4), .mov (.k (.int .i64 0)), none⟩,
⟨(some 5), .mov (.k (.int .i64 0)), none⟩,
⟨(some 6), .mov (.k (.int .i64 0)), none⟩] [0, 4, 5, 6])
 (.seq (.seq (.ops [
⟨(some 9), .mov (.t 0), none⟩,
⟨(some 10), .range (.t 9), none⟩] [0, 4, 5, 6, 10])
 (.block 0 (.loop c_loc_Parse_L0)))
 (.seq (.seq (.ops [
⟨(some 58), .mov (.t 0), none⟩,
⟨(some 59), .len 1 (.t 58), none⟩,
⟨(some 60), .bin .lss (.t 59) (.k (.int .i64 2)), none⟩,
⟨(some 61), .mov (.t 60), none⟩,
⟨(some 62), .mov (.t 5), (some (61, false))⟩,
⟨(some 63), .mov (.t 6), (some (61, false))⟩,
⟨(some 64), .bin .geq (.t 62) (.t 63), (some (61, false))⟩,
⟨(some 65), .pick (.t 61) (.k (.bool true)) (.t 64), none⟩] [4, 5, 65])
 (.cond (.t 65) (.seq (.ops [
⟨(some 2), .mov (.k (.int .i64 0)), none⟩,
⟨(some 3), .mov (.k (.int .i64 2)), none⟩] [2, 3])
 .ret)
 .skip))
 (.seq (.ops [
⟨(some 66), .mov (.t 4), none⟩,
⟨(some 67), .mov (.t 5), none⟩,
⟨(some 68), .bin .add (.t 66) (.t 67), none⟩,
⟨(some 2), .mov (.t 68), none⟩,
⟨(some 3), .mov (.k (.int .i64 0)), none⟩] [2, 3])
 .ret))))), [.tmp 2, .tmp 3]⟩
abbrev n_loc_Parse : Nat := 101
def c_ins_rest_L0 : C := (.seq (.ops [
⟨(some 11), .next (.t 10), none⟩,
⟨(some 12), .extract (.t 11) 0, none⟩] [2, 4, 10, 11, 12])
 (.seq (.cond (.t 12) .skip
 (.exit 0))
 (.block 1 (.seq (.ops [
⟨(some 13), .extract (.t 11) 2, none⟩,
⟨(some 6), .mov (.t 13), none⟩] [2, 4, 6, 10])
 (.seq (.ops [
⟨(some 14), .mov (.t 6), none⟩] [2, 4, 6, 10, 14])
 (.block 2 (.seq (.ops [
⟨(some 19), .bin .eql (.t 14) (.k (.int .i32 78)), none⟩,
⟨(some 18), .mov (.t 19), none⟩] [2, 4, 6, 10, 14, 18])
 (.cond (.t 18) (.ops [
⟨(some 20), .faddr 4 (.t 2), none⟩,
⟨none, .store 1 (.t 20) (.k (.int .i64 0)), none⟩] [2, 4, 10])
 (.seq (.ops [
⟨(some 22), .bin .eql (.t 14) (.k (.int .i32 84)), none⟩,
⟨(some 21), .mov (.t 22), none⟩] [2, 4, 6, 10, 21])
 (.cond (.t 21) (.ops [
⟨(some 23), .faddr 5 (.t 2), none⟩,
⟨none, .store 1 (.t 23) (.k (.int .i64 0)), none⟩] [2, 4, 10])
 (.ops [
⟨(some 15), .mov (.t 6), none⟩,
⟨(some 16), .call 80 [(.t 2), (.t 15)], none⟩,
⟨(some 17), .nilck (.t 16), none⟩,
⟨none, .store 1 (.t 17) (.k (.int .i64 0)), none⟩] [2, 4, 10])))))))))))
def c_ins_rest : F := ⟨true, 2, (.seq (.ops [
⟨(some 2), .box (.t 0), none⟩,
⟨(some 3), .box (.t 1), none⟩,
⟨(some 4), .alloc [(.int .i64 0), (.int .i64 0), (.int .i64 0), (.int .i64 0), (.int .i64 0), (.int .i64 0)], none⟩] [2, 3, 4])
 (.seq (.ops [
⟨(some 7), .faddr 0 (.t 2), none⟩,
⟨none, .store 1 (.t 7) (.k (.int .i64 0)), none⟩] [2, 3, 4])
 (.seq (.seq (.ops [
⟨(some 8), .faddr 1 (.t 3), none⟩,
⟨(some 9), .load false 1 (.t 8), none⟩,
⟨(some 10), .range (.t 9), none⟩] [2, 4, 10])
 (.block 0 (.loop c_ins_rest_L0)))
 (.seq (.ops [
⟨(some 24), .load true 6 (.t 2), none⟩,
⟨none, .store 6 (.t 4) (.t 24), none⟩] [4])
 .ret)))), [.cell 4 true 6]⟩
abbrev n_ins_rest : Nat := 102
def c_loc_Right : F := ⟨true, 1, (.seq (.ops [
⟨(some 2), .mov (.k (.bool false)), none⟩] [0])
 (.seq (.ops [
⟨(some 3), .mov (.t 0), none⟩,
⟨(some 4), .bin .geq (.t 3) (.k (.int .i64 0)), none⟩,
⟨(some 5), .mov (.t 4), none⟩,
⟨(some 6), .mov (.t 0), (some (5, true))⟩,
⟨(some 7), .bin .lss (.t 6) (.k (.int .i64 24)), (some (5, true))⟩,
⟨(some 8), .pick (.t 5) (.t 7) (.k (.bool false)), none⟩,
⟨(some 2), .mov (.t 8), none⟩] [2])
 .ret)), [.tmp 2]⟩
abbrev n_loc_Right : Nat := 103
def c_num_deeds_1 : F := ⟨true, 2, (.seq (.ops [
⟨(some 4), .mov (.k (.int .i64 0)), none⟩] [0, 1])
 (.seq (.ops [
⟨(some 5), .mov (.t 0), none⟩,
⟨(some 6), .mov (.t 1), none⟩,
⟨(some 7), .bin .add (.t 5) (.t 6), none⟩,
⟨(some 4), .mov (.t 7), none⟩] [4])
 .ret)), [.tmp 4]⟩
abbrev n_num_deeds_1 : Nat := 104
def c_num_deeds_2 : F := ⟨true, 2, (.seq (.ops [
⟨(some 4), .mov (.k (.int .i64 0)), none⟩] [0, 1])
 (.seq (.ops [
⟨(some 5), .mov (.t 0), none⟩,
⟨(some 6), .mov (.t 1), none⟩,
⟨(some 7), .bin .sub (.t 5) (.t 6), none⟩,
⟨(some 4), .mov (.t 7), none⟩] [4])
 .ret)), [.tmp 4]⟩
abbrev n_num_deeds_2 : Nat := 105
def c_num_deeds_3 : F := ⟨true, 2, (.seq (.ops [
⟨(some 4), .mov (.k (.int .i64 0)), none⟩] [0, 1])
 (.seq (.ops [
⟨(some 5), .mov (.t 0), none⟩,
⟨(some 6), .mov (.t 1), none⟩,
⟨(some 7), .bin .mul (.t 5) (.t 6), none⟩,
⟨(some 4), .mov (.t 7), none⟩] [4])
 .ret)), [.tmp 4]⟩
abbrev n_num_deeds_3 : Nat := 106
def c_num_deeds_4 : F := ⟨true, 2, (.seq (.ops [
⟨(some 4), .mov (.k (.int .i64 0)), none⟩] [0, 1])
 (.seq (.ops [
⟨(some 5), .mov (.t 0), none⟩,
⟨(some 6), .mov (.t 1), none⟩,
⟨(some 7), .bin .quo (.t 5) (.t 6), none⟩,
⟨(some 4), .mov (.t 7), none⟩] [4])
 .ret)), [.tmp 4]⟩
abbrev n_num_deeds_4 : Nat := 107
def c_num_deeds_5 : F := ⟨true, 2, (.seq (.ops [
⟨(some 4), .mov (.k (.int .i64 0)), none⟩] [0, 1])
 (.seq (.ops [
⟨(some 5), .mov (.t 0), none⟩,
⟨(some 6), .mov (.t 1), none⟩,
⟨(some 7), .bin .and (.t 5) (.t 6), none⟩,
⟨(some 4), .mov (.t 7), none⟩] [4])
 .ret)), [.tmp 4]⟩
abbrev n_num_deeds_5 : Nat := 108
def c_num_deeds_6 : F := ⟨true, 2, (.seq (.ops [
⟨(some 4), .mov (.k (.int .i64 0)), none⟩] [0, 1])
 (.seq (.ops [
⟨(some 5), .mov (.t 0), none⟩,
⟨(some 6), .mov (.t 1), none⟩,
⟨(some 7), .bin .or (.t 5) (.t 6), none⟩,
⟨(some 4), .mov (.t 7), none⟩] [4])
 .ret)), [.tmp 4]⟩
abbrev n_num_deeds_6 : Nat := 109
def c_num_deeds_7 : F := ⟨true, 2, (.seq (.ops [
⟨(some 4), .mov (.k (.int .i64 0)), none⟩] [0, 1])
 (.seq (.ops [
⟨(some 5), .mov (.t 0), none⟩,
⟨(some 6), .mov (.t 1), none⟩,
⟨(some 7), .bin .xor (.t 5) (.t 6), none⟩,
⟨(some 4), .mov (.t 7), none⟩] [4])
 .ret)), [.tmp 4]⟩
abbrev n_num_deeds_7 : Nat := 110
def c_num_deeds_8 : F := ⟨true, 2, (.seq (.ops [
⟨(some 4), .mov (.k (.int .i64 0)), none⟩] [0, 1])
 (.seq (.ops [
⟨(some 5), .mov (.t 0), none⟩,
⟨(some 6), .mov (.t 1), none⟩,
⟨(some 7), .bin .lss (.t 5) (.t 6), none⟩,
⟨(some 8), .call 112 [(.t 7)], none⟩,
⟨(some 4), .mov (.t 8), none⟩] [4])
 .ret)), [.tmp 4]⟩
abbrev n_num_deeds_8 : Nat := 111
def c_num_flag : F := ⟨true, 1, (.seq (.ops [
⟨(some 2), .mov (.k (.int .i64 0)), none⟩] [0])
 (.seq (.seq (.ops [
⟨(some 3), .mov (.t 0), none⟩] [3])
 (.cond (.t 3) (.seq (.ops [
⟨(some 2), .mov (.k (.int .i64 1)), none⟩] [2])
 .ret)
 .skip))
 (.seq (.ops [
⟨(some 2), .mov (.k (.int .i64 0)), none⟩] [2])
 .ret))), [.tmp 2]⟩
abbrev n_num_flag : Nat := 112
def c_num_deeds_9 : F := ⟨true, 2, (.seq (.ops [
⟨(some 4), .mov (.k (.int .i64 0)), none⟩] [0, 1])
 (.seq (.ops [
⟨(some 5), .mov (.t 0), none⟩,
⟨(some 6), .mov (.t 1), none⟩,
⟨(some 7), .bin .eql (.t 5) (.t 6), none⟩,
⟨(some 8), .call 112 [(.t 7)], none⟩,
⟨(some 4), .mov (.t 8), none⟩] [4])
 .ret)), [.tmp 4]⟩
abbrev n_num_deeds_9 : Nat := 113
def c_env_good : F := ⟨true, 1, (.seq (.ops [
⟨(some 1), .box (.t 0), none⟩,
⟨(some 2), .alloc [.nilI, .nilI, .nilI, .nilI, .nilI, .nilI, .nilI, .nilI, .nilI, .nilI, .nilI, .nilI, .nilI, .nilI, .nilI, .nilI, .nilI, .nilI, .nilI, .nilI, .nilI, .nilI, .nilI, .nilI], none⟩] [1, 2])
 (.seq (.seq (.ops [
⟨(some 3), .load true 24 (.t 1), none⟩,
⟨(some 4), .call 121 [(.t 3)], none⟩] [1, 2, 4])
 (.cond (.t 4) (.seq (.ops [
⟨(some 5), .load true 24 (.t 1), none⟩,
⟨none, .store 24 (.t 2) (.t 5), none⟩] [2])
 .ret)
 .skip))
 (.seq (.ops [
⟨(some 6), .call 93 [], none⟩,
⟨none, .store 24 (.t 2) (.t 6), none⟩] [2])
 .ret))), [.cell 2 true 24]⟩
abbrev n_env_good : Nat := 117
def c_refine_start_of : F := ⟨false, 2, (.seq (.ops [
⟨(some 3), .box (.t 1), none⟩,
⟨(some 4), .mov (.k (.int .i64 0)), none⟩] [0, 3])
 (.seq (.ops [
⟨(some 8), .mov (.t 0), none⟩,
⟨(some 9), .load true 3 (.t 3), none⟩,
⟨(some 10), .lookup true (.tst [(1, .ti), (1, .ti), (1, .ti)]) (.int .i64 0) (.t 8) (.t 9), none⟩,
⟨(some 7), .mov (.t 10), none⟩,
⟨(some 11), .extract (.t 7) 0, none⟩,
⟨(some 12), .extract (.t 7) 1, none⟩,
⟨(some 5), .mov (.t 11), none⟩,
⟨(some 6), .mov (.t 12), none⟩] [0, 3, 5, 6])
 (.seq (.seq (.ops [
⟨(some 13), .mov (.t 6), none⟩,
⟨(some 14), .un .not (.t 13), none⟩] [0, 3, 5, 14])
 (.cond (.t 14) (.seq (.ops [
⟨(some 15), .mov (.t 0), none⟩,
⟨(some 16), .len 2 (.t 15), none⟩,
⟨(some 5), .mov (.t 16), none⟩] [0, 3, 5])
 (.ops [
⟨(some 17), .mov (.t 0), none⟩,
⟨(some 18), .load true 3 (.t 3), none⟩,
⟨(some 19), .mov (.t 5), none⟩,
⟨none, .mapset (.tst [(1, .ti), (1, .ti), (1, .ti)]) (.t 17) (.t 18) (.t 19), none⟩] [5]))
 .skip))
 (.seq (.ops [
⟨(some 20), .mov (.t 5), none⟩,
⟨(some 4), .mov (.t 20), none⟩] [4])
 .ret)))), [.tmp 4]⟩
abbrev n_refine_start_of : Nat := 118
def c_refine_link_of : F := ⟨false, 2, (.seq (.ops [
⟨(some 3), .box (.t 1), none⟩,
⟨(some 4), .mov (.k (.int .i64 0)), none⟩] [0, 3])
 (.seq (.ops [
⟨(some 8), .mov (.t 0), none⟩,
⟨(some 9), .load true 4 (.t 3), none⟩,
⟨(some 10), .lookup true (.tst [(1, .ti), (2, (.tst [(1, .ti), (1, .ti)])), (1, .tb)]) (.int .i64 0) (.t 8) (.t 9), none⟩,
⟨(some 7), .mov (.t 10), none⟩,
⟨(some 11), .extract (.t 7) 0, none⟩,
⟨(some 12), .extract (.t 7) 1, none⟩,
⟨(some 5), .mov (.t 11), none⟩,
⟨(some 6), .mov (.t 12), none⟩] [0, 3, 5, 6])
 (.seq (.seq (.ops [
⟨(some 13), .mov (.t 6), none⟩,
⟨(some 14), .un .not (.t 13), none⟩] [0, 3, 5, 14])
 (.cond (.t 14) (.seq (.ops [
⟨(some 15), .mov (.t 0), none⟩,
⟨(some 16), .len 2 (.t 15), none⟩,
⟨(some 5), .mov (.t 16), none⟩] [0, 3, 5])
 (.ops [
⟨(some 17), .mov (.t 0), none⟩,
⟨(some 18), .load true 4 (.t 3), none⟩,
⟨(some 19), .mov (.t 5), none⟩,
⟨none, .mapset (.tst [(1, .ti), (2, (.tst [(1, .ti), (1, .ti)])), (1, .tb)]) (.t 17) (.t 18) (.t 19), none⟩] [5]))
 .skip))
 (.seq (.ops [
⟨(some 20), .mov (.t 5), none⟩,
⟨(some 4), .mov (.t 20), none⟩] [4])
 .ret)))), [.tmp 4]⟩
abbrev n_refine_link_of : Nat := 119
def c_refine_numbers_2_int_of : F := ⟨false, 2, (.seq (.ops [
⟨(some 3), .box (.t 1), none⟩,
⟨(some 4), .mov (.k (.int .i64 0)), none⟩] [0, 3])
 (.seq (.ops [
⟨(some 8), .mov (.t 0), none⟩,
⟨(some 9), .load true 2 (.t 3), none⟩,
⟨(some 10), .lookup true (.tarr 2 1 .ti) (.int .i64 0) (.t 8) (.t 9), none⟩,
⟨(some 7), .mov (.t 10), none⟩,
⟨(some 11), .extract (.t 7) 0, none⟩,
⟨(some 12), .extract (.t 7) 1, none⟩,
⟨(some 5), .mov (.t 11), none⟩,
⟨(some 6), .mov (.t 12), none⟩] [0, 3, 5, 6])
 (.seq (.seq (.ops [
⟨(some 13), .mov (.t 6), none⟩,
⟨(some 14), .un .not (.t 13), none⟩] [0, 3, 5, 14])
 (.cond (.t 14) (.seq (.ops [
⟨(some 15), .mov (.t 0), none⟩,
⟨(some 16), .len 2 (.t 15), none⟩,
⟨(some 5), .mov (.t 16), none⟩] [0, 3, 5])
 (.ops [
⟨(some 17), .mov (.t 0), none⟩,
⟨(some 18), .load true 2 (.t 3), none⟩,
⟨(some 19), .mov (.t 5), none⟩,
⟨none, .mapset (.tarr 2 1 .ti) (.t 17) (.t 18) (.t 19), none⟩] [5]))
 .skip))
 (.seq (.ops [
⟨(some 20), .mov (.t 5), none⟩,
⟨(some 4), .mov (.t 20), none⟩] [4])
 .ret)))), [.tmp 4]⟩
abbrev n_refine_numbers_2_int_of : Nat := 120
def c_env_Good_L0 : C := (.seq (.ops [
⟨(some 7), .bin .lss (.t 6) (.k (.int .i64 24)), none⟩] [5, 6, 7])
 (.seq (.cond (.t 7) .skip
 (.exit 0))
 (.seq (.block 1 (.seq (.ops [
⟨(some 8), .idxA false 24 1 (.t 5) (.t 6), none⟩,
⟨(some 4), .mov (.t 8), none⟩] [4, 5, 6])
 (.seq (.ops [
⟨(some 9), .mov (.t 4), none⟩,
⟨(some 10), .call 122 [(.t 9)], none⟩,
⟨(some 11), .un .not (.t 10), none⟩] [5, 6, 11])
 (.cond (.t 11) (.seq (.ops [
⟨(some 2), .mov (.k (.bool false)), none⟩] [2])
 .ret)
 .skip))))
 (.ops [
⟨(some 12), .bin .add (.t 6) (.k (.int .i64 1)), none⟩,
⟨(some 6), .mov (.t 12), none⟩] [5, 6]))))
def c_env_Good : F := ⟨true, 1, (.seq (.ops [
⟨(some 1), .box (.t 0), none⟩,
⟨(some 2), .mov (.k (.bool false)), none⟩] [1])
 (.seq (.seq (.ops [
⟨(some 5), .load true 24 (.t 1), none⟩,
⟨(some 6), .mov (.k (.int .i64 0)), none⟩] [5, 6])
 (.block 0 (.loop c_env_Good_L0)))
 (.seq (.ops [
⟨(some 2), .mov (.k (.bool true)), none⟩] [2])
 .ret))), [.tmp 2]⟩
abbrev n_env_Good : Nat := 121
def c_env_may : F := ⟨true, 1, (.seq (.ops [
⟨(some 2), .mov (.k (.bool false)), none⟩] [0])
 (.seq (.seq (.ops [
⟨(some 8), .mov (.t 0), none⟩,
⟨(some 9), .assert 204 true (.agg [(.int .i64 0)]) (.t 8), none⟩,
⟨(some 7), .mov (.t 9), none⟩,
⟨(some 10), .extract (.t 7) 0, none⟩,
⟨(some 11), .extract (.t 7) 1, none⟩,
⟨(some 3), .alloc [(.int .i64 0)], none⟩,
⟨none, .store 1 (.t 3) (.t 10), none⟩,
⟨(some 4), .mov (.t 11), none⟩] [0, 3, 4])
 (.seq (.ops [
⟨(some 12), .mov (.t 4), none⟩] [0, 3, 12])
 (.cond (.t 12) (.seq (.ops [
⟨(some 13), .faddr 0 (.t 3), none⟩,
⟨(some 14), .load false 1 (.t 13), none⟩,
⟨(some 15), .call 103 [(.t 14)], none⟩,
⟨(some 2), .mov (.t 15), none⟩] [2])
 .ret)
 .skip)))
 (.seq (.ops [
⟨(some 17), .mov (.t 0), none⟩,
⟨(some 18), .assert 201 true (.agg [(.int .i64 0)]) (.t 17), none⟩,
⟨(some 16), .mov (.t 18), none⟩,
⟨(some 19), .extract (.t 16) 0, none⟩,
⟨(some 20), .extract (.t 16) 1, none⟩,
⟨(some 5), .alloc [(.int .i64 0)], none⟩,
⟨none, .store 1 (.t 5) (.t 19), none⟩,
⟨(some 6), .mov (.t 20), none⟩] [6])
 (.seq (.ops [
⟨(some 21), .mov (.t 6), none⟩,
⟨(some 2), .mov (.t 21), none⟩] [2])
 .ret)))), [.tmp 2]⟩
abbrev n_env_may : Nat := 122
def T : Nat → Option F
  | 3 => some c_joinerylaw15_EngineRuns
  | 5 => some c_joinerylaw15_great
  | 6 => some c_joinerylaw15_knows
  | 7 => some c_engine_Run
  | 8 => some c_joineryref15_Fair
  | 9 => some c_joineryref08_Same
  | 10 => some c_joineryref15_Run
  | 13 => some c_norm_Of
  | 14 => some c_joineryref07_SameEvents
  | 15 => some c_joineryref07_SameOutcome
  | 16 => some c_joinerylaw14_Great
  | 17 => some c_asm_Parse
  | 18 => some c_shape_Right
  | 19 => some c_run_Right
  | 20 => some c_shape_Ways
  | 21 => some c_engine_machine_goes
  | 22 => some c_engine_machine_node
  | 23 => some c_joineryref14_Right
  | 24 => some c_joineryref08_Right
  | 25 => some c_joineryref15_New
  | 26 => some c_joineryref15_Step
  | 28 => some c_asm_Right
  | 30 => some c_ins_Moves
  | 32 => some c_value_Cut
  | 33 => some c_skel_Build
  | 34 => some c_value_Facts
  | 35 => some c_value_All
  | 36 => some c_skel_Ways
  | 37 => some c_norm_maker_sort
  | 38 => some c_norm_Of_1
  | 39 => some c_norm_thing
  | 40 => some c_ins_Uses
  | 41 => some c_norm_maker_from
  | 42 => some c_joineryref06_Same
  | 43 => some c_asm_Parse_1
  | 44 => some c_ins_Parse
  | 45 => some c_asm_Check
  | 46 => some c_shape_node
  | 47 => some c_shape_comes
  | 48 => some c_heap_Right
  | 49 => some c_engine_machine_word
  | 50 => some c_engine_machine_node_1
  | 51 => some c_engine_is
  | 52 => some c_heap_Load
  | 53 => some c_heap_Store
  | 54 => some c_engine_machine_call
  | 55 => some c_num_Do
  | 56 => some c_joineryref14_Word
  | 57 => some c_joineryref14_args
  | 58 => some c_joineryref14_outs
  | 59 => some c_joineryref14_val
  | 60 => some c_joineryref14_Ways
  | 61 => some c_joineryref14_may
  | 62 => some c_joineryref15_by
  | 63 => some c_joineryref15_word
  | 64 => some c_joineryref06_Load
  | 65 => some c_joineryref06_Store
  | 66 => some c_joineryref01_Do
  | 71 => some c_skel_Build_1
  | 72 => some c_path_From
  | 73 => some c_skel_nexts
  | 74 => some c_value_built
  | 75 => some c_value_Facts_1
  | 76 => some c_value_by
  | 77 => some c_skel_Ways_1
  | 78 => some c_refine_Classes
  | 79 => some c_ins_of
  | 80 => some c_ins_field
  | 81 => some c_ins_words
  | 82 => some c_ins_fill
  | 83 => some c_ins_Check
  | 84 => some c_shape_of
  | 85 => some c_shape_value
  | 86 => some c_heap_in
  | 87 => some c_num_deeds
  | 93 => some c_env_New
  | 94 => some c_path_From_1
  | 95 => some c_env_After
  | 96 => some c_value_out
  | 97 => some c_loc_Reg
  | 98 => some c_ins_Sets
  | 99 => some c_refine_round
  | 100 => some c_num_Parse
  | 101 => some c_loc_Parse
  | 102 => some c_ins_rest
  | 103 => some c_loc_Right
  | 104 => some c_num_deeds_1
  | 105 => some c_num_deeds_2
  | 106 => some c_num_deeds_3
  | 107 => some c_num_deeds_4
  | 108 => some c_num_deeds_5
  | 109 => some c_num_deeds_6
  | 110 => some c_num_deeds_7
  | 111 => some c_num_deeds_8
  | 112 => some c_num_flag
  | 113 => some c_num_deeds_9
  | 117 => some c_env_good
  | 118 => some c_refine_start_of
  | 119 => some c_refine_link_of
  | 120 => some c_refine_numbers_2_int_of
  | 121 => some c_env_Good
  | 122 => some c_env_may
  | _ => none
end Go.Proofs.YtfmhnfimkpffnaaGreatDoor.M2
