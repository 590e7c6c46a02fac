/- The six rows, each from its law in M2. -/
import Derived.Test.YtaefnggoempdlaaCa
import Derived.Test.YtaefnggoempdlaaRows
import Derived.Test.YtaefnggoempdlaaCc
set_option linter.unusedSimpArgs false
set_option linter.unusedVariables false
set_option linter.unusedSectionVars false
/- M2's code of the functions. Printed by wip/gen. -/
namespace Go.Proofs.Ytaefnggoempdlaa.M2

def c_joinerylaw12_RefineClasses_D0 : List O := [
  ⟨(some 25), .mov (.t 3), none⟩,
  ⟨(some 26), .mov (.t 5), none⟩,
  ⟨(some 27), .iaddr 1 (.t 25) (.t 26), none⟩,
  ⟨(some 28), .load false 1 (.t 27), none⟩,
  ⟨(some 29), .mov (.t 4), none⟩,
  ⟨(some 30), .mov (.t 5), none⟩,
  ⟨(some 31), .iaddr 1 (.t 29) (.t 30), none⟩,
  ⟨(some 32), .load false 1 (.t 31), none⟩,
  ⟨(some 33), .bin .neq (.t 28) (.t 32), none⟩]
def c_joinerylaw12_RefineClasses_L1 : C := (.seq (.seq (.ops [
  ⟨(some 19), .mov (.t 5), none⟩,
  ⟨(some 20), .mov (.t 3), none⟩,
  ⟨(some 21), .len 0 (.t 20), none⟩,
  ⟨(some 22), .bin .lss (.t 19) (.t 21), none⟩] [3, 4, 5, 22])
 (.cond (.t 22) .skip
 (.exit 0)))
 (.seq (.block 1 (.seq (.opsD c_joinerylaw12_RefineClasses_D0 [0, 0, 3, 7, 0, 0, 48, 112, 255] [3, 4, 5, 33])
 (.cond (.t 33) (.seq (.ops [
  ⟨(some 2), .mov (.k (.bool false)), none⟩] [2])
 .ret)
 .skip)))
 (.ops [
  ⟨(some 23), .mov (.t 5), none⟩,
  ⟨(some 24), .bin .add (.t 23) (.k (.int .i64 1)), none⟩,
  ⟨(some 5), .mov (.t 24), none⟩] [3, 4, 5])))
/-- joinery/joinerylaw12.RefineClasses -/
def c_joinerylaw12_RefineClasses : F := ⟨true, 1, (.seq (.ops [
  ⟨(some 2), .mov (.k (.bool false)), none⟩] [0])
 (.seq (.seq (.ops [
  ⟨(some 6), .mov (.t 0), none⟩,
  ⟨(some 7), .call 9 [(.t 6)], none⟩] [0, 7])
 (.cond (.t 7) (.seq (.ops [
  ⟨(some 8), .call 10 [], none⟩,
  ⟨(some 2), .mov (.t 8), none⟩] [2])
 .ret)
 .skip))
 (.seq (.ops [
  ⟨(some 9), .mov (.t 0), none⟩,
  ⟨(some 10), .call 11 [(.t 9)], none⟩,
  ⟨(some 11), .mov (.t 0), none⟩,
  ⟨(some 12), .call 13 [(.t 11)], none⟩,
  ⟨(some 13), .call 12 [(.t 12)], none⟩,
  ⟨(some 3), .mov (.t 10), none⟩,
  ⟨(some 4), .mov (.t 13), none⟩] [3, 4])
 (.seq (.seq (.ops [
  ⟨(some 14), .mov (.t 3), none⟩,
  ⟨(some 15), .len 0 (.t 14), none⟩,
  ⟨(some 16), .mov (.t 4), none⟩,
  ⟨(some 17), .len 0 (.t 16), none⟩,
  ⟨(some 18), .bin .neq (.t 15) (.t 17), none⟩] [3, 4, 18])
 (.cond (.t 18) (.seq (.ops [
  ⟨(some 2), .mov (.k (.bool false)), none⟩] [2])
 .ret)
 .skip))
 (.seq (.seq (.ops [
  ⟨(some 5), .mov (.k (.int .i64 0)), none⟩] [3, 4, 5])
 (.block 0 (.loop c_joinerylaw12_RefineClasses_L1)))
 (.seq (.ops [
  ⟨(some 34), .call 10 [], none⟩,
  ⟨(some 2), .mov (.t 34), none⟩] [2])
 .ret)))))), [.tmp 2]⟩
abbrev n_joinerylaw12_RefineClasses : Nat := 3
/-- joinery/joinerylaw12.RefineApart -/
def c_joinerylaw12_RefineApart : F := ⟨true, 3, (.seq (.ops [
  ⟨(some 6), .mov (.k (.bool false)), none⟩] [0, 1, 2])
 (.seq (.seq (.ops [
  ⟨(some 8), .mov (.t 0), none⟩,
  ⟨(some 9), .call 9 [(.t 8)], none⟩] [0, 1, 2, 9])
 (.cond (.t 9) (.seq (.ops [
  ⟨(some 10), .call 10 [], none⟩,
  ⟨(some 6), .mov (.t 10), none⟩] [6])
 .ret)
 .skip))
 (.seq (.ops [
  ⟨(some 11), .mov (.t 0), none⟩,
  ⟨(some 12), .mov (.t 1), none⟩,
  ⟨(some 13), .mov (.t 2), none⟩,
  ⟨(some 14), .call 14 [(.t 11), (.t 12), (.t 13)], none⟩,
  ⟨(some 7), .mov (.t 14), none⟩] [0, 1, 2, 7])
 (.seq (.seq (.ops [
  ⟨(some 15), .mov (.t 1), none⟩,
  ⟨(some 16), .bin .lss (.t 15) (.k (.int .i64 0)), none⟩,
  ⟨(some 17), .mov (.t 16), none⟩,
  ⟨(some 18), .mov (.t 2), (some (17, false))⟩,
  ⟨(some 19), .bin .lss (.t 18) (.k (.int .i64 0)), (some (17, false))⟩,
  ⟨(some 20), .pick (.t 17) (.k (.bool true)) (.t 19), none⟩,
  ⟨(some 21), .mov (.t 20), none⟩,
  ⟨(some 22), .mov (.t 1), (some (21, false))⟩,
  ⟨(some 23), .mov (.t 0), (some (21, false))⟩,
  ⟨(some 24), .len 0 (.t 23), (some (21, false))⟩,
  ⟨(some 25), .bin .geq (.t 22) (.t 24), (some (21, false))⟩,
  ⟨(some 26), .pick (.t 21) (.k (.bool true)) (.t 25), none⟩,
  ⟨(some 27), .mov (.t 26), none⟩,
  ⟨(some 28), .mov (.t 2), (some (27, false))⟩,
  ⟨(some 29), .mov (.t 0), (some (27, false))⟩,
  ⟨(some 30), .len 0 (.t 29), (some (27, false))⟩,
  ⟨(some 31), .bin .geq (.t 28) (.t 30), (some (27, false))⟩,
  ⟨(some 32), .pick (.t 27) (.k (.bool true)) (.t 31), none⟩] [0, 1, 2, 7, 32])
 (.cond (.t 32) (.seq (.ops [
  ⟨(some 33), .mov (.t 7), none⟩,
  ⟨(some 34), .mov (.t 1), none⟩,
  ⟨(some 35), .mov (.t 2), none⟩,
  ⟨(some 36), .bin .neq (.t 34) (.t 35), none⟩,
  ⟨(some 37), .eq false .tb (.t 33) (.t 36), none⟩,
  ⟨(some 38), .mov (.t 37), none⟩,
  ⟨(some 39), .call 10 [], (some (38, true))⟩,
  ⟨(some 40), .pick (.t 38) (.t 39) (.k (.bool false)), none⟩,
  ⟨(some 6), .mov (.t 40), none⟩] [6])
 .ret)
 .skip))
 (.seq (.ops [
  ⟨(some 41), .mov (.t 7), none⟩,
  ⟨(some 42), .mov (.t 0), none⟩,
  ⟨(some 43), .call 13 [(.t 42)], none⟩,
  ⟨(some 44), .call 15 [(.t 43)], none⟩,
  ⟨(some 45), .mov (.t 1), none⟩,
  ⟨(some 46), .iaddr 1 (.t 44) (.t 45), none⟩,
  ⟨(some 47), .load false 1 (.t 46), none⟩,
  ⟨(some 48), .mov (.t 2), none⟩,
  ⟨(some 49), .iaddr 1 (.t 47) (.t 48), none⟩,
  ⟨(some 50), .load false 1 (.t 49), none⟩,
  ⟨(some 51), .eq false .tb (.t 41) (.t 50), none⟩,
  ⟨(some 52), .mov (.t 51), none⟩,
  ⟨(some 53), .call 10 [], (some (52, true))⟩,
  ⟨(some 54), .pick (.t 52) (.t 53) (.k (.bool false)), none⟩,
  ⟨(some 6), .mov (.t 54), none⟩] [6])
 .ret))))), [.tmp 6]⟩
abbrev n_joinerylaw12_RefineApart : Nat := 4
def c_joinerylaw12_RefineFewest_D0 : List O := [
  ⟨(some 47), .mov (.t 1), none⟩,
  ⟨(some 48), .mov (.t 6), none⟩,
  ⟨(some 49), .iaddr 1 (.t 47) (.t 48), none⟩,
  ⟨(some 50), .load false 1 (.t 49), none⟩,
  ⟨(some 51), .mov (.t 1), none⟩,
  ⟨(some 52), .mov (.t 7), none⟩,
  ⟨(some 53), .iaddr 1 (.t 51) (.t 52), none⟩,
  ⟨(some 54), .load false 1 (.t 53), none⟩,
  ⟨(some 55), .bin .eql (.t 50) (.t 54), none⟩,
  ⟨(some 56), .mov (.t 55), none⟩,
  ⟨(some 57), .mov (.t 5), (some (56, true))⟩,
  ⟨(some 58), .mov (.t 6), (some (56, true))⟩,
  ⟨(some 59), .iaddr 1 (.t 57) (.t 58), (some (56, true))⟩,
  ⟨(some 60), .load false 1 (.t 59), (some (56, true))⟩,
  ⟨(some 61), .mov (.t 5), (some (56, true))⟩,
  ⟨(some 62), .mov (.t 7), (some (56, true))⟩,
  ⟨(some 63), .iaddr 1 (.t 61) (.t 62), (some (56, true))⟩,
  ⟨(some 64), .load false 1 (.t 63), (some (56, true))⟩,
  ⟨(some 65), .bin .neq (.t 60) (.t 64), (some (56, true))⟩,
  ⟨(some 66), .pick (.t 56) (.t 65) (.k (.bool false)), none⟩]
def c_joinerylaw12_RefineFewest_L1 : C := (.seq (.seq (.ops [
  ⟨(some 42), .mov (.t 7), none⟩,
  ⟨(some 43), .mov (.t 6), none⟩,
  ⟨(some 44), .bin .lss (.t 42) (.t 43), none⟩] [0, 1, 5, 6, 7, 44])
 (.cond (.t 44) .skip
 (.exit 2)))
 (.seq (.block 3 (.seq (.opsD c_joinerylaw12_RefineFewest_D0 [0, 0, 3, 7, 0, 0, 48, 112, 255, 511, 1023, 1023, 4095, 8191, 1023, 1023, 50175, 115711, 262143, 524287] [0, 1, 5, 6, 7, 66])
 (.cond (.t 66) (.seq (.ops [
  ⟨(some 4), .mov (.k (.bool false)), none⟩] [4])
 .ret)
 .skip)))
 (.ops [
  ⟨(some 45), .mov (.t 7), none⟩,
  ⟨(some 46), .bin .add (.t 45) (.k (.int .i64 1)), none⟩,
  ⟨(some 7), .mov (.t 46), none⟩] [0, 1, 5, 6, 7])))
def c_joinerylaw12_RefineFewest_L2 : C := (.seq (.seq (.ops [
  ⟨(some 36), .mov (.t 6), none⟩,
  ⟨(some 37), .mov (.t 0), none⟩,
  ⟨(some 38), .len 0 (.t 37), none⟩,
  ⟨(some 39), .bin .lss (.t 36) (.t 38), none⟩] [0, 1, 5, 6, 39])
 (.cond (.t 39) .skip
 (.exit 0)))
 (.seq (.block 1 (.seq (.ops [
  ⟨(some 7), .mov (.k (.int .i64 0)), none⟩] [0, 1, 5, 6, 7])
 (.block 2 (.loop c_joinerylaw12_RefineFewest_L1))))
 (.ops [
  ⟨(some 40), .mov (.t 6), none⟩,
  ⟨(some 41), .bin .add (.t 40) (.k (.int .i64 1)), none⟩,
  ⟨(some 6), .mov (.t 41), none⟩] [0, 1, 5, 6])))
/-- joinery/joinerylaw12.RefineFewest -/
def c_joinerylaw12_RefineFewest : F := ⟨true, 2, (.seq (.ops [
  ⟨(some 4), .mov (.k (.bool false)), none⟩] [0, 1])
 (.seq (.seq (.ops [
  ⟨(some 8), .mov (.t 0), none⟩,
  ⟨(some 9), .call 9 [(.t 8)], none⟩] [0, 1, 9])
 (.cond (.t 9) (.seq (.ops [
  ⟨(some 10), .call 10 [], none⟩,
  ⟨(some 4), .mov (.t 10), none⟩] [4])
 .ret)
 .skip))
 (.seq (.ops [
  ⟨(some 11), .mov (.t 0), none⟩,
  ⟨(some 12), .call 11 [(.t 11)], none⟩,
  ⟨(some 5), .mov (.t 12), none⟩] [0, 1, 5])
 (.seq (.seq (.ops [
  ⟨(some 13), .mov (.t 5), none⟩,
  ⟨(some 14), .len 0 (.t 13), none⟩,
  ⟨(some 15), .mov (.t 0), none⟩,
  ⟨(some 16), .len 0 (.t 15), none⟩,
  ⟨(some 17), .bin .neq (.t 14) (.t 16), none⟩,
  ⟨(some 18), .mov (.t 17), none⟩,
  ⟨(some 19), .mov (.t 0), (some (18, false))⟩,
  ⟨(some 20), .mov (.t 5), (some (18, false))⟩,
  ⟨(some 21), .call 16 [(.t 19), (.t 20)], (some (18, false))⟩,
  ⟨(some 22), .un .not (.t 21), (some (18, false))⟩,
  ⟨(some 23), .pick (.t 18) (.k (.bool true)) (.t 22), none⟩] [0, 1, 5, 23])
 (.cond (.t 23) (.seq (.ops [
  ⟨(some 4), .mov (.k (.bool false)), none⟩] [4])
 .ret)
 .skip))
 (.seq (.seq (.ops [
  ⟨(some 24), .mov (.t 1), none⟩,
  ⟨(some 25), .len 0 (.t 24), none⟩,
  ⟨(some 26), .mov (.t 0), none⟩,
  ⟨(some 27), .len 0 (.t 26), none⟩,
  ⟨(some 28), .bin .neq (.t 25) (.t 27), none⟩,
  ⟨(some 29), .mov (.t 28), none⟩,
  ⟨(some 30), .mov (.t 0), (some (29, false))⟩,
  ⟨(some 31), .mov (.t 1), (some (29, false))⟩,
  ⟨(some 32), .call 16 [(.t 30), (.t 31)], (some (29, false))⟩,
  ⟨(some 33), .un .not (.t 32), (some (29, false))⟩,
  ⟨(some 34), .pick (.t 29) (.k (.bool true)) (.t 33), none⟩] [0, 1, 5, 34])
 (.cond (.t 34) (.seq (.ops [
  ⟨(some 35), .call 10 [], none⟩,
  ⟨(some 4), .mov (.t 35), none⟩] [4])
 .ret)
 .skip))
 (.seq (.seq (.ops [
  ⟨(some 6), .mov (.k (.int .i64 0)), none⟩] [0, 1, 5, 6])
 (.block 0 (.loop c_joinerylaw12_RefineFewest_L2)))
 (.seq (.ops [
  ⟨(some 67), .call 10 [], none⟩,
  ⟨(some 4), .mov (.t 67), none⟩] [4])
 .ret))))))), [.tmp 4]⟩
abbrev n_joinerylaw12_RefineFewest : Nat := 5
/-- joinery/joinerylaw12.RefineOrders -/
def c_joinerylaw12_RefineOrders : F := ⟨true, 4, (.seq (.ops [
  ⟨(some 8), .mov (.k (.bool false)), none⟩] [0, 1, 2, 3])
 (.seq (.seq (.ops [
  ⟨(some 12), .mov (.t 0), none⟩,
  ⟨(some 13), .call 9 [(.t 12)], none⟩] [0, 1, 2, 3, 13])
 (.cond (.t 13) (.seq (.ops [
  ⟨(some 14), .call 10 [], none⟩,
  ⟨(some 8), .mov (.t 14), none⟩] [8])
 .ret)
 .skip))
 (.seq (.ops [
  ⟨(some 15), .mov (.t 0), none⟩,
  ⟨(some 16), .mov (.t 1), none⟩,
  ⟨(some 17), .mov (.t 2), none⟩,
  ⟨(some 18), .call 14 [(.t 15), (.t 16), (.t 17)], none⟩,
  ⟨(some 19), .mov (.t 0), none⟩,
  ⟨(some 20), .mov (.t 2), none⟩,
  ⟨(some 21), .mov (.t 3), none⟩,
  ⟨(some 22), .call 14 [(.t 19), (.t 20), (.t 21)], none⟩,
  ⟨(some 23), .mov (.t 0), none⟩,
  ⟨(some 24), .mov (.t 1), none⟩,
  ⟨(some 25), .mov (.t 3), none⟩,
  ⟨(some 26), .call 14 [(.t 23), (.t 24), (.t 25)], none⟩,
  ⟨(some 9), .mov (.t 18), none⟩,
  ⟨(some 10), .mov (.t 22), none⟩,
  ⟨(some 11), .mov (.t 26), none⟩] [0, 1, 2, 9, 10, 11])
 (.seq (.seq (.ops [
  ⟨(some 27), .mov (.t 0), none⟩,
  ⟨(some 28), .mov (.t 1), none⟩,
  ⟨(some 29), .mov (.t 1), none⟩,
  ⟨(some 30), .call 14 [(.t 27), (.t 28), (.t 29)], none⟩,
  ⟨(some 31), .mov (.t 30), none⟩,
  ⟨(some 32), .mov (.t 9), (some (31, false))⟩,
  ⟨(some 33), .mov (.t 0), (some (31, false))⟩,
  ⟨(some 34), .mov (.t 2), (some (31, false))⟩,
  ⟨(some 35), .mov (.t 1), (some (31, false))⟩,
  ⟨(some 36), .call 14 [(.t 33), (.t 34), (.t 35)], (some (31, false))⟩,
  ⟨(some 37), .eq true .tb (.t 32) (.t 36), (some (31, false))⟩,
  ⟨(some 38), .pick (.t 31) (.k (.bool true)) (.t 37), none⟩] [9, 10, 11, 38])
 (.cond (.t 38) (.seq (.ops [
  ⟨(some 8), .mov (.k (.bool false)), none⟩] [8])
 .ret)
 .skip))
 (.seq (.ops [
  ⟨(some 39), .mov (.t 9), none⟩,
  ⟨(some 40), .mov (.t 39), none⟩,
  ⟨(some 41), .mov (.t 10), (some (40, false))⟩,
  ⟨(some 42), .pick (.t 40) (.k (.bool true)) (.t 41), none⟩,
  ⟨(some 43), .mov (.t 42), none⟩,
  ⟨(some 44), .mov (.t 11), (some (43, false))⟩,
  ⟨(some 45), .un .not (.t 44), (some (43, false))⟩,
  ⟨(some 46), .pick (.t 43) (.k (.bool true)) (.t 45), none⟩,
  ⟨(some 47), .mov (.t 46), none⟩,
  ⟨(some 48), .call 10 [], (some (47, true))⟩,
  ⟨(some 49), .pick (.t 47) (.t 48) (.k (.bool false)), none⟩,
  ⟨(some 8), .mov (.t 49), none⟩] [8])
 .ret))))), [.tmp 8]⟩
abbrev n_joinerylaw12_RefineOrders : Nat := 6
def c_joinerylaw12_RefineLike_D0 : List O := [
  ⟨(some 9), .mov (.t 0), none⟩,
  ⟨(some 10), .call 9 [(.t 9)], none⟩,
  ⟨(some 11), .mov (.t 10), none⟩,
  ⟨(some 12), .mov (.t 1), (some (11, false))⟩,
  ⟨(some 13), .bin .lss (.t 12) (.k (.int .i64 0)), (some (11, false))⟩,
  ⟨(some 14), .pick (.t 11) (.k (.bool true)) (.t 13), none⟩,
  ⟨(some 15), .mov (.t 14), none⟩,
  ⟨(some 16), .mov (.t 2), (some (15, false))⟩,
  ⟨(some 17), .bin .lss (.t 16) (.k (.int .i64 0)), (some (15, false))⟩,
  ⟨(some 18), .pick (.t 15) (.k (.bool true)) (.t 17), none⟩,
  ⟨(some 19), .mov (.t 18), none⟩,
  ⟨(some 20), .mov (.t 1), (some (19, false))⟩,
  ⟨(some 21), .mov (.t 0), (some (19, false))⟩,
  ⟨(some 22), .len 0 (.t 21), (some (19, false))⟩,
  ⟨(some 23), .bin .geq (.t 20) (.t 22), (some (19, false))⟩,
  ⟨(some 24), .pick (.t 19) (.k (.bool true)) (.t 23), none⟩,
  ⟨(some 25), .mov (.t 24), none⟩,
  ⟨(some 26), .mov (.t 2), (some (25, false))⟩,
  ⟨(some 27), .mov (.t 0), (some (25, false))⟩,
  ⟨(some 28), .len 0 (.t 27), (some (25, false))⟩,
  ⟨(some 29), .bin .geq (.t 26) (.t 28), (some (25, false))⟩,
  ⟨(some 30), .pick (.t 25) (.k (.bool true)) (.t 29), none⟩,
  ⟨(some 31), .mov (.t 30), none⟩,
  ⟨(some 32), .mov (.t 0), (some (31, false))⟩,
  ⟨(some 33), .mov (.t 1), (some (31, false))⟩,
  ⟨(some 34), .iaddr 2 (.t 32) (.t 33), (some (31, false))⟩,
  ⟨(some 35), .faddr 0 (.t 34), (some (31, false))⟩,
  ⟨(some 36), .load false 1 (.t 35), (some (31, false))⟩,
  ⟨(some 37), .mov (.t 0), (some (31, false))⟩,
  ⟨(some 38), .mov (.t 2), (some (31, false))⟩,
  ⟨(some 39), .iaddr 2 (.t 37) (.t 38), (some (31, false))⟩,
  ⟨(some 40), .faddr 0 (.t 39), (some (31, false))⟩,
  ⟨(some 41), .load false 1 (.t 40), (some (31, false))⟩,
  ⟨(some 42), .bin .neq (.t 36) (.t 41), (some (31, false))⟩,
  ⟨(some 43), .pick (.t 31) (.k (.bool true)) (.t 42), none⟩,
  ⟨(some 44), .mov (.t 43), none⟩,
  ⟨(some 45), .mov (.t 0), (some (44, false))⟩,
  ⟨(some 46), .mov (.t 1), (some (44, false))⟩,
  ⟨(some 47), .iaddr 2 (.t 45) (.t 46), (some (44, false))⟩,
  ⟨(some 48), .faddr 1 (.t 47), (some (44, false))⟩,
  ⟨(some 49), .load false 1 (.t 48), (some (44, false))⟩,
  ⟨(some 50), .len 0 (.t 49), (some (44, false))⟩,
  ⟨(some 51), .mov (.t 0), (some (44, false))⟩,
  ⟨(some 52), .mov (.t 2), (some (44, false))⟩,
  ⟨(some 53), .iaddr 2 (.t 51) (.t 52), (some (44, false))⟩,
  ⟨(some 54), .faddr 1 (.t 53), (some (44, false))⟩,
  ⟨(some 55), .load false 1 (.t 54), (some (44, false))⟩,
  ⟨(some 56), .len 0 (.t 55), (some (44, false))⟩,
  ⟨(some 57), .bin .neq (.t 50) (.t 56), (some (44, false))⟩,
  ⟨(some 58), .pick (.t 44) (.k (.bool true)) (.t 57), none⟩]
def c_joinerylaw12_RefineLike_D1 : List O := [
  ⟨(some 70), .mov (.t 0), none⟩,
  ⟨(some 71), .mov (.t 1), none⟩,
  ⟨(some 72), .iaddr 2 (.t 70) (.t 71), none⟩,
  ⟨(some 73), .faddr 1 (.t 72), none⟩,
  ⟨(some 74), .load false 1 (.t 73), none⟩,
  ⟨(some 75), .mov (.t 7), none⟩,
  ⟨(some 76), .iaddr 2 (.t 74) (.t 75), none⟩,
  ⟨(some 77), .load true 2 (.t 76), none⟩,
  ⟨(some 78), .mov (.t 0), none⟩,
  ⟨(some 79), .mov (.t 2), none⟩,
  ⟨(some 80), .iaddr 2 (.t 78) (.t 79), none⟩,
  ⟨(some 81), .faddr 1 (.t 80), none⟩,
  ⟨(some 82), .load false 1 (.t 81), none⟩,
  ⟨(some 83), .mov (.t 7), none⟩,
  ⟨(some 84), .iaddr 2 (.t 82) (.t 83), none⟩,
  ⟨(some 85), .load true 2 (.t 84), none⟩,
  ⟨(some 86), .eq true (.tst [(1, .ti), (1, .ti)]) (.t 77) (.t 85), none⟩]
def c_joinerylaw12_RefineLike_L2 : C := (.seq (.seq (.ops [
  ⟨(some 60), .mov (.t 7), none⟩,
  ⟨(some 61), .mov (.t 0), none⟩,
  ⟨(some 62), .mov (.t 1), none⟩,
  ⟨(some 63), .iaddr 2 (.t 61) (.t 62), none⟩,
  ⟨(some 64), .faddr 1 (.t 63), none⟩,
  ⟨(some 65), .load false 1 (.t 64), none⟩,
  ⟨(some 66), .len 0 (.t 65), none⟩,
  ⟨(some 67), .bin .lss (.t 60) (.t 66), none⟩] [0, 1, 2, 7, 67])
 (.cond (.t 67) .skip
 (.exit 0)))
 (.seq (.block 1 (.seq (.opsD c_joinerylaw12_RefineLike_D1 [0, 0, 3, 7, 15, 0, 63, 127, 0, 0, 768, 1792, 3840, 0, 16128, 32512, 65535] [0, 1, 2, 7, 86])
 (.cond (.t 86) (.seq (.ops [
  ⟨(some 87), .call 10 [], none⟩,
  ⟨(some 6), .mov (.t 87), none⟩] [6])
 .ret)
 .skip)))
 (.ops [
  ⟨(some 68), .mov (.t 7), none⟩,
  ⟨(some 69), .bin .add (.t 68) (.k (.int .i64 1)), none⟩,
  ⟨(some 7), .mov (.t 69), none⟩] [0, 1, 2, 7])))
def c_joinerylaw12_RefineLike_D3 : List O := [
  ⟨(some 90), .mov (.t 8), none⟩,
  ⟨(some 91), .len 0 (.t 90), none⟩,
  ⟨(some 92), .mov (.t 0), none⟩,
  ⟨(some 93), .len 0 (.t 92), none⟩,
  ⟨(some 94), .bin .eql (.t 91) (.t 93), none⟩,
  ⟨(some 95), .mov (.t 94), none⟩,
  ⟨(some 96), .mov (.t 8), (some (95, true))⟩,
  ⟨(some 97), .mov (.t 1), (some (95, true))⟩,
  ⟨(some 98), .iaddr 1 (.t 96) (.t 97), (some (95, true))⟩,
  ⟨(some 99), .load false 1 (.t 98), (some (95, true))⟩,
  ⟨(some 100), .mov (.t 8), (some (95, true))⟩,
  ⟨(some 101), .mov (.t 2), (some (95, true))⟩,
  ⟨(some 102), .iaddr 1 (.t 100) (.t 101), (some (95, true))⟩,
  ⟨(some 103), .load false 1 (.t 102), (some (95, true))⟩,
  ⟨(some 104), .bin .eql (.t 99) (.t 103), (some (95, true))⟩,
  ⟨(some 105), .pick (.t 95) (.t 104) (.k (.bool false)), none⟩,
  ⟨(some 106), .mov (.t 105), none⟩,
  ⟨(some 107), .call 10 [], (some (106, true))⟩,
  ⟨(some 108), .pick (.t 106) (.t 107) (.k (.bool false)), none⟩,
  ⟨(some 6), .mov (.t 108), none⟩]
/-- joinery/joinerylaw12.RefineLike -/
def c_joinerylaw12_RefineLike : F := ⟨true, 3, (.seq (.ops [
  ⟨(some 6), .mov (.k (.bool false)), none⟩] [0, 1, 2])
 (.seq (.seq (.opsD c_joinerylaw12_RefineLike_D0 [0, 1, 3, 7, 15, 31, 63, 127, 255, 511, 1023, 2047, 2047, 6143, 16383, 32767, 65535, 131071, 131071, 393215, 1048575, 2097151, 4194303, 8388607, 8388607, 33554431, 67108863, 134217727, 8388607, 8388607, 813694975, 1887436799, 4034920447, 8589934591, 17179869183, 34359738367, 68719476735, 68719476735, 274877906943, 549755813887, 1099511627775, 2199023255551, 68719476735, 68719476735, 13262859010047, 30855045054463, 66039417143295, 136408161320959, 281474976710655, 562949953421311] [0, 1, 2, 58])
 (.cond (.t 58) (.seq (.ops [
  ⟨(some 59), .call 10 [], none⟩,
  ⟨(some 6), .mov (.t 59), none⟩] [6])
 .ret)
 .skip))
 (.seq (.seq (.ops [
  ⟨(some 7), .mov (.k (.int .i64 0)), none⟩] [0, 1, 2, 7])
 (.block 0 (.loop c_joinerylaw12_RefineLike_L2)))
 (.seq (.ops [
  ⟨(some 88), .mov (.t 0), none⟩,
  ⟨(some 89), .call 11 [(.t 88)], none⟩,
  ⟨(some 8), .mov (.t 89), none⟩] [0, 1, 2, 8])
 (.seq (.opsD c_joinerylaw12_RefineLike_D3 [0, 1, 0, 4, 15, 31, 63, 63, 255, 511, 63, 63, 3135, 7231, 16383, 32767, 65535, 131071, 262143, 524287] [6])
 .ret))))), [.tmp 6]⟩
abbrev n_joinerylaw12_RefineLike : Nat := 7
def c_joinerylaw12_RefineTwice_L0 : C := (.seq (.seq (.ops [
  ⟨(some 39), .mov (.t 8), none⟩,
  ⟨(some 40), .mov (.t 0), none⟩,
  ⟨(some 41), .mov (.t 6), none⟩,
  ⟨(some 42), .iaddr 2 (.t 40) (.t 41), none⟩,
  ⟨(some 43), .faddr 1 (.t 42), none⟩,
  ⟨(some 44), .load false 1 (.t 43), none⟩,
  ⟨(some 45), .len 0 (.t 44), none⟩,
  ⟨(some 46), .bin .lss (.t 39) (.t 45), none⟩] [0, 3, 4, 5, 6, 7, 8, 46])
 (.cond (.t 46) .skip
 (.exit 4)))
 (.seq (.block 5 (.seq (.ops [
  ⟨(some 49), .mov (.t 0), none⟩,
  ⟨(some 50), .mov (.t 6), none⟩,
  ⟨(some 51), .iaddr 2 (.t 49) (.t 50), none⟩,
  ⟨(some 52), .faddr 1 (.t 51), none⟩,
  ⟨(some 53), .load false 1 (.t 52), none⟩,
  ⟨(some 54), .mov (.t 8), none⟩,
  ⟨(some 55), .iaddr 2 (.t 53) (.t 54), none⟩,
  ⟨(some 56), .load true 2 (.t 55), none⟩,
  ⟨(some 9), .alloc [(.int .i64 0), (.int .i64 0)], none⟩,
  ⟨none, .store 2 (.t 9) (.t 56), none⟩] [0, 3, 4, 5, 6, 7, 8, 9])
 (.seq (.seq (.ops [
  ⟨(some 57), .faddr 0 (.t 9), none⟩,
  ⟨(some 58), .load false 1 (.t 57), none⟩,
  ⟨(some 59), .bin .eql (.t 58) (.k (.int .i64 0)), none⟩,
  ⟨(some 60), .mov (.t 59), none⟩,
  ⟨(some 61), .faddr 1 (.t 9), (some (60, true))⟩,
  ⟨(some 62), .load false 1 (.t 61), (some (60, true))⟩,
  ⟨(some 63), .bin .lss (.t 62) (.k (.int .i64 0)), (some (60, true))⟩,
  ⟨(some 64), .mov (.t 63), (some (60, true))⟩,
  ⟨(some 65), .faddr 1 (.t 9), (some (64, false))⟩,
  ⟨(some 66), .load false 1 (.t 65), (some (64, false))⟩,
  ⟨(some 67), .mov (.t 3), (some (64, false))⟩,
  ⟨(some 68), .bin .geq (.t 66) (.t 67), (some (64, false))⟩,
  ⟨(some 69), .pick (.t 64) (.k (.bool true)) (.t 68), (some (60, true))⟩,
  ⟨(some 70), .pick (.t 60) (.t 69) (.k (.bool false)), none⟩] [0, 3, 4, 5, 6, 7, 8, 9, 70])
 (.cond (.t 70) (.seq (.ops [
  ⟨(some 71), .call 10 [], none⟩,
  ⟨(some 2), .mov (.t 71), none⟩] [2])
 .ret)
 .skip))
 (.seq (.seq (.ops [
  ⟨(some 72), .faddr 0 (.t 9), none⟩,
  ⟨(some 73), .load false 1 (.t 72), none⟩,
  ⟨(some 74), .bin .eql (.t 73) (.k (.int .i64 0)), none⟩] [0, 3, 4, 5, 6, 7, 8, 9, 74])
 (.cond (.t 74) (.ops [
  ⟨(some 75), .faddr 1 (.t 9), none⟩,
  ⟨(some 76), .load false 1 (.t 75), none⟩,
  ⟨(some 77), .mov (.t 5), none⟩,
  ⟨(some 78), .mov (.t 3), none⟩,
  ⟨(some 79), .bin .mul (.t 77) (.t 78), none⟩,
  ⟨(some 80), .bin .add (.t 76) (.t 79), none⟩,
  ⟨(some 81), .faddr 1 (.t 9), none⟩,
  ⟨none, .store 1 (.t 81) (.t 80), none⟩] [0, 3, 4, 5, 6, 7, 8, 9])
 .skip))
 (.ops [
  ⟨(some 82), .faddr 1 (.t 7), none⟩,
  ⟨(some 83), .load false 1 (.t 82), none⟩,
  ⟨(some 84), .load true 2 (.t 9), none⟩,
  ⟨(some 85), .lit 40 2 false [(.int .i64 0), (.int .i64 0)] 1 [(0, (.t 84))], none⟩,
  ⟨(some 86), .append 40 2 16 false (.t 83) (.t 85), none⟩,
  ⟨(some 87), .faddr 1 (.t 7), none⟩,
  ⟨none, .store 1 (.t 87) (.t 86), none⟩] [0, 3, 4, 5, 6, 7, 8])))))
 (.ops [
  ⟨(some 47), .mov (.t 8), none⟩,
  ⟨(some 48), .bin .add (.t 47) (.k (.int .i64 1)), none⟩,
  ⟨(some 8), .mov (.t 48), none⟩] [0, 3, 4, 5, 6, 7, 8])))
def c_joinerylaw12_RefineTwice_L1 : C := (.seq (.seq (.ops [
  ⟨(some 27), .mov (.t 6), none⟩,
  ⟨(some 28), .mov (.t 0), none⟩,
  ⟨(some 29), .len 0 (.t 28), none⟩,
  ⟨(some 30), .bin .lss (.t 27) (.t 29), none⟩] [0, 3, 4, 5, 6, 30])
 (.cond (.t 30) .skip
 (.exit 2)))
 (.seq (.block 3 (.seq (.ops [
  ⟨(some 33), .mov (.t 0), none⟩,
  ⟨(some 34), .mov (.t 6), none⟩,
  ⟨(some 35), .iaddr 2 (.t 33) (.t 34), none⟩,
  ⟨(some 36), .faddr 0 (.t 35), none⟩,
  ⟨(some 37), .load false 1 (.t 36), none⟩,
  ⟨(some 38), .build [(.int .i64 0), .nils] [(0, 1, (.t 37))], none⟩,
  ⟨(some 7), .alloc [(.int .i64 0), .nils], none⟩,
  ⟨none, .store 2 (.t 7) (.t 38), none⟩] [0, 3, 4, 5, 6, 7])
 (.seq (.seq (.ops [
  ⟨(some 8), .mov (.k (.int .i64 0)), none⟩] [0, 3, 4, 5, 6, 7, 8])
 (.block 4 (.loop c_joinerylaw12_RefineTwice_L0)))
 (.ops [
  ⟨(some 88), .mov (.t 4), none⟩,
  ⟨(some 89), .load true 2 (.t 7), none⟩,
  ⟨(some 90), .lit 38 2 false [(.int .i64 0), .nils] 1 [(0, (.t 89))], none⟩,
  ⟨(some 91), .append 38 2 32 false (.t 88) (.t 90), none⟩,
  ⟨(some 4), .mov (.t 91), none⟩] [0, 3, 4, 5, 6]))))
 (.ops [
  ⟨(some 31), .mov (.t 6), none⟩,
  ⟨(some 32), .bin .add (.t 31) (.k (.int .i64 1)), none⟩,
  ⟨(some 6), .mov (.t 32), none⟩] [0, 3, 4, 5, 6])))
def c_joinerylaw12_RefineTwice_L2 : C := (.seq (.seq (.ops [
  ⟨(some 23), .mov (.t 5), none⟩,
  ⟨(some 24), .bin .lss (.t 23) (.k (.int .i64 2)), none⟩] [0, 3, 4, 5, 24])
 (.cond (.t 24) .skip
 (.exit 0)))
 (.seq (.block 1 (.seq (.ops [
  ⟨(some 6), .mov (.k (.int .i64 0)), none⟩] [0, 3, 4, 5, 6])
 (.block 2 (.loop c_joinerylaw12_RefineTwice_L1))))
 (.ops [
  ⟨(some 25), .mov (.t 5), none⟩,
  ⟨(some 26), .bin .add (.t 25) (.k (.int .i64 1)), none⟩,
  ⟨(some 5), .mov (.t 26), none⟩] [0, 3, 4, 5])))
def c_joinerylaw12_RefineTwice_D3 : List O := [
  ⟨(some 114), .mov (.t 11), none⟩,
  ⟨(some 115), .mov (.t 12), none⟩,
  ⟨(some 116), .iaddr 1 (.t 114) (.t 115), none⟩,
  ⟨(some 117), .load false 1 (.t 116), none⟩,
  ⟨(some 118), .mov (.t 10), none⟩,
  ⟨(some 119), .mov (.t 12), none⟩,
  ⟨(some 120), .iaddr 1 (.t 118) (.t 119), none⟩,
  ⟨(some 121), .load false 1 (.t 120), none⟩,
  ⟨(some 122), .bin .neq (.t 117) (.t 121), none⟩,
  ⟨(some 123), .mov (.t 122), none⟩,
  ⟨(some 124), .mov (.t 11), (some (123, false))⟩,
  ⟨(some 125), .mov (.t 12), (some (123, false))⟩,
  ⟨(some 126), .mov (.t 0), (some (123, false))⟩,
  ⟨(some 127), .len 0 (.t 126), (some (123, false))⟩,
  ⟨(some 128), .bin .add (.t 125) (.t 127), (some (123, false))⟩,
  ⟨(some 129), .iaddr 1 (.t 124) (.t 128), (some (123, false))⟩,
  ⟨(some 130), .load false 1 (.t 129), (some (123, false))⟩,
  ⟨(some 131), .mov (.t 10), (some (123, false))⟩,
  ⟨(some 132), .mov (.t 12), (some (123, false))⟩,
  ⟨(some 133), .iaddr 1 (.t 131) (.t 132), (some (123, false))⟩,
  ⟨(some 134), .load false 1 (.t 133), (some (123, false))⟩,
  ⟨(some 135), .bin .neq (.t 130) (.t 134), (some (123, false))⟩,
  ⟨(some 136), .pick (.t 123) (.k (.bool true)) (.t 135), none⟩]
def c_joinerylaw12_RefineTwice_L4 : C := (.seq (.seq (.ops [
  ⟨(some 108), .mov (.t 12), none⟩,
  ⟨(some 109), .mov (.t 0), none⟩,
  ⟨(some 110), .len 0 (.t 109), none⟩,
  ⟨(some 111), .bin .lss (.t 108) (.t 110), none⟩] [0, 10, 11, 12, 111])
 (.cond (.t 111) .skip
 (.exit 6)))
 (.seq (.block 7 (.seq (.opsD c_joinerylaw12_RefineTwice_D3 [0, 0, 3, 7, 0, 0, 48, 112, 255, 511, 1023, 1023, 1023, 5119, 15359, 32767, 65535, 1023, 1023, 394239, 918527, 2097151, 4194303] [0, 10, 11, 12, 136])
 (.cond (.t 136) (.seq (.ops [
  ⟨(some 2), .mov (.k (.bool false)), none⟩] [2])
 .ret)
 .skip)))
 (.ops [
  ⟨(some 112), .mov (.t 12), none⟩,
  ⟨(some 113), .bin .add (.t 112) (.k (.int .i64 1)), none⟩,
  ⟨(some 12), .mov (.t 113), none⟩] [0, 10, 11, 12])))
/-- joinery/joinerylaw12.RefineTwice -/
def c_joinerylaw12_RefineTwice : F := ⟨true, 1, (.seq (.ops [
  ⟨(some 2), .mov (.k (.bool false)), none⟩] [0])
 (.seq (.seq (.ops [
  ⟨(some 13), .mov (.t 0), none⟩,
  ⟨(some 14), .call 9 [(.t 13)], none⟩,
  ⟨(some 15), .mov (.t 14), none⟩,
  ⟨(some 16), .mov (.t 0), (some (15, false))⟩,
  ⟨(some 17), .len 0 (.t 16), (some (15, false))⟩,
  ⟨(some 18), .bin .gtr (.t 17) (.k (.int .i64 30)), (some (15, false))⟩,
  ⟨(some 19), .pick (.t 15) (.k (.bool true)) (.t 18), none⟩] [0, 19])
 (.cond (.t 19) (.seq (.ops [
  ⟨(some 20), .call 10 [], none⟩,
  ⟨(some 2), .mov (.t 20), none⟩] [2])
 .ret)
 .skip))
 (.seq (.ops [
  ⟨(some 21), .mov (.t 0), none⟩,
  ⟨(some 22), .len 0 (.t 21), none⟩,
  ⟨(some 3), .mov (.t 22), none⟩] [0, 3])
 (.seq (.ops [
  ⟨(some 4), .ownnil 38 2 false, none⟩] [0, 3, 4])
 (.seq (.seq (.ops [
  ⟨(some 5), .mov (.k (.int .i64 0)), none⟩] [0, 3, 4, 5])
 (.block 0 (.loop c_joinerylaw12_RefineTwice_L2)))
 (.seq (.ops [
  ⟨(some 92), .mov (.t 0), none⟩,
  ⟨(some 93), .call 11 [(.t 92)], none⟩,
  ⟨(some 94), .mov (.t 4), none⟩,
  ⟨(some 95), .call 11 [(.t 94)], none⟩,
  ⟨(some 10), .mov (.t 93), none⟩,
  ⟨(some 11), .mov (.t 95), none⟩] [0, 4, 10, 11])
 (.seq (.seq (.ops [
  ⟨(some 96), .mov (.t 10), none⟩,
  ⟨(some 97), .len 0 (.t 96), none⟩,
  ⟨(some 98), .mov (.t 0), none⟩,
  ⟨(some 99), .len 0 (.t 98), none⟩,
  ⟨(some 100), .bin .neq (.t 97) (.t 99), none⟩,
  ⟨(some 101), .mov (.t 100), none⟩,
  ⟨(some 102), .mov (.t 11), (some (101, false))⟩,
  ⟨(some 103), .len 0 (.t 102), (some (101, false))⟩,
  ⟨(some 104), .mov (.t 4), (some (101, false))⟩,
  ⟨(some 105), .len 0 (.t 104), (some (101, false))⟩,
  ⟨(some 106), .bin .neq (.t 103) (.t 105), (some (101, false))⟩,
  ⟨(some 107), .pick (.t 101) (.k (.bool true)) (.t 106), none⟩] [0, 10, 11, 107])
 (.cond (.t 107) (.seq (.ops [
  ⟨(some 2), .mov (.k (.bool false)), none⟩] [2])
 .ret)
 .skip))
 (.seq (.seq (.ops [
  ⟨(some 12), .mov (.k (.int .i64 0)), none⟩] [0, 10, 11, 12])
 (.block 6 (.loop c_joinerylaw12_RefineTwice_L4)))
 (.seq (.ops [
  ⟨(some 137), .call 10 [], none⟩,
  ⟨(some 2), .mov (.t 137), none⟩] [2])
 .ret))))))))), [.tmp 2]⟩
abbrev n_joinerylaw12_RefineTwice : Nat := 8
def c_joinerylaw12_great_L0 : C := (.seq (.seq (.ops [
  ⟨(some 4), .mov (.t 3), none⟩,
  ⟨(some 5), .mov (.t 0), none⟩,
  ⟨(some 6), .len 0 (.t 5), none⟩,
  ⟨(some 7), .bin .lss (.t 4) (.t 6), none⟩] [0, 3, 7])
 (.cond (.t 7) .skip
 (.exit 0)))
 (.seq (.block 1 (.seq (.ops [
  ⟨(some 10), .mov (.t 0), none⟩,
  ⟨(some 11), .mov (.t 3), none⟩,
  ⟨(some 12), .iaddr 2 (.t 10) (.t 11), none⟩,
  ⟨(some 13), .faddr 1 (.t 12), none⟩,
  ⟨(some 14), .load false 1 (.t 13), none⟩,
  ⟨(some 15), .len 0 (.t 14), none⟩,
  ⟨(some 16), .bin .gtr (.t 15) (.k (.int .i64 20)), none⟩] [0, 3, 16])
 (.cond (.t 16) (.seq (.ops [
  ⟨(some 2), .mov (.k (.bool true)), none⟩] [2])
 .ret)
 .skip)))
 (.ops [
  ⟨(some 8), .mov (.t 3), none⟩,
  ⟨(some 9), .bin .add (.t 8) (.k (.int .i64 1)), none⟩,
  ⟨(some 3), .mov (.t 9), none⟩] [0, 3])))
/-- joinery/joinerylaw12.great -/
def c_joinerylaw12_great : F := ⟨true, 1, (.seq (.ops [
  ⟨(some 2), .mov (.k (.bool false)), none⟩] [0])
 (.seq (.seq (.ops [
  ⟨(some 3), .mov (.k (.int .i64 0)), none⟩] [0, 3])
 (.block 0 (.loop c_joinerylaw12_great_L0)))
 (.seq (.ops [
  ⟨(some 17), .mov (.t 0), none⟩,
  ⟨(some 18), .len 0 (.t 17), none⟩,
  ⟨(some 19), .bin .gtr (.t 18) (.k (.int .i64 60)), none⟩,
  ⟨(some 2), .mov (.t 19), none⟩] [2])
 .ret))), [.tmp 2]⟩
abbrev n_joinerylaw12_great : Nat := 9
/-- joinery/joinerylaw12.knows -/
def c_joinerylaw12_knows : F := ⟨true, 0, (.seq (.ops [
  ⟨(some 0), .mov (.k (.bool false)), none⟩] [])
 (.seq (.ops [
  ⟨(some 3), .build [(.int .i64 0), (.int .i64 0)] [(1, 1, (.k (.int .i64 1)))], none⟩,
  ⟨(some 4), .lit 40 2 false [(.int .i64 0), (.int .i64 0)] 1 [(0, (.t 3))], none⟩,
  ⟨(some 5), .build [(.int .i64 0), .nils] [(0, 1, (.k (.int .i64 1))), (1, 1, (.t 4))], none⟩,
  ⟨(some 6), .build [(.int .i64 0), (.int .i64 0)] [(1, 1, (.k (.int .i64 0)))], none⟩,
  ⟨(some 7), .lit 40 2 false [(.int .i64 0), (.int .i64 0)] 1 [(0, (.t 6))], none⟩,
  ⟨(some 8), .build [(.int .i64 0), .nils] [(0, 1, (.k (.int .i64 1))), (1, 1, (.t 7))], none⟩,
  ⟨(some 9), .build [(.int .i64 0), .nils] [(0, 1, (.k (.int .i64 2)))], none⟩,
  ⟨(some 10), .lit 38 2 false [(.int .i64 0), .nils] 3 [(0, (.t 5)), (1, (.t 8)), (2, (.t 9))], none⟩,
  ⟨(some 11), .call 11 [(.t 10)], none⟩,
  ⟨(some 1), .mov (.t 11), none⟩] [1])
 (.seq (.ops [
  ⟨(some 12), .build [(.int .i64 0), (.int .i64 0)] [(1, 1, (.k (.int .i64 2)))], none⟩,
  ⟨(some 13), .lit 40 2 false [(.int .i64 0), (.int .i64 0)] 1 [(0, (.t 12))], none⟩,
  ⟨(some 14), .build [(.int .i64 0), .nils] [(0, 1, (.k (.int .i64 1))), (1, 1, (.t 13))], none⟩,
  ⟨(some 15), .build [(.int .i64 0), (.int .i64 0)] [(1, 1, (.k (.int .i64 0)))], none⟩,
  ⟨(some 16), .lit 40 2 false [(.int .i64 0), (.int .i64 0)] 1 [(0, (.t 15))], none⟩,
  ⟨(some 17), .build [(.int .i64 0), .nils] [(0, 1, (.k (.int .i64 1))), (1, 1, (.t 16))], none⟩,
  ⟨(some 18), .build [(.int .i64 0), .nils] [(0, 1, (.k (.int .i64 2)))], none⟩,
  ⟨(some 19), .lit 38 2 false [(.int .i64 0), .nils] 3 [(0, (.t 14)), (1, (.t 17)), (2, (.t 18))], none⟩,
  ⟨(some 20), .call 11 [(.t 19)], none⟩,
  ⟨(some 2), .mov (.t 20), none⟩] [1, 2])
 (.seq (.ops [
  ⟨(some 21), .mov (.t 1), none⟩,
  ⟨(some 22), .len 0 (.t 21), none⟩,
  ⟨(some 23), .bin .eql (.t 22) (.k (.int .i64 3)), none⟩,
  ⟨(some 24), .mov (.t 23), none⟩,
  ⟨(some 25), .mov (.t 1), (some (24, true))⟩,
  ⟨(some 26), .iaddr 1 (.t 25) (.k (.int .i64 0)), (some (24, true))⟩,
  ⟨(some 27), .load false 1 (.t 26), (some (24, true))⟩,
  ⟨(some 28), .bin .eql (.t 27) (.k (.int .i64 0)), (some (24, true))⟩,
  ⟨(some 29), .pick (.t 24) (.t 28) (.k (.bool false)), none⟩,
  ⟨(some 30), .mov (.t 29), none⟩,
  ⟨(some 31), .mov (.t 1), (some (30, true))⟩,
  ⟨(some 32), .iaddr 1 (.t 31) (.k (.int .i64 1)), (some (30, true))⟩,
  ⟨(some 33), .load false 1 (.t 32), (some (30, true))⟩,
  ⟨(some 34), .bin .eql (.t 33) (.k (.int .i64 0)), (some (30, true))⟩,
  ⟨(some 35), .pick (.t 30) (.t 34) (.k (.bool false)), none⟩,
  ⟨(some 36), .mov (.t 35), none⟩,
  ⟨(some 37), .mov (.t 1), (some (36, true))⟩,
  ⟨(some 38), .iaddr 1 (.t 37) (.k (.int .i64 2)), (some (36, true))⟩,
  ⟨(some 39), .load false 1 (.t 38), (some (36, true))⟩,
  ⟨(some 40), .bin .eql (.t 39) (.k (.int .i64 1)), (some (36, true))⟩,
  ⟨(some 41), .pick (.t 36) (.t 40) (.k (.bool false)), none⟩,
  ⟨(some 42), .mov (.t 41), none⟩,
  ⟨(some 43), .mov (.t 2), (some (42, true))⟩,
  ⟨(some 44), .len 0 (.t 43), (some (42, true))⟩,
  ⟨(some 45), .bin .eql (.t 44) (.k (.int .i64 3)), (some (42, true))⟩,
  ⟨(some 46), .pick (.t 42) (.t 45) (.k (.bool false)), none⟩,
  ⟨(some 47), .mov (.t 46), none⟩,
  ⟨(some 48), .mov (.t 2), (some (47, true))⟩,
  ⟨(some 49), .iaddr 1 (.t 48) (.k (.int .i64 0)), (some (47, true))⟩,
  ⟨(some 50), .load false 1 (.t 49), (some (47, true))⟩,
  ⟨(some 51), .bin .eql (.t 50) (.k (.int .i64 0)), (some (47, true))⟩,
  ⟨(some 52), .pick (.t 47) (.t 51) (.k (.bool false)), none⟩,
  ⟨(some 53), .mov (.t 52), none⟩,
  ⟨(some 54), .mov (.t 2), (some (53, true))⟩,
  ⟨(some 55), .iaddr 1 (.t 54) (.k (.int .i64 1)), (some (53, true))⟩,
  ⟨(some 56), .load false 1 (.t 55), (some (53, true))⟩,
  ⟨(some 57), .bin .eql (.t 56) (.k (.int .i64 1)), (some (53, true))⟩,
  ⟨(some 58), .pick (.t 53) (.t 57) (.k (.bool false)), none⟩,
  ⟨(some 59), .mov (.t 58), none⟩,
  ⟨(some 60), .mov (.t 2), (some (59, true))⟩,
  ⟨(some 61), .iaddr 1 (.t 60) (.k (.int .i64 2)), (some (59, true))⟩,
  ⟨(some 62), .load false 1 (.t 61), (some (59, true))⟩,
  ⟨(some 63), .bin .eql (.t 62) (.k (.int .i64 2)), (some (59, true))⟩,
  ⟨(some 64), .pick (.t 59) (.t 63) (.k (.bool false)), none⟩,
  ⟨(some 65), .mov (.t 64), none⟩,
  ⟨(some 66), .call 14 [(.k .nils), (.k (.int .i64 0)), (.k (.int .i64 1))], (some (65, true))⟩,
  ⟨(some 67), .pick (.t 65) (.t 66) (.k (.bool false)), none⟩,
  ⟨(some 0), .mov (.t 67), none⟩] [0])
 .ret)))), [.tmp 0]⟩
abbrev n_joinerylaw12_knows : Nat := 10
def c_refine_Classes_L0 : C := (.block 1 (.seq (.ops [
  ⟨(some 11), .mov (.t 0), none⟩,
  ⟨(some 12), .mov (.t 3), none⟩,
  ⟨(some 13), .call 17 [(.t 11), (.t 12)], none⟩,
  ⟨(some 10), .mov (.t 13), none⟩,
  ⟨(some 14), .extract (.t 10) 0, none⟩,
  ⟨(some 15), .extract (.t 10) 1, none⟩,
  ⟨(some 5), .mov (.t 14), none⟩,
  ⟨(some 6), .mov (.t 15), none⟩] [0, 4, 5, 6])
 (.seq (.ops [
  ⟨(some 16), .mov (.t 5), none⟩,
  ⟨(some 3), .mov (.t 16), none⟩] [0, 3, 4, 6])
 (.seq (.seq (.ops [
  ⟨(some 17), .mov (.t 6), none⟩,
  ⟨(some 18), .mov (.t 4), none⟩,
  ⟨(some 19), .bin .eql (.t 17) (.t 18), none⟩] [0, 3, 6, 19])
 (.cond (.t 19) (.seq (.ops [
  ⟨(some 20), .mov (.t 3), none⟩,
  ⟨(some 2), .mov (.t 20), none⟩] [2])
 .ret)
 .skip))
 (.ops [
  ⟨(some 21), .mov (.t 6), none⟩,
  ⟨(some 4), .mov (.t 21), none⟩] [0, 3, 4])))))
/-- joinery/refine.Classes -/
def c_refine_Classes : F := ⟨true, 1, (.seq (.ops [
  ⟨(some 2), .mov (.k .nils), none⟩] [0])
 (.seq (.ops [
  ⟨(some 7), .mov (.t 0), none⟩,
  ⟨(some 8), .len 0 (.t 7), none⟩,
  ⟨(some 9), .mkslice 3 1 8 false [(.int .i64 0)] (.t 8), none⟩,
  ⟨(some 3), .mov (.t 9), none⟩] [0, 3])
 (.seq (.ops [
  ⟨(some 4), .mov (.k (.int .i64 0)), none⟩] [0, 3, 4])
 (.block 0 (.loop c_refine_Classes_L0))))), [.tmp 2]⟩
abbrev n_refine_Classes : Nat := 11
def c_joineryref12_Classes_L0 : C := (.seq (.seq (.ops [
  ⟨(some 20), .mov (.t 8), none⟩,
  ⟨(some 21), .bin .geq (.t 20) (.k (.int .i64 0)), none⟩] [0, 3, 4, 5, 6, 7, 8, 21])
 (.cond (.t 21) .skip
 (.exit 2)))
 (.seq (.block 3 (.seq (.ops [
  ⟨(some 24), .mov (.t 3), none⟩,
  ⟨(some 25), .mov (.t 6), none⟩,
  ⟨(some 26), .iaddr 1 (.t 24) (.t 25), none⟩,
  ⟨(some 27), .load false 1 (.t 26), none⟩,
  ⟨(some 28), .mov (.t 8), none⟩,
  ⟨(some 29), .iaddr 1 (.t 27) (.t 28), none⟩,
  ⟨(some 30), .load false 1 (.t 29), none⟩,
  ⟨(some 31), .un .not (.t 30), none⟩] [0, 3, 4, 5, 6, 7, 8, 31])
 (.cond (.t 31) (.ops [
  ⟨(some 32), .mov (.t 4), none⟩,
  ⟨(some 33), .mov (.t 8), none⟩,
  ⟨(some 34), .iaddr 1 (.t 32) (.t 33), none⟩,
  ⟨(some 35), .load false 1 (.t 34), none⟩,
  ⟨(some 7), .mov (.t 35), none⟩] [0, 3, 4, 5, 6, 7, 8])
 .skip)))
 (.ops [
  ⟨(some 22), .mov (.t 8), none⟩,
  ⟨(some 23), .bin .sub (.t 22) (.k (.int .i64 1)), none⟩,
  ⟨(some 8), .mov (.t 23), none⟩] [0, 3, 4, 5, 6, 7, 8])))
def c_joineryref12_Classes_L1 : C := (.seq (.seq (.ops [
  ⟨(some 11), .mov (.t 6), none⟩,
  ⟨(some 12), .mov (.t 0), none⟩,
  ⟨(some 13), .len 0 (.t 12), none⟩,
  ⟨(some 14), .bin .lss (.t 11) (.t 13), none⟩] [0, 3, 4, 5, 6, 14])
 (.cond (.t 14) .skip
 (.exit 0)))
 (.seq (.block 1 (.seq (.ops [
  ⟨(some 17), .mov (.t 5), none⟩,
  ⟨(some 7), .mov (.t 17), none⟩] [0, 3, 4, 5, 6, 7])
 (.seq (.seq (.ops [
  ⟨(some 18), .mov (.t 6), none⟩,
  ⟨(some 19), .bin .sub (.t 18) (.k (.int .i64 1)), none⟩,
  ⟨(some 8), .mov (.t 19), none⟩] [0, 3, 4, 5, 6, 7, 8])
 (.block 2 (.loop c_joineryref12_Classes_L0)))
 (.seq (.seq (.ops [
  ⟨(some 36), .mov (.t 7), none⟩,
  ⟨(some 37), .mov (.t 5), none⟩,
  ⟨(some 38), .bin .eql (.t 36) (.t 37), none⟩] [0, 3, 4, 5, 6, 7, 38])
 (.cond (.t 38) (.ops [
  ⟨(some 39), .mov (.t 5), none⟩,
  ⟨(some 40), .bin .add (.t 39) (.k (.int .i64 1)), none⟩,
  ⟨(some 5), .mov (.t 40), none⟩] [0, 3, 4, 5, 6, 7])
 .skip))
 (.ops [
  ⟨(some 41), .mov (.t 4), none⟩,
  ⟨(some 42), .mov (.t 7), none⟩,
  ⟨(some 43), .lit 3 1 false [(.int .i64 0)] 1 [(0, (.t 42))], none⟩,
  ⟨(some 44), .append 3 1 8 false (.t 41) (.t 43), none⟩,
  ⟨(some 4), .mov (.t 44), none⟩] [0, 3, 4, 5, 6])))))
 (.ops [
  ⟨(some 15), .mov (.t 6), none⟩,
  ⟨(some 16), .bin .add (.t 15) (.k (.int .i64 1)), none⟩,
  ⟨(some 6), .mov (.t 16), none⟩] [0, 3, 4, 5, 6])))
/-- joinery/joineryref12.Classes -/
def c_joineryref12_Classes : F := ⟨true, 1, (.seq (.ops [
  ⟨(some 2), .mov (.k .nils), none⟩] [0])
 (.seq (.ops [
  ⟨(some 9), .mov (.t 0), none⟩,
  ⟨(some 10), .call 15 [(.t 9)], none⟩,
  ⟨(some 3), .mov (.t 10), none⟩] [0, 3])
 (.seq (.ops [
  ⟨(some 4), .ownnil 3 1 false, none⟩] [0, 3, 4])
 (.seq (.ops [
  ⟨(some 5), .mov (.k (.int .i64 0)), none⟩] [0, 3, 4, 5])
 (.seq (.seq (.ops [
  ⟨(some 6), .mov (.k (.int .i64 0)), none⟩] [0, 3, 4, 5, 6])
 (.block 0 (.loop c_joineryref12_Classes_L1)))
 (.seq (.ops [
  ⟨(some 45), .mov (.t 4), none⟩,
  ⟨(some 2), .mov (.t 45), none⟩] [2])
 .ret)))))), [.tmp 2]⟩
abbrev n_joineryref12_Classes : Nat := 12
def c_joinerylaw12_as_D0 : List O := [
  ⟨(some 29), .faddr 1 (.t 5), none⟩,
  ⟨(some 30), .load false 1 (.t 29), none⟩,
  ⟨(some 31), .mov (.t 0), none⟩,
  ⟨(some 32), .mov (.t 4), none⟩,
  ⟨(some 33), .iaddr 2 (.t 31) (.t 32), none⟩,
  ⟨(some 34), .faddr 1 (.t 33), none⟩,
  ⟨(some 35), .load false 1 (.t 34), none⟩,
  ⟨(some 36), .mov (.t 6), none⟩,
  ⟨(some 37), .iaddr 2 (.t 35) (.t 36), none⟩,
  ⟨(some 38), .faddr 0 (.t 37), none⟩,
  ⟨(some 39), .load false 1 (.t 38), none⟩,
  ⟨(some 40), .mov (.t 0), none⟩,
  ⟨(some 41), .mov (.t 4), none⟩,
  ⟨(some 42), .iaddr 2 (.t 40) (.t 41), none⟩,
  ⟨(some 43), .faddr 1 (.t 42), none⟩,
  ⟨(some 44), .load false 1 (.t 43), none⟩,
  ⟨(some 45), .mov (.t 6), none⟩,
  ⟨(some 46), .iaddr 2 (.t 44) (.t 45), none⟩,
  ⟨(some 47), .faddr 1 (.t 46), none⟩,
  ⟨(some 48), .load false 1 (.t 47), none⟩,
  ⟨(some 49), .build [(.int .i64 0), (.int .i64 0)] [(0, 1, (.t 39)), (1, 1, (.t 48))], none⟩,
  ⟨(some 50), .lit 46 2 false [(.int .i64 0), (.int .i64 0)] 1 [(0, (.t 49))], none⟩,
  ⟨(some 51), .append 46 2 16 false (.t 30) (.t 50), none⟩,
  ⟨(some 52), .faddr 1 (.t 5), none⟩,
  ⟨none, .store 1 (.t 52) (.t 51), none⟩]
def c_joinerylaw12_as_L1 : C := (.seq (.seq (.ops [
  ⟨(some 19), .mov (.t 6), none⟩,
  ⟨(some 20), .mov (.t 0), none⟩,
  ⟨(some 21), .mov (.t 4), none⟩,
  ⟨(some 22), .iaddr 2 (.t 20) (.t 21), none⟩,
  ⟨(some 23), .faddr 1 (.t 22), none⟩,
  ⟨(some 24), .load false 1 (.t 23), none⟩,
  ⟨(some 25), .len 0 (.t 24), none⟩,
  ⟨(some 26), .bin .lss (.t 19) (.t 25), none⟩] [0, 3, 4, 5, 6, 26])
 (.cond (.t 26) .skip
 (.exit 2)))
 (.seq (.block 3 (.opsD c_joinerylaw12_as_D0 [0, 1, 0, 0, 12, 28, 60, 0, 252, 508, 1020, 0, 0, 6144, 14336, 30720, 0, 129024, 260096, 522240, 1048572, 2097148, 4194303, 8388607, 16777215] [0, 3, 4, 5, 6]))
 (.ops [
  ⟨(some 27), .mov (.t 6), none⟩,
  ⟨(some 28), .bin .add (.t 27) (.k (.int .i64 1)), none⟩,
  ⟨(some 6), .mov (.t 28), none⟩] [0, 3, 4, 5, 6])))
def c_joinerylaw12_as_L2 : C := (.seq (.seq (.ops [
  ⟨(some 7), .mov (.t 4), none⟩,
  ⟨(some 8), .mov (.t 0), none⟩,
  ⟨(some 9), .len 0 (.t 8), none⟩,
  ⟨(some 10), .bin .lss (.t 7) (.t 9), none⟩] [0, 3, 4, 10])
 (.cond (.t 10) .skip
 (.exit 0)))
 (.seq (.block 1 (.seq (.ops [
  ⟨(some 13), .mov (.t 0), none⟩,
  ⟨(some 14), .mov (.t 4), none⟩,
  ⟨(some 15), .iaddr 2 (.t 13) (.t 14), none⟩,
  ⟨(some 16), .faddr 0 (.t 15), none⟩,
  ⟨(some 17), .load false 1 (.t 16), none⟩,
  ⟨(some 18), .build [(.int .i64 0), .nils] [(0, 1, (.t 17))], none⟩,
  ⟨(some 5), .alloc [(.int .i64 0), .nils], none⟩,
  ⟨none, .store 2 (.t 5) (.t 18), none⟩] [0, 3, 4, 5])
 (.seq (.seq (.ops [
  ⟨(some 6), .mov (.k (.int .i64 0)), none⟩] [0, 3, 4, 5, 6])
 (.block 2 (.loop c_joinerylaw12_as_L1)))
 (.ops [
  ⟨(some 53), .mov (.t 3), none⟩,
  ⟨(some 54), .load true 2 (.t 5), none⟩,
  ⟨(some 55), .lit 45 2 false [(.int .i64 0), .nils] 1 [(0, (.t 54))], none⟩,
  ⟨(some 56), .append 45 2 32 false (.t 53) (.t 55), none⟩,
  ⟨(some 3), .mov (.t 56), none⟩] [0, 3, 4]))))
 (.ops [
  ⟨(some 11), .mov (.t 4), none⟩,
  ⟨(some 12), .bin .add (.t 11) (.k (.int .i64 1)), none⟩,
  ⟨(some 4), .mov (.t 12), none⟩] [0, 3, 4])))
/-- joinery/joinerylaw12.as -/
def c_joinerylaw12_as : F := ⟨true, 1, (.seq (.ops [
  ⟨(some 2), .mov (.k .nils), none⟩] [0])
 (.seq (.ops [
  ⟨(some 3), .ownnil 45 2 false, none⟩] [0, 3])
 (.seq (.seq (.ops [
  ⟨(some 4), .mov (.k (.int .i64 0)), none⟩] [0, 3, 4])
 (.block 0 (.loop c_joinerylaw12_as_L2)))
 (.seq (.ops [
  ⟨(some 57), .mov (.t 3), none⟩,
  ⟨(some 2), .mov (.t 57), none⟩] [2])
 .ret)))), [.tmp 2]⟩
abbrev n_joinerylaw12_as : Nat := 13
def c_refine_Apart_D0 : List O := [
  ⟨(some 33), .mov (.t 7), none⟩,
  ⟨(some 34), .mov (.t 1), none⟩,
  ⟨(some 35), .iaddr 1 (.t 33) (.t 34), none⟩,
  ⟨(some 36), .load false 1 (.t 35), none⟩,
  ⟨(some 37), .mov (.t 7), none⟩,
  ⟨(some 38), .mov (.t 2), none⟩,
  ⟨(some 39), .iaddr 1 (.t 37) (.t 38), none⟩,
  ⟨(some 40), .load false 1 (.t 39), none⟩,
  ⟨(some 41), .bin .neq (.t 36) (.t 40), none⟩,
  ⟨(some 6), .mov (.t 41), none⟩]
/-- joinery/refine.Apart -/
def c_refine_Apart : F := ⟨true, 3, (.seq (.ops [
  ⟨(some 6), .mov (.k (.bool false)), none⟩] [0, 1, 2])
 (.seq (.block 0 (.seq (.ops [
  ⟨(some 9), .mov (.t 1), none⟩,
  ⟨(some 10), .mov (.t 2), none⟩,
  ⟨(some 11), .bin .eql (.t 9) (.t 10), none⟩,
  ⟨(some 8), .mov (.t 11), none⟩] [0, 1, 2, 8])
 (.cond (.t 8) (.seq (.ops [
  ⟨(some 6), .mov (.k (.bool false)), none⟩] [6])
 .ret)
 (.seq (.ops [
  ⟨(some 13), .mov (.t 1), none⟩,
  ⟨(some 14), .bin .lss (.t 13) (.k (.int .i64 0)), none⟩,
  ⟨(some 15), .mov (.t 14), none⟩,
  ⟨(some 16), .mov (.t 2), (some (15, false))⟩,
  ⟨(some 17), .bin .lss (.t 16) (.k (.int .i64 0)), (some (15, false))⟩,
  ⟨(some 18), .pick (.t 15) (.k (.bool true)) (.t 17), none⟩,
  ⟨(some 19), .mov (.t 18), none⟩,
  ⟨(some 20), .mov (.t 1), (some (19, false))⟩,
  ⟨(some 21), .mov (.t 0), (some (19, false))⟩,
  ⟨(some 22), .len 0 (.t 21), (some (19, false))⟩,
  ⟨(some 23), .bin .geq (.t 20) (.t 22), (some (19, false))⟩,
  ⟨(some 24), .pick (.t 19) (.k (.bool true)) (.t 23), none⟩,
  ⟨(some 25), .mov (.t 24), none⟩,
  ⟨(some 26), .mov (.t 2), (some (25, false))⟩,
  ⟨(some 27), .mov (.t 0), (some (25, false))⟩,
  ⟨(some 28), .len 0 (.t 27), (some (25, false))⟩,
  ⟨(some 29), .bin .geq (.t 26) (.t 28), (some (25, false))⟩,
  ⟨(some 30), .pick (.t 25) (.k (.bool true)) (.t 29), none⟩,
  ⟨(some 12), .mov (.t 30), none⟩] [0, 1, 2, 12])
 (.cond (.t 12) (.seq (.ops [
  ⟨(some 6), .mov (.k (.bool true)), none⟩] [6])
 .ret)
 .skip)))))
 (.seq (.ops [
  ⟨(some 31), .mov (.t 0), none⟩,
  ⟨(some 32), .call 11 [(.t 31)], none⟩,
  ⟨(some 7), .mov (.t 32), none⟩] [1, 2, 7])
 (.seq (.opsD c_refine_Apart_D0 [0, 0, 3, 7, 0, 0, 48, 112, 255, 511] [6])
 .ret)))), [.tmp 6]⟩
abbrev n_refine_Apart : Nat := 14
def c_joineryref12_Table_L0 : C := (.seq (.seq (.ops [
  ⟨(some 8), .mov (.t 4), none⟩,
  ⟨(some 9), .mov (.t 0), none⟩,
  ⟨(some 10), .len 0 (.t 9), none⟩,
  ⟨(some 11), .bin .lss (.t 8) (.t 10), none⟩] [0, 3, 4, 11])
 (.cond (.t 11) .skip
 (.exit 0)))
 (.seq (.block 1 (.ops [
  ⟨(some 14), .mov (.t 3), none⟩,
  ⟨(some 15), .mov (.t 0), none⟩,
  ⟨(some 16), .len 0 (.t 15), none⟩,
  ⟨(some 17), .mkslice 4 1 1 false [(.bool false)] (.t 16), none⟩,
  ⟨(some 18), .lit 31 1 true [.nils] 1 [(0, (.t 17))], none⟩,
  ⟨(some 19), .append 31 1 24 false (.t 14) (.t 18), none⟩,
  ⟨(some 3), .mov (.t 19), none⟩] [0, 3, 4]))
 (.ops [
  ⟨(some 12), .mov (.t 4), none⟩,
  ⟨(some 13), .bin .add (.t 12) (.k (.int .i64 1)), none⟩,
  ⟨(some 4), .mov (.t 13), none⟩] [0, 3, 4])))
def c_joineryref12_Table_L1 : C := (.seq (.seq (.ops [
  ⟨(some 27), .mov (.t 7), none⟩,
  ⟨(some 28), .mov (.t 0), none⟩,
  ⟨(some 29), .len 0 (.t 28), none⟩,
  ⟨(some 30), .bin .lss (.t 27) (.t 29), none⟩] [0, 3, 5, 6, 7, 30])
 (.cond (.t 30) .skip
 (.exit 6)))
 (.seq (.block 7 (.seq (.ops [
  ⟨(some 33), .mov (.t 3), none⟩,
  ⟨(some 34), .mov (.t 6), none⟩,
  ⟨(some 35), .iaddr 1 (.t 33) (.t 34), none⟩,
  ⟨(some 36), .load false 1 (.t 35), none⟩,
  ⟨(some 37), .mov (.t 7), none⟩,
  ⟨(some 38), .iaddr 1 (.t 36) (.t 37), none⟩,
  ⟨(some 39), .load false 1 (.t 38), none⟩,
  ⟨(some 40), .un .not (.t 39), none⟩,
  ⟨(some 41), .mov (.t 40), none⟩,
  ⟨(some 42), .mov (.t 0), (some (41, true))⟩,
  ⟨(some 43), .mov (.t 3), (some (41, true))⟩,
  ⟨(some 44), .mov (.t 6), (some (41, true))⟩,
  ⟨(some 45), .mov (.t 7), (some (41, true))⟩,
  ⟨(some 46), .call 18 [(.t 42), (.t 43), (.t 44), (.t 45)], (some (41, true))⟩,
  ⟨(some 47), .pick (.t 41) (.t 46) (.k (.bool false)), none⟩] [0, 3, 5, 6, 7, 47])
 (.cond (.t 47) (.seq (.ops [
  ⟨(some 48), .mov (.t 3), none⟩,
  ⟨(some 49), .mov (.t 6), none⟩,
  ⟨(some 50), .iaddr 1 (.t 48) (.t 49), none⟩,
  ⟨(some 51), .load false 1 (.t 50), none⟩,
  ⟨(some 52), .mov (.t 7), none⟩,
  ⟨(some 53), .iaddr 1 (.t 51) (.t 52), none⟩,
  ⟨none, .store 1 (.t 53) (.k (.bool true)), none⟩] [0, 3, 6, 7])
 (.ops [
  ⟨(some 5), .mov (.k (.bool true)), none⟩] [0, 3, 5, 6, 7]))
 .skip)))
 (.ops [
  ⟨(some 31), .mov (.t 7), none⟩,
  ⟨(some 32), .bin .add (.t 31) (.k (.int .i64 1)), none⟩,
  ⟨(some 7), .mov (.t 32), none⟩] [0, 3, 5, 6, 7])))
def c_joineryref12_Table_L2 : C := (.seq (.seq (.ops [
  ⟨(some 21), .mov (.t 6), none⟩,
  ⟨(some 22), .mov (.t 0), none⟩,
  ⟨(some 23), .len 0 (.t 22), none⟩,
  ⟨(some 24), .bin .lss (.t 21) (.t 23), none⟩] [0, 3, 5, 6, 24])
 (.cond (.t 24) .skip
 (.exit 4)))
 (.seq (.block 5 (.seq (.ops [
  ⟨(some 7), .mov (.k (.int .i64 0)), none⟩] [0, 3, 5, 6, 7])
 (.block 6 (.loop c_joineryref12_Table_L1))))
 (.ops [
  ⟨(some 25), .mov (.t 6), none⟩,
  ⟨(some 26), .bin .add (.t 25) (.k (.int .i64 1)), none⟩,
  ⟨(some 6), .mov (.t 26), none⟩] [0, 3, 5, 6])))
def c_joineryref12_Table_L3 : C := (.seq (.seq (.ops [
  ⟨(some 20), .mov (.t 5), none⟩] [0, 3, 20])
 (.cond (.t 20) .skip
 (.exit 2)))
 (.block 3 (.seq (.ops [
  ⟨(some 5), .mov (.k (.bool false)), none⟩] [0, 3, 5])
 (.seq (.ops [
  ⟨(some 6), .mov (.k (.int .i64 0)), none⟩] [0, 3, 5, 6])
 (.block 4 (.loop c_joineryref12_Table_L2))))))
/-- joinery/joineryref12.Table -/
def c_joineryref12_Table : F := ⟨true, 1, (.seq (.ops [
  ⟨(some 2), .mov (.k .nils), none⟩] [0])
 (.seq (.ops [
  ⟨(some 3), .ownnil 31 1 true, none⟩] [0, 3])
 (.seq (.seq (.ops [
  ⟨(some 4), .mov (.k (.int .i64 0)), none⟩] [0, 3, 4])
 (.block 0 (.loop c_joineryref12_Table_L0)))
 (.seq (.ops [
  ⟨(some 5), .mov (.k (.bool true)), none⟩] [0, 3, 5])
 (.seq (.block 2 (.loop c_joineryref12_Table_L3))
 (.seq (.ops [
  ⟨(some 54), .mov (.t 3), none⟩,
  ⟨(some 2), .mov (.t 54), none⟩] [2])
 .ret)))))), [.tmp 2]⟩
abbrev n_joineryref12_Table : Nat := 15
def c_joinerylaw12_stands_D0 : List O := [
  ⟨(some 23), .mov (.t 1), none⟩,
  ⟨(some 24), .mov (.t 5), none⟩,
  ⟨(some 25), .iaddr 1 (.t 23) (.t 24), none⟩,
  ⟨(some 26), .load false 1 (.t 25), none⟩,
  ⟨(some 27), .mov (.t 1), none⟩,
  ⟨(some 28), .mov (.t 6), none⟩,
  ⟨(some 29), .iaddr 1 (.t 27) (.t 28), none⟩,
  ⟨(some 30), .load false 1 (.t 29), none⟩,
  ⟨(some 31), .bin .neq (.t 26) (.t 30), none⟩]
def c_joinerylaw12_stands_D1 : List O := [
  ⟨(some 32), .mov (.t 0), none⟩,
  ⟨(some 33), .mov (.t 5), none⟩,
  ⟨(some 34), .iaddr 2 (.t 32) (.t 33), none⟩,
  ⟨(some 35), .faddr 0 (.t 34), none⟩,
  ⟨(some 36), .load false 1 (.t 35), none⟩,
  ⟨(some 37), .mov (.t 0), none⟩,
  ⟨(some 38), .mov (.t 6), none⟩,
  ⟨(some 39), .iaddr 2 (.t 37) (.t 38), none⟩,
  ⟨(some 40), .faddr 0 (.t 39), none⟩,
  ⟨(some 41), .load false 1 (.t 40), none⟩,
  ⟨(some 42), .bin .neq (.t 36) (.t 41), none⟩,
  ⟨(some 43), .mov (.t 42), none⟩,
  ⟨(some 44), .mov (.t 0), (some (43, false))⟩,
  ⟨(some 45), .mov (.t 5), (some (43, false))⟩,
  ⟨(some 46), .iaddr 2 (.t 44) (.t 45), (some (43, false))⟩,
  ⟨(some 47), .faddr 1 (.t 46), (some (43, false))⟩,
  ⟨(some 48), .load false 1 (.t 47), (some (43, false))⟩,
  ⟨(some 49), .len 0 (.t 48), (some (43, false))⟩,
  ⟨(some 50), .mov (.t 0), (some (43, false))⟩,
  ⟨(some 51), .mov (.t 6), (some (43, false))⟩,
  ⟨(some 52), .iaddr 2 (.t 50) (.t 51), (some (43, false))⟩,
  ⟨(some 53), .faddr 1 (.t 52), (some (43, false))⟩,
  ⟨(some 54), .load false 1 (.t 53), (some (43, false))⟩,
  ⟨(some 55), .len 0 (.t 54), (some (43, false))⟩,
  ⟨(some 56), .bin .neq (.t 49) (.t 55), (some (43, false))⟩,
  ⟨(some 57), .pick (.t 43) (.k (.bool true)) (.t 56), none⟩]
def c_joinerylaw12_stands_D2 : List O := [
  ⟨(some 68), .mov (.t 0), none⟩,
  ⟨(some 69), .mov (.t 5), none⟩,
  ⟨(some 70), .iaddr 2 (.t 68) (.t 69), none⟩,
  ⟨(some 71), .faddr 1 (.t 70), none⟩,
  ⟨(some 72), .load false 1 (.t 71), none⟩,
  ⟨(some 73), .mov (.t 7), none⟩,
  ⟨(some 74), .iaddr 2 (.t 72) (.t 73), none⟩,
  ⟨(some 75), .load true 2 (.t 74), none⟩,
  ⟨(some 76), .mov (.t 0), none⟩,
  ⟨(some 77), .mov (.t 6), none⟩,
  ⟨(some 78), .iaddr 2 (.t 76) (.t 77), none⟩,
  ⟨(some 79), .faddr 1 (.t 78), none⟩,
  ⟨(some 80), .load false 1 (.t 79), none⟩,
  ⟨(some 81), .mov (.t 7), none⟩,
  ⟨(some 82), .iaddr 2 (.t 80) (.t 81), none⟩,
  ⟨(some 83), .load true 2 (.t 82), none⟩,
  ⟨(some 8), .alloc [(.int .i64 0), (.int .i64 0)], none⟩,
  ⟨(some 9), .alloc [(.int .i64 0), (.int .i64 0)], none⟩,
  ⟨none, .store 2 (.t 8) (.t 75), none⟩,
  ⟨none, .store 2 (.t 9) (.t 83), none⟩]
def c_joinerylaw12_stands_D3 : List O := [
  ⟨(some 114), .mov (.t 10), none⟩,
  ⟨(some 115), .mov (.t 11), none⟩,
  ⟨(some 116), .eq true .tb (.t 114) (.t 115), none⟩,
  ⟨(some 117), .mov (.t 116), none⟩,
  ⟨(some 118), .mov (.t 10), (some (117, false))⟩,
  ⟨(some 119), .mov (.t 118), (some (117, false))⟩,
  ⟨(some 120), .mov (.t 1), (some (119, true))⟩,
  ⟨(some 121), .faddr 1 (.t 8), (some (119, true))⟩,
  ⟨(some 122), .load false 1 (.t 121), (some (119, true))⟩,
  ⟨(some 123), .iaddr 1 (.t 120) (.t 122), (some (119, true))⟩,
  ⟨(some 124), .load false 1 (.t 123), (some (119, true))⟩,
  ⟨(some 125), .mov (.t 1), (some (119, true))⟩,
  ⟨(some 126), .faddr 1 (.t 9), (some (119, true))⟩,
  ⟨(some 127), .load false 1 (.t 126), (some (119, true))⟩,
  ⟨(some 128), .iaddr 1 (.t 125) (.t 127), (some (119, true))⟩,
  ⟨(some 129), .load false 1 (.t 128), (some (119, true))⟩,
  ⟨(some 130), .bin .neq (.t 124) (.t 129), (some (119, true))⟩,
  ⟨(some 131), .pick (.t 119) (.t 130) (.k (.bool false)), (some (117, false))⟩,
  ⟨(some 132), .pick (.t 117) (.k (.bool true)) (.t 131), none⟩,
  ⟨(some 133), .mov (.t 132), none⟩,
  ⟨(some 134), .mov (.t 10), (some (133, false))⟩,
  ⟨(some 135), .un .not (.t 134), (some (133, false))⟩,
  ⟨(some 136), .mov (.t 135), (some (133, false))⟩,
  ⟨(some 137), .load true 2 (.t 8), (some (136, true))⟩,
  ⟨(some 138), .load true 2 (.t 9), (some (136, true))⟩,
  ⟨(some 139), .eq true (.tst [(1, .ti), (1, .ti)]) (.t 137) (.t 138), (some (136, true))⟩,
  ⟨(some 140), .pick (.t 136) (.t 139) (.k (.bool false)), (some (133, false))⟩,
  ⟨(some 141), .pick (.t 133) (.k (.bool true)) (.t 140), none⟩]
def c_joinerylaw12_stands_L4 : C := (.seq (.seq (.ops [
  ⟨(some 58), .mov (.t 7), none⟩,
  ⟨(some 59), .mov (.t 0), none⟩,
  ⟨(some 60), .mov (.t 5), none⟩,
  ⟨(some 61), .iaddr 2 (.t 59) (.t 60), none⟩,
  ⟨(some 62), .faddr 1 (.t 61), none⟩,
  ⟨(some 63), .load false 1 (.t 62), none⟩,
  ⟨(some 64), .len 0 (.t 63), none⟩,
  ⟨(some 65), .bin .lss (.t 58) (.t 64), none⟩] [0, 1, 5, 6, 7, 65])
 (.cond (.t 65) .skip
 (.exit 4)))
 (.seq (.block 5 (.seq (.opsD c_joinerylaw12_stands_D2 [0, 0, 3, 7, 15, 0, 63, 127, 0, 0, 768, 1792, 3840, 0, 16128, 32512, 0, 0, 196863, 524287] [0, 1, 5, 6, 7, 8, 9])
 (.seq (.ops [
  ⟨(some 84), .faddr 0 (.t 8), none⟩,
  ⟨(some 85), .load false 1 (.t 84), none⟩,
  ⟨(some 86), .bin .eql (.t 85) (.k (.int .i64 0)), none⟩,
  ⟨(some 87), .mov (.t 86), none⟩,
  ⟨(some 88), .faddr 1 (.t 8), (some (87, true))⟩,
  ⟨(some 89), .load false 1 (.t 88), (some (87, true))⟩,
  ⟨(some 90), .bin .geq (.t 89) (.k (.int .i64 0)), (some (87, true))⟩,
  ⟨(some 91), .pick (.t 87) (.t 90) (.k (.bool false)), none⟩,
  ⟨(some 92), .mov (.t 91), none⟩,
  ⟨(some 93), .faddr 1 (.t 8), (some (92, true))⟩,
  ⟨(some 94), .load false 1 (.t 93), (some (92, true))⟩,
  ⟨(some 95), .mov (.t 0), (some (92, true))⟩,
  ⟨(some 96), .len 0 (.t 95), (some (92, true))⟩,
  ⟨(some 97), .bin .lss (.t 94) (.t 96), (some (92, true))⟩,
  ⟨(some 98), .pick (.t 92) (.t 97) (.k (.bool false)), none⟩,
  ⟨(some 10), .mov (.t 98), none⟩] [0, 1, 5, 6, 7, 8, 9, 10])
 (.seq (.ops [
  ⟨(some 99), .faddr 0 (.t 9), none⟩,
  ⟨(some 100), .load false 1 (.t 99), none⟩,
  ⟨(some 101), .bin .eql (.t 100) (.k (.int .i64 0)), none⟩,
  ⟨(some 102), .mov (.t 101), none⟩,
  ⟨(some 103), .faddr 1 (.t 9), (some (102, true))⟩,
  ⟨(some 104), .load false 1 (.t 103), (some (102, true))⟩,
  ⟨(some 105), .bin .geq (.t 104) (.k (.int .i64 0)), (some (102, true))⟩,
  ⟨(some 106), .pick (.t 102) (.t 105) (.k (.bool false)), none⟩,
  ⟨(some 107), .mov (.t 106), none⟩,
  ⟨(some 108), .faddr 1 (.t 9), (some (107, true))⟩,
  ⟨(some 109), .load false 1 (.t 108), (some (107, true))⟩,
  ⟨(some 110), .mov (.t 0), (some (107, true))⟩,
  ⟨(some 111), .len 0 (.t 110), (some (107, true))⟩,
  ⟨(some 112), .bin .lss (.t 109) (.t 111), (some (107, true))⟩,
  ⟨(some 113), .pick (.t 107) (.t 112) (.k (.bool false)), none⟩,
  ⟨(some 11), .mov (.t 113), none⟩] [0, 1, 5, 6, 7, 8, 9, 10, 11])
 (.seq (.opsD c_joinerylaw12_stands_D3 [0, 0, 3, 7, 15, 31, 63, 63, 191, 511, 1023, 63, 63, 4159, 14399, 30783, 65535, 131071, 262143, 524287, 1048575, 2097151, 4194303, 8388607, 8388607, 33554431, 67108863, 134217727] [0, 1, 5, 6, 7, 141])
 (.cond (.t 141) (.seq (.ops [
  ⟨(some 4), .mov (.k (.bool false)), none⟩] [4])
 .ret)
 .skip))))))
 (.ops [
  ⟨(some 66), .mov (.t 7), none⟩,
  ⟨(some 67), .bin .add (.t 66) (.k (.int .i64 1)), none⟩,
  ⟨(some 7), .mov (.t 67), none⟩] [0, 1, 5, 6, 7])))
def c_joinerylaw12_stands_L5 : C := (.seq (.seq (.ops [
  ⟨(some 18), .mov (.t 6), none⟩,
  ⟨(some 19), .mov (.t 5), none⟩,
  ⟨(some 20), .bin .lss (.t 18) (.t 19), none⟩] [0, 1, 5, 6, 20])
 (.cond (.t 20) .skip
 (.exit 2)))
 (.seq (.block 3 (.seq (.seq (.opsD c_joinerylaw12_stands_D0 [0, 0, 3, 7, 0, 0, 48, 112, 255] [0, 1, 5, 6, 31])
 (.cond (.t 31) (.exit 3)
 .skip))
 (.seq (.seq (.opsD c_joinerylaw12_stands_D1 [0, 0, 3, 7, 15, 0, 0, 96, 224, 480, 1023, 2047, 4095, 4095, 16383, 32767, 65535, 131071, 4095, 4095, 790527, 1839103, 3936255, 8130559, 16777215, 33554431] [0, 1, 5, 6, 57])
 (.cond (.t 57) (.seq (.ops [
  ⟨(some 4), .mov (.k (.bool false)), none⟩] [4])
 .ret)
 .skip))
 (.seq (.ops [
  ⟨(some 7), .mov (.k (.int .i64 0)), none⟩] [0, 1, 5, 6, 7])
 (.block 4 (.loop c_joinerylaw12_stands_L4))))))
 (.ops [
  ⟨(some 21), .mov (.t 6), none⟩,
  ⟨(some 22), .bin .add (.t 21) (.k (.int .i64 1)), none⟩,
  ⟨(some 6), .mov (.t 22), none⟩] [0, 1, 5, 6])))
def c_joinerylaw12_stands_L6 : C := (.seq (.seq (.ops [
  ⟨(some 12), .mov (.t 5), none⟩,
  ⟨(some 13), .mov (.t 0), none⟩,
  ⟨(some 14), .len 0 (.t 13), none⟩,
  ⟨(some 15), .bin .lss (.t 12) (.t 14), none⟩] [0, 1, 5, 15])
 (.cond (.t 15) .skip
 (.exit 0)))
 (.seq (.block 1 (.seq (.ops [
  ⟨(some 6), .mov (.k (.int .i64 0)), none⟩] [0, 1, 5, 6])
 (.block 2 (.loop c_joinerylaw12_stands_L5))))
 (.ops [
  ⟨(some 16), .mov (.t 5), none⟩,
  ⟨(some 17), .bin .add (.t 16) (.k (.int .i64 1)), none⟩,
  ⟨(some 5), .mov (.t 17), none⟩] [0, 1, 5])))
/-- joinery/joinerylaw12.stands -/
def c_joinerylaw12_stands : F := ⟨true, 2, (.seq (.ops [
  ⟨(some 4), .mov (.k (.bool false)), none⟩] [0, 1])
 (.seq (.seq (.ops [
  ⟨(some 5), .mov (.k (.int .i64 0)), none⟩] [0, 1, 5])
 (.block 0 (.loop c_joinerylaw12_stands_L6)))
 (.seq (.ops [
  ⟨(some 4), .mov (.k (.bool true)), none⟩] [4])
 .ret))), [.tmp 4]⟩
abbrev n_joinerylaw12_stands : Nat := 16
def c_refine_round_D0 : List O := [
  ⟨(some 30), .mov (.t 6), none⟩,
  ⟨(some 31), .mov (.t 1), none⟩,
  ⟨(some 32), .mov (.t 10), none⟩,
  ⟨(some 33), .iaddr 1 (.t 31) (.t 32), none⟩,
  ⟨(some 34), .load false 1 (.t 33), none⟩,
  ⟨(some 35), .faddr 0 (.t 11), none⟩,
  ⟨(some 36), .load false 1 (.t 35), none⟩,
  ⟨(some 37), .faddr 1 (.t 11), none⟩,
  ⟨(some 38), .load false 1 (.t 37), none⟩,
  ⟨(some 39), .len 0 (.t 38), none⟩,
  ⟨(some 40), .build [(.int .i64 0), (.int .i64 0), (.int .i64 0)] [(0, 1, (.t 34)), (1, 1, (.t 36)), (2, 1, (.t 39))], none⟩,
  ⟨(some 41), .call 19 [(.t 30), (.t 40)], none⟩,
  ⟨(some 12), .mov (.t 41), none⟩]
def c_refine_round_L1 : C := (.seq (.ops [
  ⟨(some 48), .bin .lss (.t 47) (.t 46), none⟩] [0, 1, 6, 7, 8, 9, 10, 12, 13, 23, 24, 25, 45, 46, 47, 48])
 (.seq (.cond (.t 48) .skip
 (.exit 2))
 (.seq (.block 3 (.seq (.ops [
  ⟨(some 49), .iaddr 2 (.t 45) (.t 47), none⟩,
  ⟨(some 50), .load true 2 (.t 49), none⟩,
  ⟨(some 15), .alloc [(.int .i64 0), (.int .i64 0)], none⟩,
  ⟨none, .store 2 (.t 15) (.t 50), none⟩] [0, 1, 6, 7, 8, 9, 10, 12, 13, 15, 23, 24, 25, 45, 46, 47])
 (.seq (.ops [
  ⟨(some 51), .mov (.t 13), none⟩,
  ⟨(some 52), .load true 2 (.t 15), none⟩,
  ⟨(some 53), .build [(.int .i64 0), (.int .i64 0), (.int .i64 0), (.bool false)] [(0, 1, (.t 51)), (1, 2, (.t 52))], none⟩,
  ⟨(some 16), .alloc [(.int .i64 0), (.int .i64 0), (.int .i64 0), (.bool false)], none⟩,
  ⟨none, .store 4 (.t 16) (.t 53), none⟩] [0, 1, 6, 7, 8, 9, 10, 12, 15, 16, 23, 24, 25, 45, 46, 47])
 (.seq (.seq (.ops [
  ⟨(some 54), .faddr 0 (.t 15), none⟩,
  ⟨(some 55), .load false 1 (.t 54), none⟩,
  ⟨(some 56), .bin .eql (.t 55) (.k (.int .i64 0)), none⟩,
  ⟨(some 57), .mov (.t 56), none⟩,
  ⟨(some 58), .faddr 1 (.t 15), (some (57, true))⟩,
  ⟨(some 59), .load false 1 (.t 58), (some (57, true))⟩,
  ⟨(some 60), .bin .geq (.t 59) (.k (.int .i64 0)), (some (57, true))⟩,
  ⟨(some 61), .pick (.t 57) (.t 60) (.k (.bool false)), none⟩,
  ⟨(some 62), .mov (.t 61), none⟩,
  ⟨(some 63), .faddr 1 (.t 15), (some (62, true))⟩,
  ⟨(some 64), .load false 1 (.t 63), (some (62, true))⟩,
  ⟨(some 65), .mov (.t 0), (some (62, true))⟩,
  ⟨(some 66), .len 0 (.t 65), (some (62, true))⟩,
  ⟨(some 67), .bin .lss (.t 64) (.t 66), (some (62, true))⟩,
  ⟨(some 68), .pick (.t 62) (.t 67) (.k (.bool false)), none⟩] [0, 1, 6, 7, 8, 9, 10, 12, 15, 16, 23, 24, 25, 45, 46, 47, 68])
 (.cond (.t 68) (.ops [
  ⟨(some 69), .mov (.t 1), none⟩,
  ⟨(some 70), .faddr 1 (.t 15), none⟩,
  ⟨(some 71), .load false 1 (.t 70), none⟩,
  ⟨(some 72), .iaddr 1 (.t 69) (.t 71), none⟩,
  ⟨(some 73), .load false 1 (.t 72), none⟩,
  ⟨(some 74), .build [(.int .i64 0), (.int .i64 0)] [(1, 1, (.t 73))], none⟩,
  ⟨(some 75), .faddr 1 (.t 16), none⟩,
  ⟨none, .store 2 (.t 75) (.t 74), none⟩,
  ⟨(some 76), .faddr 3 (.t 16), none⟩,
  ⟨none, .store 1 (.t 76) (.k (.bool true)), none⟩] [0, 1, 6, 7, 8, 9, 10, 12, 16, 23, 24, 25, 45, 46, 47])
 .skip))
 (.ops [
  ⟨(some 77), .mov (.t 7), none⟩,
  ⟨(some 78), .load true 4 (.t 16), none⟩,
  ⟨(some 79), .call 20 [(.t 77), (.t 78)], none⟩,
  ⟨(some 13), .mov (.t 79), none⟩] [0, 1, 6, 7, 8, 9, 10, 12, 13, 23, 24, 25, 45, 46, 47])))))
 (.ops [
  ⟨(some 80), .bin .add (.t 47) (.k (.int .i64 1)), none⟩,
  ⟨(some 47), .mov (.t 80), none⟩] [0, 1, 6, 7, 8, 9, 10, 12, 13, 23, 24, 25, 45, 46, 47]))))
def c_refine_round_L2 : C := (.seq (.ops [
  ⟨(some 26), .bin .lss (.t 25) (.t 24), none⟩] [0, 1, 6, 7, 8, 9, 23, 24, 25, 26])
 (.seq (.cond (.t 26) .skip
 (.exit 0))
 (.seq (.block 1 (.seq (.ops [
  ⟨(some 27), .mov (.t 25), none⟩,
  ⟨(some 28), .iaddr 2 (.t 23) (.t 25), none⟩,
  ⟨(some 29), .load true 2 (.t 28), none⟩,
  ⟨(some 11), .alloc [(.int .i64 0), .nils], none⟩,
  ⟨(some 10), .mov (.t 27), none⟩,
  ⟨none, .store 2 (.t 11) (.t 29), none⟩] [0, 1, 6, 7, 8, 9, 10, 11, 23, 24, 25])
 (.seq (.opsD c_refine_round_D0 [0, 0, 0, 6, 14, 0, 32, 0, 128, 384, 1022, 2047, 4095] [0, 1, 6, 7, 8, 9, 10, 11, 12, 23, 24, 25])
 (.seq (.ops [
  ⟨(some 42), .mov (.t 12), none⟩,
  ⟨(some 43), .bin .sub (.k (.int .i64 (-1))) (.t 42), none⟩,
  ⟨(some 13), .mov (.t 43), none⟩] [0, 1, 6, 7, 8, 9, 10, 11, 12, 13, 23, 24, 25])
 (.seq (.seq (.ops [
  ⟨(some 44), .faddr 1 (.t 11), none⟩,
  ⟨(some 45), .load false 1 (.t 44), none⟩,
  ⟨(some 46), .len 0 (.t 45), none⟩,
  ⟨(some 47), .mov (.k (.int .i64 0)), none⟩] [0, 1, 6, 7, 8, 9, 10, 12, 13, 23, 24, 25, 45, 46, 47])
 (.block 2 (.loop c_refine_round_L1)))
 (.ops [
  ⟨(some 81), .mov (.t 9), none⟩,
  ⟨(some 82), .mov (.t 10), none⟩,
  ⟨(some 83), .mov (.t 8), none⟩,
  ⟨(some 84), .mov (.t 12), none⟩,
  ⟨(some 85), .mov (.t 13), none⟩,
  ⟨(some 86), .build [(.int .i64 0), (.int .i64 0)] [(0, 1, (.t 84)), (1, 1, (.t 85))], none⟩,
  ⟨(some 87), .call 21 [(.t 83), (.t 86)], none⟩,
  ⟨(some 88), .iaddr 1 (.t 81) (.t 82), none⟩,
  ⟨none, .store 1 (.t 88) (.t 87), none⟩] [0, 1, 6, 7, 8, 9, 23, 24, 25]))))))
 (.ops [
  ⟨(some 89), .bin .add (.t 25) (.k (.int .i64 1)), none⟩,
  ⟨(some 25), .mov (.t 89), none⟩] [0, 1, 6, 7, 8, 9, 23, 24, 25]))))
/-- joinery/refine.round -/
def c_refine_round : F := ⟨true, 2, (.seq (.ops [
  ⟨(some 4), .mov (.k .nils), none⟩,
  ⟨(some 5), .mov (.k (.int .i64 0)), none⟩] [0, 1])
 (.seq (.ops [
  ⟨(some 17), .mkmap, none⟩,
  ⟨(some 18), .mkmap, none⟩,
  ⟨(some 19), .mkmap, none⟩,
  ⟨(some 6), .mov (.t 17), none⟩,
  ⟨(some 7), .mov (.t 18), none⟩,
  ⟨(some 8), .mov (.t 19), none⟩] [0, 1, 6, 7, 8])
 (.seq (.ops [
  ⟨(some 20), .mov (.t 0), none⟩,
  ⟨(some 21), .len 0 (.t 20), none⟩,
  ⟨(some 22), .mkslice 3 1 8 false [(.int .i64 0)] (.t 21), none⟩,
  ⟨(some 9), .mov (.t 22), none⟩] [0, 1, 6, 7, 8, 9])
 (.seq (.seq (.ops [
  ⟨(some 23), .mov (.t 0), none⟩,
  ⟨(some 24), .len 0 (.t 23), none⟩,
  ⟨(some 25), .mov (.k (.int .i64 0)), none⟩] [0, 1, 6, 7, 8, 9, 23, 24, 25])
 (.block 0 (.loop c_refine_round_L2)))
 (.seq (.ops [
  ⟨(some 90), .mov (.t 9), none⟩,
  ⟨(some 91), .mov (.t 8), none⟩,
  ⟨(some 92), .len 2 (.t 91), none⟩,
  ⟨(some 4), .mov (.t 90), none⟩,
  ⟨(some 5), .mov (.t 92), none⟩] [4, 5])
 .ret))))), [.tmp 4, .tmp 5]⟩
abbrev n_refine_round : Nat := 17
def c_joineryref12_now_D0 : List O := [
  ⟨(some 14), .mov (.t 0), none⟩,
  ⟨(some 15), .mov (.t 2), none⟩,
  ⟨(some 16), .iaddr 2 (.t 14) (.t 15), none⟩,
  ⟨(some 17), .load true 2 (.t 16), none⟩,
  ⟨(some 18), .mov (.t 0), none⟩,
  ⟨(some 19), .mov (.t 3), none⟩,
  ⟨(some 20), .iaddr 2 (.t 18) (.t 19), none⟩,
  ⟨(some 21), .load true 2 (.t 20), none⟩,
  ⟨(some 9), .alloc [(.int .i64 0), .nils], none⟩,
  ⟨(some 10), .alloc [(.int .i64 0), .nils], none⟩,
  ⟨none, .store 2 (.t 9) (.t 17), none⟩,
  ⟨none, .store 2 (.t 10) (.t 21), none⟩]
def c_joineryref12_now_D1 : List O := [
  ⟨(some 43), .faddr 1 (.t 9), none⟩,
  ⟨(some 44), .load false 1 (.t 43), none⟩,
  ⟨(some 45), .mov (.t 11), none⟩,
  ⟨(some 46), .iaddr 2 (.t 44) (.t 45), none⟩,
  ⟨(some 47), .load true 2 (.t 46), none⟩,
  ⟨(some 48), .faddr 1 (.t 10), none⟩,
  ⟨(some 49), .load false 1 (.t 48), none⟩,
  ⟨(some 50), .mov (.t 11), none⟩,
  ⟨(some 51), .iaddr 2 (.t 49) (.t 50), none⟩,
  ⟨(some 52), .load true 2 (.t 51), none⟩,
  ⟨(some 12), .alloc [(.int .i64 0), (.int .i64 0)], none⟩,
  ⟨(some 13), .alloc [(.int .i64 0), (.int .i64 0)], none⟩,
  ⟨none, .store 2 (.t 12) (.t 47), none⟩,
  ⟨none, .store 2 (.t 13) (.t 52), none⟩]
def c_joineryref12_now_D2 : List O := [
  ⟨(some 61), .mov (.t 1), none⟩,
  ⟨(some 62), .faddr 1 (.t 12), none⟩,
  ⟨(some 63), .load false 1 (.t 62), none⟩,
  ⟨(some 64), .iaddr 1 (.t 61) (.t 63), none⟩,
  ⟨(some 65), .load false 1 (.t 64), none⟩,
  ⟨(some 66), .faddr 1 (.t 13), none⟩,
  ⟨(some 67), .load false 1 (.t 66), none⟩,
  ⟨(some 68), .iaddr 1 (.t 65) (.t 67), none⟩,
  ⟨(some 69), .load false 1 (.t 68), none⟩]
def c_joineryref12_now_L3 : C := (.seq (.seq (.ops [
  ⟨(some 36), .mov (.t 11), none⟩,
  ⟨(some 37), .faddr 1 (.t 9), none⟩,
  ⟨(some 38), .load false 1 (.t 37), none⟩,
  ⟨(some 39), .len 0 (.t 38), none⟩,
  ⟨(some 40), .bin .lss (.t 36) (.t 39), none⟩] [0, 1, 9, 10, 11, 40])
 (.cond (.t 40) .skip
 (.exit 0)))
 (.seq (.block 1 (.seq (.opsD c_joineryref12_now_D1 [0, 1, 0, 7, 15, 0, 32, 0, 224, 480, 0, 0, 3103, 8191] [0, 1, 9, 10, 11, 12, 13])
 (.seq (.ops [
  ⟨(some 53), .mov (.t 0), none⟩,
  ⟨(some 54), .load true 2 (.t 12), none⟩,
  ⟨(some 55), .call 22 [(.t 53), (.t 54)], none⟩,
  ⟨(some 56), .mov (.t 55), none⟩,
  ⟨(some 57), .mov (.t 0), (some (56, true))⟩,
  ⟨(some 58), .load true 2 (.t 13), (some (56, true))⟩,
  ⟨(some 59), .call 22 [(.t 57), (.t 58)], (some (56, true))⟩,
  ⟨(some 60), .pick (.t 56) (.t 59) (.k (.bool false)), none⟩] [0, 1, 9, 10, 11, 12, 13, 60])
 (.cond (.t 60) (.seq (.opsD c_joineryref12_now_D2 [0, 0, 2, 7, 15, 0, 32, 127, 255] [0, 1, 9, 10, 11, 69])
 (.cond (.t 69) (.seq (.ops [
  ⟨(some 8), .mov (.k (.bool true)), none⟩] [8])
 .ret)
 .skip))
 (.seq (.ops [
  ⟨(some 70), .load true 2 (.t 12), none⟩,
  ⟨(some 71), .load true 2 (.t 13), none⟩,
  ⟨(some 72), .eq true (.tst [(1, .ti), (1, .ti)]) (.t 70) (.t 71), none⟩] [0, 1, 9, 10, 11, 72])
 (.cond (.t 72) (.seq (.ops [
  ⟨(some 8), .mov (.k (.bool true)), none⟩] [8])
 .ret)
 .skip))))))
 (.ops [
  ⟨(some 41), .mov (.t 11), none⟩,
  ⟨(some 42), .bin .add (.t 41) (.k (.int .i64 1)), none⟩,
  ⟨(some 11), .mov (.t 42), none⟩] [0, 1, 9, 10, 11])))
/-- joinery/joineryref12.now -/
def c_joineryref12_now : F := ⟨true, 4, (.seq (.ops [
  ⟨(some 8), .mov (.k (.bool false)), none⟩] [0, 1, 2, 3])
 (.seq (.opsD c_joineryref12_now_D0 [0, 0, 3, 7, 0, 0, 48, 112, 0, 0, 783, 2047] [0, 1, 9, 10])
 (.seq (.seq (.ops [
  ⟨(some 22), .faddr 0 (.t 9), none⟩,
  ⟨(some 23), .load false 1 (.t 22), none⟩,
  ⟨(some 24), .faddr 0 (.t 10), none⟩,
  ⟨(some 25), .load false 1 (.t 24), none⟩,
  ⟨(some 26), .bin .neq (.t 23) (.t 25), none⟩,
  ⟨(some 27), .mov (.t 26), none⟩,
  ⟨(some 28), .faddr 1 (.t 9), (some (27, false))⟩,
  ⟨(some 29), .load false 1 (.t 28), (some (27, false))⟩,
  ⟨(some 30), .len 0 (.t 29), (some (27, false))⟩,
  ⟨(some 31), .faddr 1 (.t 10), (some (27, false))⟩,
  ⟨(some 32), .load false 1 (.t 31), (some (27, false))⟩,
  ⟨(some 33), .len 0 (.t 32), (some (27, false))⟩,
  ⟨(some 34), .bin .neq (.t 30) (.t 33), (some (27, false))⟩,
  ⟨(some 35), .pick (.t 27) (.k (.bool true)) (.t 34), none⟩] [0, 1, 9, 10, 35])
 (.cond (.t 35) (.seq (.ops [
  ⟨(some 8), .mov (.k (.bool true)), none⟩] [8])
 .ret)
 .skip))
 (.seq (.seq (.ops [
  ⟨(some 11), .mov (.k (.int .i64 0)), none⟩] [0, 1, 9, 10, 11])
 (.block 0 (.loop c_joineryref12_now_L3)))
 (.seq (.ops [
  ⟨(some 8), .mov (.k (.bool false)), none⟩] [8])
 .ret))))), [.tmp 8]⟩
abbrev n_joineryref12_now : Nat := 18
/-- (joinery/refine.numbers[joinery/refine.start]).of -/
def c_refine_start_of : F := ⟨false, 2, (.seq (.ops [
  ⟨(some 3), .box (.t 1), none⟩,
  ⟨(some 4), .mov (.k (.int .i64 0)), none⟩] [0, 3])
 (.seq (.ops [
  ⟨(some 8), .mov (.t 0), none⟩,
  ⟨(some 9), .load true 3 (.t 3), none⟩,
  ⟨(some 10), .lookup true (.tst [(1, .ti), (1, .ti), (1, .ti)]) (.int .i64 0) (.t 8) (.t 9), none⟩,
  ⟨(some 7), .mov (.t 10), none⟩,
  ⟨(some 11), .extract (.t 7) 0, none⟩,
  ⟨(some 12), .extract (.t 7) 1, none⟩,
  ⟨(some 5), .mov (.t 11), none⟩,
  ⟨(some 6), .mov (.t 12), none⟩] [0, 3, 5, 6])
 (.seq (.seq (.ops [
  ⟨(some 13), .mov (.t 6), none⟩,
  ⟨(some 14), .un .not (.t 13), none⟩] [0, 3, 5, 14])
 (.cond (.t 14) (.seq (.ops [
  ⟨(some 15), .mov (.t 0), none⟩,
  ⟨(some 16), .len 2 (.t 15), none⟩,
  ⟨(some 5), .mov (.t 16), none⟩] [0, 3, 5])
 (.ops [
  ⟨(some 17), .mov (.t 0), none⟩,
  ⟨(some 18), .load true 3 (.t 3), none⟩,
  ⟨(some 19), .mov (.t 5), none⟩,
  ⟨none, .mapset (.tst [(1, .ti), (1, .ti), (1, .ti)]) (.t 17) (.t 18) (.t 19), none⟩] [5]))
 .skip))
 (.seq (.ops [
  ⟨(some 20), .mov (.t 5), none⟩,
  ⟨(some 4), .mov (.t 20), none⟩] [4])
 .ret)))), [.tmp 4]⟩
abbrev n_refine_start_of : Nat := 19
/-- (joinery/refine.numbers[joinery/refine.link]).of -/
def c_refine_link_of : F := ⟨false, 2, (.seq (.ops [
  ⟨(some 3), .box (.t 1), none⟩,
  ⟨(some 4), .mov (.k (.int .i64 0)), none⟩] [0, 3])
 (.seq (.ops [
  ⟨(some 8), .mov (.t 0), none⟩,
  ⟨(some 9), .load true 4 (.t 3), none⟩,
  ⟨(some 10), .lookup true (.tst [(1, .ti), (2, (.tst [(1, .ti), (1, .ti)])), (1, .tb)]) (.int .i64 0) (.t 8) (.t 9), none⟩,
  ⟨(some 7), .mov (.t 10), none⟩,
  ⟨(some 11), .extract (.t 7) 0, none⟩,
  ⟨(some 12), .extract (.t 7) 1, none⟩,
  ⟨(some 5), .mov (.t 11), none⟩,
  ⟨(some 6), .mov (.t 12), none⟩] [0, 3, 5, 6])
 (.seq (.seq (.ops [
  ⟨(some 13), .mov (.t 6), none⟩,
  ⟨(some 14), .un .not (.t 13), none⟩] [0, 3, 5, 14])
 (.cond (.t 14) (.seq (.ops [
  ⟨(some 15), .mov (.t 0), none⟩,
  ⟨(some 16), .len 2 (.t 15), none⟩,
  ⟨(some 5), .mov (.t 16), none⟩] [0, 3, 5])
 (.ops [
  ⟨(some 17), .mov (.t 0), none⟩,
  ⟨(some 18), .load true 4 (.t 3), none⟩,
  ⟨(some 19), .mov (.t 5), none⟩,
  ⟨none, .mapset (.tst [(1, .ti), (2, (.tst [(1, .ti), (1, .ti)])), (1, .tb)]) (.t 17) (.t 18) (.t 19), none⟩] [5]))
 .skip))
 (.seq (.ops [
  ⟨(some 20), .mov (.t 5), none⟩,
  ⟨(some 4), .mov (.t 20), none⟩] [4])
 .ret)))), [.tmp 4]⟩
abbrev n_refine_link_of : Nat := 20
/-- (joinery/refine.numbers[[2]int]).of -/
def c_refine_numbers_2_int_of : F := ⟨false, 2, (.seq (.ops [
  ⟨(some 3), .box (.t 1), none⟩,
  ⟨(some 4), .mov (.k (.int .i64 0)), none⟩] [0, 3])
 (.seq (.ops [
  ⟨(some 8), .mov (.t 0), none⟩,
  ⟨(some 9), .load true 2 (.t 3), none⟩,
  ⟨(some 10), .lookup true (.tarr 2 1 .ti) (.int .i64 0) (.t 8) (.t 9), none⟩,
  ⟨(some 7), .mov (.t 10), none⟩,
  ⟨(some 11), .extract (.t 7) 0, none⟩,
  ⟨(some 12), .extract (.t 7) 1, none⟩,
  ⟨(some 5), .mov (.t 11), none⟩,
  ⟨(some 6), .mov (.t 12), none⟩] [0, 3, 5, 6])
 (.seq (.seq (.ops [
  ⟨(some 13), .mov (.t 6), none⟩,
  ⟨(some 14), .un .not (.t 13), none⟩] [0, 3, 5, 14])
 (.cond (.t 14) (.seq (.ops [
  ⟨(some 15), .mov (.t 0), none⟩,
  ⟨(some 16), .len 2 (.t 15), none⟩,
  ⟨(some 5), .mov (.t 16), none⟩] [0, 3, 5])
 (.ops [
  ⟨(some 17), .mov (.t 0), none⟩,
  ⟨(some 18), .load true 2 (.t 3), none⟩,
  ⟨(some 19), .mov (.t 5), none⟩,
  ⟨none, .mapset (.tarr 2 1 .ti) (.t 17) (.t 18) (.t 19), none⟩] [5]))
 .skip))
 (.seq (.ops [
  ⟨(some 20), .mov (.t 5), none⟩,
  ⟨(some 4), .mov (.t 20), none⟩] [4])
 .ret)))), [.tmp 4]⟩
abbrev n_refine_numbers_2_int_of : Nat := 21
/-- joinery/joineryref12.thing -/
def c_joineryref12_thing : F := ⟨true, 2, (.seq (.ops [
  ⟨(some 3), .box (.t 1), none⟩,
  ⟨(some 4), .mov (.k (.bool false)), none⟩] [0, 3])
 (.seq (.ops [
  ⟨(some 5), .faddr 0 (.t 3), none⟩,
  ⟨(some 6), .load false 1 (.t 5), none⟩,
  ⟨(some 7), .bin .eql (.t 6) (.k (.int .i64 0)), none⟩,
  ⟨(some 8), .mov (.t 7), none⟩,
  ⟨(some 9), .faddr 1 (.t 3), (some (8, true))⟩,
  ⟨(some 10), .load false 1 (.t 9), (some (8, true))⟩,
  ⟨(some 11), .bin .geq (.t 10) (.k (.int .i64 0)), (some (8, true))⟩,
  ⟨(some 12), .pick (.t 8) (.t 11) (.k (.bool false)), none⟩,
  ⟨(some 13), .mov (.t 12), none⟩,
  ⟨(some 14), .faddr 1 (.t 3), (some (13, true))⟩,
  ⟨(some 15), .load false 1 (.t 14), (some (13, true))⟩,
  ⟨(some 16), .mov (.t 0), (some (13, true))⟩,
  ⟨(some 17), .len 0 (.t 16), (some (13, true))⟩,
  ⟨(some 18), .bin .lss (.t 15) (.t 17), (some (13, true))⟩,
  ⟨(some 19), .pick (.t 13) (.t 18) (.k (.bool false)), none⟩,
  ⟨(some 4), .mov (.t 19), none⟩] [4])
 .ret)), [.tmp 4]⟩
abbrev n_joineryref12_thing : Nat := 22

def T : Nat → Option F
  | 3 => some c_joinerylaw12_RefineClasses
  | 4 => some c_joinerylaw12_RefineApart
  | 5 => some c_joinerylaw12_RefineFewest
  | 6 => some c_joinerylaw12_RefineOrders
  | 7 => some c_joinerylaw12_RefineLike
  | 8 => some c_joinerylaw12_RefineTwice
  | 9 => some c_joinerylaw12_great
  | 10 => some c_joinerylaw12_knows
  | 11 => some c_refine_Classes
  | 12 => some c_joineryref12_Classes
  | 13 => some c_joinerylaw12_as
  | 14 => some c_refine_Apart
  | 15 => some c_joineryref12_Table
  | 16 => some c_joinerylaw12_stands
  | 17 => some c_refine_round
  | 18 => some c_joineryref12_now
  | 19 => some c_refine_start_of
  | 20 => some c_refine_link_of
  | 21 => some c_refine_numbers_2_int_of
  | 22 => some c_joineryref12_thing
  | _ => none

end Go.Proofs.Ytaefnggoempdlaa.M2

/- M2's code is what the program compiles to. Printed by wip/gen. -/
namespace Go.Proofs.Ytaefnggoempdlaa.M2
open Go

noncomputable def E0 : En := ⟨Try.prog, [], []⟩
def h_joinerylaw12_RefineClasses : List (Nat × RH) := [(0, ⟨[0], []⟩), (1, ⟨[0, 7], []⟩), (2, ⟨[2], []⟩), (3, ⟨[3, 4], []⟩), (4, ⟨[3, 4, 18], []⟩), (5, ⟨[2], []⟩), (6, ⟨[3, 4, 5], []⟩), (7, ⟨[3, 4, 5, 22], []⟩), (9, ⟨[3, 4, 5, 33], []⟩), (10, ⟨[2], []⟩), (8, ⟨[3, 4, 5], []⟩), (11, ⟨[2], []⟩)]
def h_joinerylaw12_RefineApart : List (Nat × RH) := [(0, ⟨[0, 1, 2], []⟩), (1, ⟨[0, 1, 2, 9], []⟩), (2, ⟨[6], []⟩), (3, ⟨[0, 1, 2, 7], []⟩), (4, ⟨[0, 1, 2, 7, 32], []⟩), (5, ⟨[6], []⟩), (6, ⟨[6], []⟩)]
def h_joinerylaw12_RefineFewest : List (Nat × RH) := [(0, ⟨[0, 1], []⟩), (1, ⟨[0, 1, 9], []⟩), (2, ⟨[4], []⟩), (3, ⟨[0, 1, 5], []⟩), (4, ⟨[0, 1, 5, 23], []⟩), (5, ⟨[4], []⟩), (6, ⟨[0, 1, 5, 34], []⟩), (7, ⟨[4], []⟩), (8, ⟨[0, 1, 5, 6], []⟩), (9, ⟨[0, 1, 5, 6, 39], []⟩), (11, ⟨[0, 1, 5, 6, 7], []⟩), (12, ⟨[0, 1, 5, 6, 7, 44], []⟩), (14, ⟨[0, 1, 5, 6, 7, 66], []⟩), (15, ⟨[4], []⟩), (13, ⟨[0, 1, 5, 6, 7], []⟩), (10, ⟨[0, 1, 5, 6], []⟩), (16, ⟨[4], []⟩)]
def h_joinerylaw12_RefineOrders : List (Nat × RH) := [(0, ⟨[0, 1, 2, 3], []⟩), (1, ⟨[0, 1, 2, 3, 13], []⟩), (2, ⟨[8], []⟩), (3, ⟨[0, 1, 2, 9, 10, 11], []⟩), (4, ⟨[9, 10, 11, 38], []⟩), (5, ⟨[8], []⟩), (6, ⟨[8], []⟩)]
def h_joinerylaw12_RefineLike : List (Nat × RH) := [(0, ⟨[0, 1, 2], []⟩), (1, ⟨[0, 1, 2, 58], []⟩), (2, ⟨[6], []⟩), (3, ⟨[0, 1, 2, 7], []⟩), (4, ⟨[0, 1, 2, 7, 67], []⟩), (6, ⟨[0, 1, 2, 7, 86], []⟩), (7, ⟨[6], []⟩), (5, ⟨[0, 1, 2, 7], []⟩), (8, ⟨[0, 1, 2, 8], []⟩), (9, ⟨[6], []⟩)]
def h_joinerylaw12_RefineTwice : List (Nat × RH) := [(0, ⟨[0], []⟩), (1, ⟨[0, 19], []⟩), (2, ⟨[2], []⟩), (3, ⟨[0, 3], []⟩), (4, ⟨[0, 3, 4], [(0, ⟨false, (some (38, 2, false)), []⟩)]⟩), (5, ⟨[0, 3, 4, 5], []⟩), (6, ⟨[0, 3, 4, 5, 24], []⟩), (8, ⟨[0, 3, 4, 5, 6], []⟩), (9, ⟨[0, 3, 4, 5, 6, 30], []⟩), (11, ⟨[0, 3, 4, 5, 6, 7], []⟩), (12, ⟨[0, 3, 4, 5, 6, 7, 8], []⟩), (13, ⟨[0, 3, 4, 5, 6, 7, 8, 46], []⟩), (15, ⟨[0, 3, 4, 5, 6, 7, 8, 9], []⟩), (16, ⟨[0, 3, 4, 5, 6, 7, 8, 9, 70], []⟩), (17, ⟨[2], []⟩), (18, ⟨[0, 3, 4, 5, 6, 7, 8, 9, 74], []⟩), (19, ⟨[0, 3, 4, 5, 6, 7, 8, 9], []⟩), (20, ⟨[0, 3, 4, 5, 6, 7, 8], []⟩), (14, ⟨[0, 3, 4, 5, 6, 7, 8], []⟩), (21, ⟨[0, 3, 4, 5, 6], []⟩), (10, ⟨[0, 3, 4, 5, 6], []⟩), (7, ⟨[0, 3, 4, 5], []⟩), (22, ⟨[0, 4, 10, 11], []⟩), (23, ⟨[0, 10, 11, 107], []⟩), (24, ⟨[2], []⟩), (25, ⟨[0, 10, 11, 12], []⟩), (26, ⟨[0, 10, 11, 12, 111], []⟩), (28, ⟨[0, 10, 11, 12, 136], []⟩), (29, ⟨[2], []⟩), (27, ⟨[0, 10, 11, 12], []⟩), (30, ⟨[2], []⟩)]
def h_joinerylaw12_great : List (Nat × RH) := [(0, ⟨[0], []⟩), (1, ⟨[0, 3], []⟩), (2, ⟨[0, 3, 7], []⟩), (4, ⟨[0, 3, 16], []⟩), (5, ⟨[2], []⟩), (3, ⟨[0, 3], []⟩), (6, ⟨[2], []⟩)]
def h_joinerylaw12_knows : List (Nat × RH) := [(0, ⟨[], []⟩), (1, ⟨[1], []⟩), (2, ⟨[1, 2], []⟩), (3, ⟨[0], []⟩)]
def h_refine_Classes : List (Nat × RH) := [(0, ⟨[0], []⟩), (1, ⟨[0, 3], []⟩), (2, ⟨[0, 3, 4], []⟩), (3, ⟨[0, 4, 5, 6], []⟩), (4, ⟨[0, 3, 4, 6], []⟩), (5, ⟨[0, 3, 6, 19], []⟩), (6, ⟨[2], []⟩), (7, ⟨[0, 3, 4], []⟩)]
def h_joineryref12_Classes : List (Nat × RH) := [(0, ⟨[0], []⟩), (1, ⟨[0, 3], []⟩), (2, ⟨[0, 3, 4], [(0, ⟨false, (some (3, 1, false)), []⟩)]⟩), (3, ⟨[0, 3, 4, 5], []⟩), (4, ⟨[0, 3, 4, 5, 6], []⟩), (5, ⟨[0, 3, 4, 5, 6, 14], []⟩), (7, ⟨[0, 3, 4, 5, 6, 7], []⟩), (8, ⟨[0, 3, 4, 5, 6, 7, 8], []⟩), (9, ⟨[0, 3, 4, 5, 6, 7, 8, 21], []⟩), (11, ⟨[0, 3, 4, 5, 6, 7, 8, 31], []⟩), (12, ⟨[0, 3, 4, 5, 6, 7, 8], []⟩), (10, ⟨[0, 3, 4, 5, 6, 7, 8], []⟩), (13, ⟨[0, 3, 4, 5, 6, 7, 38], []⟩), (14, ⟨[0, 3, 4, 5, 6, 7], []⟩), (15, ⟨[0, 3, 4, 5, 6], []⟩), (6, ⟨[0, 3, 4, 5, 6], []⟩), (16, ⟨[2], []⟩)]
def h_joinerylaw12_as : List (Nat × RH) := [(0, ⟨[0], []⟩), (1, ⟨[0, 3], [(0, ⟨false, (some (45, 2, false)), []⟩)]⟩), (2, ⟨[0, 3, 4], []⟩), (3, ⟨[0, 3, 4, 10], []⟩), (5, ⟨[0, 3, 4, 5], []⟩), (6, ⟨[0, 3, 4, 5, 6], []⟩), (7, ⟨[0, 3, 4, 5, 6, 26], []⟩), (9, ⟨[0, 3, 4, 5, 6], []⟩), (8, ⟨[0, 3, 4, 5, 6], []⟩), (10, ⟨[0, 3, 4], []⟩), (4, ⟨[0, 3, 4], []⟩), (11, ⟨[2], []⟩)]
def h_refine_Apart : List (Nat × RH) := [(0, ⟨[0, 1, 2], []⟩), (1, ⟨[0, 1, 2, 8], []⟩), (2, ⟨[6], []⟩), (3, ⟨[0, 1, 2, 12], []⟩), (4, ⟨[6], []⟩), (5, ⟨[1, 2, 7], []⟩), (6, ⟨[6], []⟩)]
def h_joineryref12_Table : List (Nat × RH) := [(0, ⟨[0], []⟩), (1, ⟨[0, 3], [(0, ⟨true, (some (31, 1, true)), []⟩)]⟩), (2, ⟨[0, 3, 4], []⟩), (3, ⟨[0, 3, 4, 11], []⟩), (5, ⟨[0, 3, 4], [(4, ⟨true, none, []⟩)]⟩), (4, ⟨[0, 3, 4], []⟩), (6, ⟨[0, 3, 5], []⟩), (7, ⟨[0, 3, 20], []⟩), (8, ⟨[0, 3, 5], []⟩), (9, ⟨[0, 3, 5, 6], []⟩), (10, ⟨[0, 3, 5, 6, 24], []⟩), (12, ⟨[0, 3, 5, 6, 7], []⟩), (13, ⟨[0, 3, 5, 6, 7, 30], []⟩), (15, ⟨[0, 3, 5, 6, 7, 47], []⟩), (16, ⟨[0, 3, 6, 7], []⟩), (17, ⟨[0, 3, 5, 6, 7], []⟩), (14, ⟨[0, 3, 5, 6, 7], []⟩), (11, ⟨[0, 3, 5, 6], []⟩), (18, ⟨[2], []⟩)]
def h_joinerylaw12_stands : List (Nat × RH) := [(0, ⟨[0, 1], []⟩), (1, ⟨[0, 1, 5], []⟩), (2, ⟨[0, 1, 5, 15], []⟩), (4, ⟨[0, 1, 5, 6], []⟩), (5, ⟨[0, 1, 5, 6, 20], []⟩), (7, ⟨[0, 1, 5, 6, 31], []⟩), (8, ⟨[0, 1, 5, 6, 57], []⟩), (9, ⟨[4], []⟩), (10, ⟨[0, 1, 5, 6, 7], []⟩), (11, ⟨[0, 1, 5, 6, 7, 65], []⟩), (13, ⟨[0, 1, 5, 6, 7, 8, 9], []⟩), (14, ⟨[0, 1, 5, 6, 7, 8, 9, 10], []⟩), (15, ⟨[0, 1, 5, 6, 7, 8, 9, 10, 11], []⟩), (16, ⟨[0, 1, 5, 6, 7, 141], []⟩), (17, ⟨[4], []⟩), (12, ⟨[0, 1, 5, 6, 7], []⟩), (6, ⟨[0, 1, 5, 6], []⟩), (3, ⟨[0, 1, 5], []⟩), (18, ⟨[4], []⟩)]
def h_refine_round : List (Nat × RH) := [(0, ⟨[0, 1], []⟩), (1, ⟨[0, 1, 6, 7, 8], []⟩), (2, ⟨[0, 1, 6, 7, 8, 9], []⟩), (3, ⟨[0, 1, 6, 7, 8, 9, 23, 24, 25], []⟩), (4, ⟨[0, 1, 6, 7, 8, 9, 23, 24, 25, 26], []⟩), (5, ⟨[0, 1, 6, 7, 8, 9, 10, 11, 23, 24, 25], []⟩), (6, ⟨[0, 1, 6, 7, 8, 9, 10, 11, 12, 23, 24, 25], []⟩), (7, ⟨[0, 1, 6, 7, 8, 9, 10, 11, 12, 13, 23, 24, 25], []⟩), (8, ⟨[0, 1, 6, 7, 8, 9, 10, 12, 13, 23, 24, 25, 45, 46, 47], []⟩), (9, ⟨[0, 1, 6, 7, 8, 9, 10, 12, 13, 23, 24, 25, 45, 46, 47, 48], []⟩), (10, ⟨[0, 1, 6, 7, 8, 9, 10, 12, 13, 15, 23, 24, 25, 45, 46, 47], []⟩), (11, ⟨[0, 1, 6, 7, 8, 9, 10, 12, 15, 16, 23, 24, 25, 45, 46, 47], []⟩), (12, ⟨[0, 1, 6, 7, 8, 9, 10, 12, 15, 16, 23, 24, 25, 45, 46, 47, 68], []⟩), (13, ⟨[0, 1, 6, 7, 8, 9, 10, 12, 16, 23, 24, 25, 45, 46, 47], []⟩), (14, ⟨[0, 1, 6, 7, 8, 9, 10, 12, 13, 23, 24, 25, 45, 46, 47], []⟩), (15, ⟨[0, 1, 6, 7, 8, 9, 10, 12, 13, 23, 24, 25, 45, 46, 47], []⟩), (16, ⟨[0, 1, 6, 7, 8, 9, 23, 24, 25], []⟩), (17, ⟨[0, 1, 6, 7, 8, 9, 23, 24, 25], []⟩), (18, ⟨[4, 5], []⟩)]
def h_joineryref12_now : List (Nat × RH) := [(0, ⟨[0, 1, 2, 3], []⟩), (1, ⟨[0, 1, 9, 10], []⟩), (2, ⟨[0, 1, 9, 10, 35], []⟩), (3, ⟨[8], []⟩), (4, ⟨[0, 1, 9, 10, 11], []⟩), (5, ⟨[0, 1, 9, 10, 11, 40], []⟩), (7, ⟨[0, 1, 9, 10, 11, 12, 13], []⟩), (8, ⟨[0, 1, 9, 10, 11, 12, 13, 60], []⟩), (9, ⟨[0, 1, 9, 10, 11, 69], []⟩), (10, ⟨[8], []⟩), (11, ⟨[0, 1, 9, 10, 11, 72], []⟩), (12, ⟨[8], []⟩), (6, ⟨[0, 1, 9, 10, 11], []⟩), (13, ⟨[8], []⟩)]
def h_refine_start_of : List (Nat × RH) := [(0, ⟨[0, 3], []⟩), (1, ⟨[0, 3, 5, 6], []⟩), (2, ⟨[0, 3, 5, 14], []⟩), (3, ⟨[0, 3, 5], []⟩), (4, ⟨[5], []⟩), (5, ⟨[4], []⟩)]
def h_refine_link_of : List (Nat × RH) := [(0, ⟨[0, 3], []⟩), (1, ⟨[0, 3, 5, 6], []⟩), (2, ⟨[0, 3, 5, 14], []⟩), (3, ⟨[0, 3, 5], []⟩), (4, ⟨[5], []⟩), (5, ⟨[4], []⟩)]
def h_refine_numbers_2_int_of : List (Nat × RH) := [(0, ⟨[0, 3], []⟩), (1, ⟨[0, 3, 5, 6], []⟩), (2, ⟨[0, 3, 5, 14], []⟩), (3, ⟨[0, 3, 5], []⟩), (4, ⟨[5], []⟩), (5, ⟨[4], []⟩)]
def h_joineryref12_thing : List (Nat × RH) := [(0, ⟨[0, 3], []⟩), (1, ⟨[4], []⟩)]

theorem k_joinerylaw12_RefineClasses : compF E0 true h_joinerylaw12_RefineClasses Try.f3 = some c_joinerylaw12_RefineClasses := by kernel_rfl
theorem n_ok_joinerylaw12_RefineClasses : (Try.f3.name == "runtime.NumGoroutine") = false := by kernel_rfl
theorem k_joinerylaw12_RefineApart : compF E0 true h_joinerylaw12_RefineApart Try.f4 = some c_joinerylaw12_RefineApart := by kernel_rfl
theorem n_ok_joinerylaw12_RefineApart : (Try.f4.name == "runtime.NumGoroutine") = false := by kernel_rfl
theorem k_joinerylaw12_RefineFewest : compF E0 true h_joinerylaw12_RefineFewest Try.f5 = some c_joinerylaw12_RefineFewest := by kernel_rfl
theorem n_ok_joinerylaw12_RefineFewest : (Try.f5.name == "runtime.NumGoroutine") = false := by kernel_rfl
theorem k_joinerylaw12_RefineOrders : compF E0 true h_joinerylaw12_RefineOrders Try.f6 = some c_joinerylaw12_RefineOrders := by kernel_rfl
theorem n_ok_joinerylaw12_RefineOrders : (Try.f6.name == "runtime.NumGoroutine") = false := by kernel_rfl
theorem k_joinerylaw12_RefineLike : compF E0 true h_joinerylaw12_RefineLike Try.f7 = some c_joinerylaw12_RefineLike := by kernel_rfl
theorem n_ok_joinerylaw12_RefineLike : (Try.f7.name == "runtime.NumGoroutine") = false := by kernel_rfl
theorem k_joinerylaw12_RefineTwice : compF E0 true h_joinerylaw12_RefineTwice Try.f8 = some c_joinerylaw12_RefineTwice := by kernel_rfl
theorem n_ok_joinerylaw12_RefineTwice : (Try.f8.name == "runtime.NumGoroutine") = false := by kernel_rfl
theorem k_joinerylaw12_great : compF E0 true h_joinerylaw12_great Try.f9 = some c_joinerylaw12_great := by kernel_rfl
theorem n_ok_joinerylaw12_great : (Try.f9.name == "runtime.NumGoroutine") = false := by kernel_rfl
theorem k_joinerylaw12_knows : compF E0 true h_joinerylaw12_knows Try.f10 = some c_joinerylaw12_knows := by kernel_rfl
theorem n_ok_joinerylaw12_knows : (Try.f10.name == "runtime.NumGoroutine") = false := by kernel_rfl
theorem k_refine_Classes : compF E0 true h_refine_Classes Try.f11 = some c_refine_Classes := by kernel_rfl
theorem n_ok_refine_Classes : (Try.f11.name == "runtime.NumGoroutine") = false := by kernel_rfl
theorem k_joineryref12_Classes : compF E0 true h_joineryref12_Classes Try.f12 = some c_joineryref12_Classes := by kernel_rfl
theorem n_ok_joineryref12_Classes : (Try.f12.name == "runtime.NumGoroutine") = false := by kernel_rfl
theorem k_joinerylaw12_as : compF E0 true h_joinerylaw12_as Try.f13 = some c_joinerylaw12_as := by kernel_rfl
theorem n_ok_joinerylaw12_as : (Try.f13.name == "runtime.NumGoroutine") = false := by kernel_rfl
theorem k_refine_Apart : compF E0 true h_refine_Apart Try.f14 = some c_refine_Apart := by kernel_rfl
theorem n_ok_refine_Apart : (Try.f14.name == "runtime.NumGoroutine") = false := by kernel_rfl
theorem k_joineryref12_Table : compF E0 true h_joineryref12_Table Try.f15 = some c_joineryref12_Table := by kernel_rfl
theorem n_ok_joineryref12_Table : (Try.f15.name == "runtime.NumGoroutine") = false := by kernel_rfl
theorem k_joinerylaw12_stands : compF E0 true h_joinerylaw12_stands Try.f16 = some c_joinerylaw12_stands := by kernel_rfl
theorem n_ok_joinerylaw12_stands : (Try.f16.name == "runtime.NumGoroutine") = false := by kernel_rfl
theorem k_refine_round : compF E0 true h_refine_round Try.f17 = some c_refine_round := by kernel_rfl
theorem n_ok_refine_round : (Try.f17.name == "runtime.NumGoroutine") = false := by kernel_rfl
theorem k_joineryref12_now : compF E0 true h_joineryref12_now Try.f18 = some c_joineryref12_now := by kernel_rfl
theorem n_ok_joineryref12_now : (Try.f18.name == "runtime.NumGoroutine") = false := by kernel_rfl
theorem k_refine_start_of : compF E0 false h_refine_start_of Try.f19 = some c_refine_start_of := by kernel_rfl
theorem n_ok_refine_start_of : (Try.f19.name == "runtime.NumGoroutine") = false := by kernel_rfl
theorem k_refine_link_of : compF E0 false h_refine_link_of Try.f20 = some c_refine_link_of := by kernel_rfl
theorem n_ok_refine_link_of : (Try.f20.name == "runtime.NumGoroutine") = false := by kernel_rfl
theorem k_refine_numbers_2_int_of : compF E0 false h_refine_numbers_2_int_of Try.f21 = some c_refine_numbers_2_int_of := by kernel_rfl
theorem n_ok_refine_numbers_2_int_of : (Try.f21.name == "runtime.NumGoroutine") = false := by kernel_rfl
theorem k_joineryref12_thing : compF E0 true h_joineryref12_thing Try.f22 = some c_joineryref12_thing := by kernel_rfl
theorem n_ok_joineryref12_thing : (Try.f22.name == "runtime.NumGoroutine") = false := by kernel_rfl
theorem tabOK : TabOK E0 T := by
  intro f fn h
  unfold T at h
  split at h
  · cases h; exact ⟨_, _, Try.func3, k_joinerylaw12_RefineClasses, n_ok_joinerylaw12_RefineClasses⟩
  · cases h; exact ⟨_, _, Try.func4, k_joinerylaw12_RefineApart, n_ok_joinerylaw12_RefineApart⟩
  · cases h; exact ⟨_, _, Try.func5, k_joinerylaw12_RefineFewest, n_ok_joinerylaw12_RefineFewest⟩
  · cases h; exact ⟨_, _, Try.func6, k_joinerylaw12_RefineOrders, n_ok_joinerylaw12_RefineOrders⟩
  · cases h; exact ⟨_, _, Try.func7, k_joinerylaw12_RefineLike, n_ok_joinerylaw12_RefineLike⟩
  · cases h; exact ⟨_, _, Try.func8, k_joinerylaw12_RefineTwice, n_ok_joinerylaw12_RefineTwice⟩
  · cases h; exact ⟨_, _, Try.func9, k_joinerylaw12_great, n_ok_joinerylaw12_great⟩
  · cases h; exact ⟨_, _, Try.func10, k_joinerylaw12_knows, n_ok_joinerylaw12_knows⟩
  · cases h; exact ⟨_, _, Try.func11, k_refine_Classes, n_ok_refine_Classes⟩
  · cases h; exact ⟨_, _, Try.func12, k_joineryref12_Classes, n_ok_joineryref12_Classes⟩
  · cases h; exact ⟨_, _, Try.func13, k_joinerylaw12_as, n_ok_joinerylaw12_as⟩
  · cases h; exact ⟨_, _, Try.func14, k_refine_Apart, n_ok_refine_Apart⟩
  · cases h; exact ⟨_, _, Try.func15, k_joineryref12_Table, n_ok_joineryref12_Table⟩
  · cases h; exact ⟨_, _, Try.func16, k_joinerylaw12_stands, n_ok_joinerylaw12_stands⟩
  · cases h; exact ⟨_, _, Try.func17, k_refine_round, n_ok_refine_round⟩
  · cases h; exact ⟨_, _, Try.func18, k_joineryref12_now, n_ok_joineryref12_now⟩
  · cases h; exact ⟨_, _, Try.func19, k_refine_start_of, n_ok_refine_start_of⟩
  · cases h; exact ⟨_, _, Try.func20, k_refine_link_of, n_ok_refine_link_of⟩
  · cases h; exact ⟨_, _, Try.func21, k_refine_numbers_2_int_of, n_ok_refine_numbers_2_int_of⟩
  · cases h; exact ⟨_, _, Try.func22, k_joineryref12_thing, n_ok_joineryref12_thing⟩
  · cases h

end Go.Proofs.Ytaefnggoempdlaa.M2

/- From M2's law to the row: what all six share. -/
namespace Go.Proofs.Ytaefnggoempdlaa.M2
open Go Go.ChangeShapes Go.WideShapes Go.ChangeAt Go.RowKit

theorem own0 : ownKnob Try.prog.godebug = none := by kernel_rfl
theorem laidOut0 : laidOutB Try.prog = true := by kernel_rfl
theorem glob0 (W : World) : GlobOK E0 (g0 W) := fun n cs h => by simp [E0] at h
/-- What M2 must say of a law. -/
def Law (f : Nat) (ts : List TypeId) : Prop := ∀ us, us.length = ts.length → (∀ (j : Nat) t u, ts[j]? = some t → us[j]? = some u → Typed Try.prog 8 t [u]) → ∃ n, M2.call T n f us [] = some (.bool true, [])
theorem lifted {f : Nat} {fn : Func} {s : ChangeSpec} {tb : TypeId} (law : Law f fn.params.toList) (os : Go.Os) (started : os.Started) {H : Type} (enc : TypeId × Value → H)
    (hinit : Try.prog.inits.idxOf? f = none) (hfn : Try.prog.funcs[f]? = some fn) (hvars : s.vars = []) (hps : fn.params.toList.all (fun t => paramT Try.prog 8 t && Try.prog.readableRec t && decide (t < Try.prog.types.size)) = true)
    (hr : fn.resultTypes = #[tb]) (htb : Try.prog.underlying tb = some .bool) (hs : ∀ ds : List (DataW H), ds.length = fn.params.toList.length → s.fn H ds = { results := [.lit (.bool true)], args := ds })
    (witness : ∃ (w : World) (tape : Tape) (i : Input), w.os = os ∧ (w.forCall tape i).Shaped Try.checked.prog ∧ i.vars = [] ∧ Input.okWide Try.checked.prog (w.forCall tape i) .any w.heap.size f i ∧
      s.pre6 enc Try.checked.prog fn [] false (w.forCall tape i).memory i.args ∧ ({} : Assume).holds Try.checked.prog (lone (Frame.enter Try.checked.prog f i.args .normal) [] (w.forCall tape i))) :
    ReturnsInHanded {} Try.checked os f .any (s.pre6 enc Try.prog fn [] false) (s.post enc Try.prog fn false true false false) := by
  refine returnsInHanded_of_change (C := Try.checked) own0 started hinit hfn witness ?_
  intro W base args ds gs before hval hW _ _
  have hps' : ∀ t ∈ fn.params.toList, (paramT Try.prog 8 t = true ∧ Try.prog.readableRec t = true) ∧ t < Try.prog.types.size := by
    intro t ht
    have := List.all_eq_true.1 hps t ht
    simpa using this
  have hW' := hW
  obtain ⟨p, q, hA, hV, rfl, _, _⟩ := hW
  rw [hvars] at hV
  obtain ⟨rfl, rfl⟩ := trodVars_none hV
  have hlen : ∀ (ts : List TypeId) (vs : List Value) (ds : List (DataW H)) (ps : List MemPlace), DataW.TrodAll enc Try.prog W 0 (fun _ => true) true ts vs ds ps → ds.length = ts.length := by
    intro ts
    induction ts with
    | nil => intro vs ds ps h; cases vs <;> cases ds <;> first | rfl | exact h.elim
    | cons t ts ih =>
      intro vs ds ps h
      cases vs with
      | nil => exact h.elim
      | cons v vs => cases ds with
        | nil => exact h.elim
        | cons d ds => obtain ⟨_, _, _, h2, _⟩ := h; simp [ih _ _ _ h2]
  have hc := law_calls (E := E0) tabOK (f := f) (d := 8) (W := W) (base := base) (ts := fn.params.toList) (args := args) (glob0 W) (fun t ht => (hps' t ht).1.1)
    (fun j t v ht hv => hval j t v (by simpa using ht) hv) hA law
  refine hc.mono fun e W' ⟨he, hb⟩ => ?_
  subst he
  exact ⟨_, rfl, post_below laidOut0 hvars (fun t ht => ⟨(hps' t ht).1.2, (hps' t ht).2⟩) hW' hb hr htb (by rw [List.append_nil]; exact hs ds (hlen _ _ _ _ hA))⟩

end Go.Proofs.Ytaefnggoempdlaa.M2

/- The six rows, each from its law in M2. -/
namespace Go.Proofs.Ytaefnggoempdlaa.M2
open Go Go.ChangeShapes Go.WideShapes Go.ChangeAt Go.RowKit

theorem bool4 : Try.prog.underlying 4 = some .bool := by kernel_rfl
theorem types3 : Try.f3.resultTypes = #[4] := by kernel_rfl
set_option maxRecDepth 100000 in
theorem classes_holds (law : Law 3 Try.f3.params.toList) : Rows.RefineClassesSaid :=
  OpenClaim.holds_of_wide 3 Try.f3 rfl rfl rfl rfl rfl rfl rfl ⟨rfl, rfl, rfl, rfl, rfl⟩ rfl rfl rfl rfl rfl (by kernel_rfl) Try.func3 (by kernel_rfl)
    (of_decide_eq_true (by kernel_rfl)) (by unfold Func.isWrapper; first | (rw [if_pos (by decide +kernel)]; kernel_rfl) | (rw [if_neg (by decide +kernel)]; exact ⟨rfl, rfl⟩))
    (fun os started H enc _ => lifted (s := Rows.refineClassesSpec) law os started enc (by kernel_rfl) Try.func3 rfl (by kernel_rfl) types3 bool4
      (fun ds h => by
        have h1 : ds.length = 1 := h
        match ds, h1 with
        | [d0], _ => rfl)
      (ChangeSpec.witness6 (enc := enc) (C := Try.checked) false ⟨#[], #[.slice none 0 0], []⟩ 8 (by kernel_rfl) (by kernel_rfl) (by kernel_rfl) (by kernel_rfl)))
theorem types4 : Try.f4.resultTypes = #[4] := by kernel_rfl
set_option maxRecDepth 100000 in
theorem apart_holds (law : Law 4 Try.f4.params.toList) : Rows.RefineApartSaid :=
  OpenClaim.holds_of_wide 4 Try.f4 rfl rfl rfl rfl rfl rfl rfl ⟨rfl, rfl, rfl, rfl, rfl⟩ rfl rfl rfl rfl rfl (by kernel_rfl) Try.func4 (by kernel_rfl)
    (of_decide_eq_true (by kernel_rfl)) (by unfold Func.isWrapper; first | (rw [if_pos (by decide +kernel)]; kernel_rfl) | (rw [if_neg (by decide +kernel)]; exact ⟨rfl, rfl⟩))
    (fun os started H enc _ => lifted (s := Rows.refineApartSpec) law os started enc (by kernel_rfl) Try.func4 rfl (by kernel_rfl) types4 bool4
      (fun ds h => by
        have h1 : ds.length = 3 := h
        match ds, h1 with
        | [d0, d1, d2], _ => rfl)
      (ChangeSpec.witness6 (enc := enc) (C := Try.checked) false ⟨#[], #[.slice none 0 0, .int .i64 0, .int .i64 0], []⟩ 8 (by kernel_rfl) (by kernel_rfl) (by kernel_rfl) (by kernel_rfl)))
theorem types5 : Try.f5.resultTypes = #[4] := by kernel_rfl
set_option maxRecDepth 100000 in
theorem fewest_holds (law : Law 5 Try.f5.params.toList) : Rows.RefineFewestSaid :=
  OpenClaim.holds_of_wide 5 Try.f5 rfl rfl rfl rfl rfl rfl rfl ⟨rfl, rfl, rfl, rfl, rfl⟩ rfl rfl rfl rfl rfl (by kernel_rfl) Try.func5 (by kernel_rfl)
    (of_decide_eq_true (by kernel_rfl)) (by unfold Func.isWrapper; first | (rw [if_pos (by decide +kernel)]; kernel_rfl) | (rw [if_neg (by decide +kernel)]; exact ⟨rfl, rfl⟩))
    (fun os started H enc _ => lifted (s := Rows.refineFewestSpec) law os started enc (by kernel_rfl) Try.func5 rfl (by kernel_rfl) types5 bool4
      (fun ds h => by
        have h1 : ds.length = 2 := h
        match ds, h1 with
        | [d0, d1], _ => rfl)
      (ChangeSpec.witness6 (enc := enc) (C := Try.checked) false ⟨#[], #[.slice none 0 0, .slice none 0 0], []⟩ 8 (by kernel_rfl) (by kernel_rfl) (by kernel_rfl) (by kernel_rfl)))
theorem types6 : Try.f6.resultTypes = #[4] := by kernel_rfl
set_option maxRecDepth 100000 in
theorem orders_holds (law : Law 6 Try.f6.params.toList) : Rows.RefineOrdersSaid :=
  OpenClaim.holds_of_wide 6 Try.f6 rfl rfl rfl rfl rfl rfl rfl ⟨rfl, rfl, rfl, rfl, rfl⟩ rfl rfl rfl rfl rfl (by kernel_rfl) Try.func6 (by kernel_rfl)
    (of_decide_eq_true (by kernel_rfl)) (by unfold Func.isWrapper; first | (rw [if_pos (by decide +kernel)]; kernel_rfl) | (rw [if_neg (by decide +kernel)]; exact ⟨rfl, rfl⟩))
    (fun os started H enc _ => lifted (s := Rows.refineOrdersSpec) law os started enc (by kernel_rfl) Try.func6 rfl (by kernel_rfl) types6 bool4
      (fun ds h => by
        have h1 : ds.length = 4 := h
        match ds, h1 with
        | [d0, d1, d2, d3], _ => rfl)
      (ChangeSpec.witness6 (enc := enc) (C := Try.checked) false ⟨#[], #[.slice none 0 0, .int .i64 0, .int .i64 0, .int .i64 0], []⟩ 8 (by kernel_rfl) (by kernel_rfl) (by kernel_rfl) (by kernel_rfl)))
theorem types7 : Try.f7.resultTypes = #[4] := by kernel_rfl
set_option maxRecDepth 100000 in
theorem like_holds (law : Law 7 Try.f7.params.toList) : Rows.RefineLikeSaid :=
  OpenClaim.holds_of_wide 7 Try.f7 rfl rfl rfl rfl rfl rfl rfl ⟨rfl, rfl, rfl, rfl, rfl⟩ rfl rfl rfl rfl rfl (by kernel_rfl) Try.func7 (by kernel_rfl)
    (of_decide_eq_true (by kernel_rfl)) (by unfold Func.isWrapper; first | (rw [if_pos (by decide +kernel)]; kernel_rfl) | (rw [if_neg (by decide +kernel)]; exact ⟨rfl, rfl⟩))
    (fun os started H enc _ => lifted (s := Rows.refineLikeSpec) law os started enc (by kernel_rfl) Try.func7 rfl (by kernel_rfl) types7 bool4
      (fun ds h => by
        have h1 : ds.length = 3 := h
        match ds, h1 with
        | [d0, d1, d2], _ => rfl)
      (ChangeSpec.witness6 (enc := enc) (C := Try.checked) false ⟨#[], #[.slice none 0 0, .int .i64 0, .int .i64 0], []⟩ 8 (by kernel_rfl) (by kernel_rfl) (by kernel_rfl) (by kernel_rfl)))
theorem types8 : Try.f8.resultTypes = #[4] := by kernel_rfl
set_option maxRecDepth 100000 in
theorem twice_holds (law : Law 8 Try.f8.params.toList) : Rows.RefineTwiceSaid :=
  OpenClaim.holds_of_wide 8 Try.f8 rfl rfl rfl rfl rfl rfl rfl ⟨rfl, rfl, rfl, rfl, rfl⟩ rfl rfl rfl rfl rfl (by kernel_rfl) Try.func8 (by kernel_rfl)
    (of_decide_eq_true (by kernel_rfl)) (by unfold Func.isWrapper; first | (rw [if_pos (by decide +kernel)]; kernel_rfl) | (rw [if_neg (by decide +kernel)]; exact ⟨rfl, rfl⟩))
    (fun os started H enc _ => lifted (s := Rows.refineTwiceSpec) law os started enc (by kernel_rfl) Try.func8 rfl (by kernel_rfl) types8 bool4
      (fun ds h => by
        have h1 : ds.length = 1 := h
        match ds, h1 with
        | [d0], _ => rfl)
      (ChangeSpec.witness6 (enc := enc) (C := Try.checked) false ⟨#[], #[.slice none 0 0], []⟩ 8 (by kernel_rfl) (by kernel_rfl) (by kernel_rfl) (by kernel_rfl)))

end Go.Proofs.Ytaefnggoempdlaa.M2
