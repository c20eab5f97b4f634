/- Plain forms of functions, by program. -/
import Derived.Test.YtbdoggiabclkdaaGreatDoorProg
import Derived.Test.YtbdoggiabclkdaaGreatDoorPvComp
import Derived.Test.YtbdoggiabclkdaaGreatDoorGl
import Derived.KernelRfl
set_option linter.unusedSimpArgs false
set_option linter.unusedVariables false
namespace Go.Proofs.YtbdoggiabclkdaaGreatDoor
open Go Go.Pv
set_option maxRecDepth 100000
def l3 : LFunc := ⟨74, [(.tmp 6)],
  (
  .seq (
  .region [⟨(some 3), (.box true (.t 0)), none, [], false⟩, ⟨(some 4), (.box true (.t 1)), none, [], false⟩, ⟨(some 6), (.mv (.c (.bool false))), none, [], false⟩]) (
  .seq (
  .region [⟨(some 12), (.call (.c (.fn (.func 6) [] [])) []), none, [], false⟩, ⟨(some 7), (.mv (.t 12)), none, [], false⟩]) (
  .seq (
  .seq (
  .region [⟨(some 13), (.load (some 3) (.t 3)), none, [], false⟩, ⟨(some 14), (.call (.c (.fn (.func 7) [] [])) [(.t 13)]), none, [], false⟩, ⟨(some 15), (.un .not (.t 14)), none, [], false⟩, ⟨(some 16), (.mv (.t 15)), none, [], false⟩, ⟨(some 17), (.load (some 3) (.t 4)), (some (16, false)), [], false⟩, ⟨(some 18), (.call (.c (.fn (.func 7) [] [])) [(.t 17)]), (some (16, false)), [], false⟩, ⟨(some 19), (.un .not (.t 18)), (some (16, false)), [], false⟩, ⟨(some 20), (.pick (.t 16) (.c (.bool true)) (.t 19)), none, [], false⟩, ⟨(some 21), (.mv (.t 20)), none, [], false⟩, ⟨(some 22), (.mv (.t 2)), (some (21, false)), [], false⟩, ⟨(some 23), (.bin .gtr (.t 22) (.c (.int .i64 300))), (some (21, false)), [], false⟩, ⟨(some 24), (.pick (.t 21) (.c (.bool true)) (.t 23)), none, [], false⟩]) (.cond (.t 24) (
  .seq (
  .region [⟨(some 25), (.mv (.t 7)), none, [], false⟩, ⟨(some 6), (.mv (.t 25)), none, [], false⟩]) .ret) .skip)) (
  .seq (
  .region [⟨(some 27), (.load (some 3) (.t 3)), none, [], false⟩, ⟨(some 28), (.load (some 3) (.t 4)), none, [], false⟩, ⟨(some 29), (.mv (.t 2)), none, [], false⟩, ⟨(some 30), (.call (.c (.fn (.func 8) [] [])) [(.t 27), (.t 28), (.t 29)]), none, [], false⟩, ⟨(some 26), (.mv (.t 30)), none, [], false⟩, ⟨(some 31), (.ext (.t 26) 0), none, [], false⟩, ⟨(some 32), (.ext (.t 26) 1), none, [], false⟩, ⟨(some 8), (.alloc [(.int .i64 0), .nils, .nils]), none, [], false⟩, ⟨none, (.store 3 (.t 8) (.t 31)), none, [], false⟩, ⟨(some 9), (.mv (.t 32)), none, [], false⟩]) (
  .seq (
  .region [⟨(some 34), (.load (some 3) (.t 3)), none, [], false⟩, ⟨(some 35), (.load (some 3) (.t 4)), none, [], false⟩, ⟨(some 36), (.mv (.t 2)), none, [], false⟩, ⟨(some 37), (.call (.c (.fn (.func 9) [] [])) [(.t 34), (.t 35), (.t 36)]), none, [], false⟩, ⟨(some 33), (.mv (.t 37)), none, [], false⟩, ⟨(some 38), (.ext (.t 33) 0), none, [], false⟩, ⟨(some 39), (.ext (.t 33) 1), none, [], false⟩, ⟨(some 10), (.alloc [(.int .i64 0), .nils, .nils]), none, [], false⟩, ⟨none, (.store 3 (.t 10) (.t 38)), none, [], false⟩, ⟨(some 11), (.mv (.t 39)), none, [], false⟩]) (
  .seq (
  .region [⟨(some 40), (.mv (.t 7)), none, [], true⟩, ⟨(some 41), (.mv (.t 40)), none, [], true⟩, ⟨(some 42), (.load (some 3) (.t 3)), (some (41, true)), [], true⟩, ⟨(some 44), (.load (some 3) (.t 3)), (some (41, true)), [], true⟩, ⟨(some 43), (.call (.c (.fn (.func 10) [] [])) [(.t 42)]), (some (41, true)), [(44, ((some (41, true)), (.load (some 3) (.t 3))))], true⟩, ⟨(some 45), (.call (.c (.fn (.func 11) [] [])) [(.t 44)]), (some (41, true)), [], true⟩, ⟨(some 46), (.eq false .bool (.t 43) (.t 45)), (some (41, true)), [], true⟩, ⟨(some 47), (.pick (.t 41) (.t 46) (.c (.bool false))), none, [], true⟩, ⟨(some 48), (.mv (.t 47)), none, [], true⟩, ⟨(some 49), (.mv (.t 9)), (some (48, true)), [], true⟩, ⟨(some 50), (.mv (.t 11)), (some (48, true)), [], true⟩, ⟨(some 51), (.bin .eql (.t 49) (.t 50)), (some (48, true)), [], true⟩, ⟨(some 52), (.pick (.t 48) (.t 51) (.c (.bool false))), none, [], true⟩, ⟨(some 53), (.mv (.t 52)), none, [], true⟩, ⟨(some 54), (.load (some 3) (.t 8)), (some (53, true)), [], true⟩, ⟨(some 55), (.load (some 3) (.t 10)), (some (53, true)), [], true⟩, ⟨(some 56), (.call (.c (.fn (.func 12) [] [])) [(.t 54), (.t 55)]), (some (53, true)), [], true⟩, ⟨(some 57), (.pick (.t 53) (.t 56) (.c (.bool false))), none, [], true⟩, ⟨(some 58), (.mv (.t 57)), none, [], true⟩, ⟨(some 59), (.load (some 3) (.t 3)), (some (58, true)), [], true⟩, ⟨(some 60), (.load (some 3) (.t 4)), (some (58, true)), [], true⟩, ⟨(some 62), (.load (some 3) (.t 3)), (some (58, true)), [], true⟩, ⟨(some 63), (.load (some 3) (.t 4)), (some (58, true)), [], true⟩, ⟨(some 61), (.call (.c (.fn (.func 13) [] [])) [(.t 59), (.t 60)]), (some (58, true)), [(62, ((some (58, true)), (.load (some 3) (.t 3)))), (63, ((some (58, true)), (.load (some 3) (.t 4))))], true⟩, ⟨(some 64), (.call (.c (.fn (.func 14) [] [])) [(.t 62), (.t 63)]), (some (58, true)), [], true⟩, ⟨(some 65), (.call (.c (.fn (.func 12) [] [])) [(.t 61), (.t 64)]), (some (58, true)), [], true⟩, ⟨(some 66), (.pick (.t 58) (.t 65) (.c (.bool false))), none, [], true⟩, ⟨(some 67), (.mv (.t 66)), none, [], true⟩, ⟨(some 68), (.load (some 3) (.t 3)), (some (67, true)), [], true⟩, ⟨(some 70), (.load (some 3) (.t 3)), (some (67, true)), [], true⟩, ⟨(some 69), (.call (.c (.fn (.func 15) [] [])) [(.t 68)]), (some (67, true)), [(70, ((some (67, true)), (.load (some 3) (.t 3))))], true⟩, ⟨(some 71), (.call (.c (.fn (.func 16) [] [])) [(.t 70)]), (some (67, true)), [], true⟩, ⟨(some 72), (.call (.c (.fn (.func 12) [] [])) [(.t 69), (.t 71)]), (some (67, true)), [], true⟩, ⟨(some 73), (.pick (.t 67) (.t 72) (.c (.bool false))), none, [], true⟩, ⟨(some 6), (.mv (.t 73)), none, [], true⟩]) .ret))))))⟩
theorem c3 : compFunc Tryz.prog GL [] Tryz.f3 = some l3 := by kernel_rfl
def l4 : LFunc := ⟨128, [(.tmp 6)],
  (
  .seq (
  .region [⟨(some 3), (.box true (.t 0)), none, [], false⟩, ⟨(some 4), (.box true (.t 1)), none, [], false⟩, ⟨(some 6), (.mv (.c (.bool false))), none, [], false⟩]) (
  .seq (
  .region [⟨(some 14), (.call (.c (.fn (.func 6) [] [])) []), none, [], false⟩, ⟨(some 7), (.mv (.t 14)), none, [], false⟩]) (
  .seq (
  .seq (
  .region [⟨(some 15), (.load (some 3) (.t 3)), none, [], false⟩, ⟨(some 16), (.call (.c (.fn (.func 7) [] [])) [(.t 15)]), none, [], false⟩, ⟨(some 17), (.un .not (.t 16)), none, [], false⟩, ⟨(some 18), (.mv (.t 17)), none, [], false⟩, ⟨(some 19), (.load (some 3) (.t 4)), (some (18, false)), [], false⟩, ⟨(some 20), (.call (.c (.fn (.func 7) [] [])) [(.t 19)]), (some (18, false)), [], false⟩, ⟨(some 21), (.un .not (.t 20)), (some (18, false)), [], false⟩, ⟨(some 22), (.pick (.t 18) (.c (.bool true)) (.t 21)), none, [], false⟩, ⟨(some 23), (.mv (.t 22)), none, [], false⟩, ⟨(some 24), (.load (some 3) (.t 3)), (some (23, false)), [], false⟩, ⟨(some 25), (.call (.c (.fn (.func 11) [] [])) [(.t 24)]), (some (23, false)), [], false⟩, ⟨(some 26), (.un .not (.t 25)), (some (23, false)), [], false⟩, ⟨(some 27), (.pick (.t 23) (.c (.bool true)) (.t 26)), none, [], false⟩, ⟨(some 28), (.mv (.t 27)), none, [], false⟩, ⟨(some 29), (.load (some 3) (.t 4)), (some (28, false)), [], false⟩, ⟨(some 30), (.call (.c (.fn (.func 11) [] [])) [(.t 29)]), (some (28, false)), [], false⟩, ⟨(some 31), (.un .not (.t 30)), (some (28, false)), [], false⟩, ⟨(some 32), (.pick (.t 28) (.c (.bool true)) (.t 31)), none, [], false⟩, ⟨(some 33), (.mv (.t 32)), none, [], false⟩, ⟨(some 34), (.faddr 0 (.t 3)), (some (33, false)), [], false⟩, ⟨(some 35), (.load none (.t 34)), (some (33, false)), [], false⟩, ⟨(some 36), (.faddr 0 (.t 4)), (some (33, false)), [], false⟩, ⟨(some 37), (.load none (.t 36)), (some (33, false)), [], false⟩, ⟨(some 38), (.bin .neq (.t 35) (.t 37)), (some (33, false)), [], false⟩, ⟨(some 39), (.pick (.t 33) (.c (.bool true)) (.t 38)), none, [], false⟩, ⟨(some 40), (.mv (.t 39)), none, [], false⟩, ⟨(some 41), (.mv (.t 2)), (some (40, false)), [], false⟩, ⟨(some 42), (.lenSl (.t 41)), (some (40, false)), [], false⟩, ⟨(some 43), (.bin .gtr (.t 42) (.c (.int .i64 10))), (some (40, false)), [], false⟩, ⟨(some 44), (.pick (.t 40) (.c (.bool true)) (.t 43)), none, [], false⟩]) (.cond (.t 44) (
  .seq (
  .region [⟨(some 45), (.mv (.t 7)), none, [], false⟩, ⟨(some 6), (.mv (.t 45)), none, [], false⟩]) .ret) .skip)) (
  .seq (
  .seq (
  .region [⟨(some 8), (.mv (.c (.int .i64 0))), none, [], false⟩]) (.block 0 (.loop (
  .seq (
  .seq (
  .region [⟨(some 46), (.mv (.t 8)), none, [], false⟩, ⟨(some 47), (.mv (.t 2)), none, [], false⟩, ⟨(some 48), (.lenSl (.t 47)), none, [], false⟩, ⟨(some 49), (.bin .lss (.t 46) (.t 48)), none, [], false⟩]) (.cond (.t 49) .skip (.exit 0))) (
  .seq (.block 1 (
  .seq (
  .region [⟨(some 52), (.mv (.t 2)), none, [], true⟩, ⟨(some 53), (.mv (.t 8)), none, [], true⟩, ⟨(some 54), (.iaddr 1 (.t 52) (.t 53)), none, [], true⟩, ⟨(some 55), (.load none (.t 54)), none, [], true⟩, ⟨(some 56), (.bin .lss (.t 55) (.c (.int .i64 0))), none, [], true⟩, ⟨(some 57), (.mv (.t 56)), none, [], true⟩, ⟨(some 58), (.mv (.t 2)), (some (57, false)), [], true⟩, ⟨(some 59), (.mv (.t 8)), (some (57, false)), [], true⟩, ⟨(some 60), (.iaddr 1 (.t 58) (.t 59)), (some (57, false)), [], true⟩, ⟨(some 61), (.load none (.t 60)), (some (57, false)), [], true⟩, ⟨(some 62), (.faddr 0 (.t 3)), (some (57, false)), [], true⟩, ⟨(some 63), (.load none (.t 62)), (some (57, false)), [], true⟩, ⟨(some 64), (.bin .geq (.t 61) (.t 63)), (some (57, false)), [], true⟩, ⟨(some 65), (.pick (.t 57) (.c (.bool true)) (.t 64)), none, [], true⟩]) (.cond (.t 65) (
  .seq (
  .region [⟨(some 66), (.mv (.t 7)), none, [], false⟩, ⟨(some 6), (.mv (.t 66)), none, [], false⟩]) .ret) .skip))) (
  .region [⟨(some 50), (.mv (.t 8)), none, [], false⟩, ⟨(some 51), (.bin .add (.t 50) (.c (.int .i64 1))), none, [], false⟩, ⟨(some 8), (.mv (.t 51)), none, [], false⟩])))))) (
  .seq (
  .region [⟨(some 68), (.load (some 3) (.t 3)), none, [], false⟩, ⟨(some 69), (.load (some 3) (.t 4)), none, [], false⟩, ⟨(some 70), (.call (.c (.fn (.func 8) [] [])) [(.t 68), (.t 69), (.c (.int .i64 300))]), none, [], false⟩, ⟨(some 67), (.mv (.t 70)), none, [], false⟩, ⟨(some 71), (.ext (.t 67) 0), none, [], false⟩, ⟨(some 72), (.ext (.t 67) 1), none, [], false⟩, ⟨(some 9), (.alloc [(.int .i64 0), .nils, .nils]), none, [], false⟩, ⟨none, (.store 3 (.t 9) (.t 71)), none, [], false⟩, ⟨(some 10), (.mv (.t 72)), none, [], false⟩]) (
  .seq (
  .region [⟨(some 73), (.load (some 3) (.t 3)), none, [], false⟩, ⟨(some 74), (.load (some 3) (.t 4)), none, [], false⟩, ⟨(some 75), (.call (.c (.fn (.func 13) [] [])) [(.t 73), (.t 74)]), none, [], false⟩, ⟨(some 11), (.alloc [(.int .i64 0), .nils, .nils]), none, [], false⟩, ⟨none, (.store 3 (.t 11) (.t 75)), none, [], false⟩]) (
  .seq (
  .seq (
  .region [⟨(some 76), (.mv (.t 10)), none, [], false⟩, ⟨(some 77), (.bin .neq (.t 76) (.c (.int .i64 0))), none, [], false⟩, ⟨(some 78), (.mv (.t 77)), none, [], false⟩, ⟨(some 79), (.load (some 3) (.t 9)), (some (78, false)), [], false⟩, ⟨(some 80), (.call (.c (.fn (.func 10) [] [])) [(.t 79)]), (some (78, false)), [], false⟩, ⟨(some 81), (.un .not (.t 80)), (some (78, false)), [], false⟩, ⟨(some 82), (.pick (.t 78) (.c (.bool true)) (.t 81)), none, [], false⟩, ⟨(some 83), (.mv (.t 82)), none, [], false⟩, ⟨(some 84), (.load (some 3) (.t 11)), (some (83, false)), [], false⟩, ⟨(some 85), (.call (.c (.fn (.func 10) [] [])) [(.t 84)]), (some (83, false)), [], false⟩, ⟨(some 86), (.un .not (.t 85)), (some (83, false)), [], false⟩, ⟨(some 87), (.pick (.t 83) (.c (.bool true)) (.t 86)), none, [], false⟩]) (.cond (.t 87) (
  .seq (
  .region [⟨(some 6), (.mv (.c (.bool false))), none, [], false⟩]) .ret) .skip)) (
  .seq (
  .region [⟨(some 88), (.load (some 3) (.t 3)), none, [], false⟩, ⟨(some 89), (.mv (.t 2)), none, [], false⟩, ⟨(some 90), (.call (.c (.fn (.func 17) [] [])) [(.t 88), (.t 89)]), none, [], false⟩, ⟨(some 12), (.mv (.t 90)), none, [], false⟩]) (
  .seq (
  .region [⟨(some 91), (.load (some 3) (.t 4)), none, [], false⟩, ⟨(some 92), (.mv (.t 2)), none, [], false⟩, ⟨(some 93), (.call (.c (.fn (.func 17) [] [])) [(.t 91), (.t 92)]), none, [], false⟩, ⟨(some 13), (.mv (.t 93)), none, [], false⟩]) (
  .seq (
  .region [⟨(some 94), (.mv (.t 7)), none, [], false⟩, ⟨(some 95), (.mv (.t 94)), none, [], false⟩, ⟨(some 96), (.load (some 3) (.t 9)), (some (95, true)), [], false⟩, ⟨(some 97), (.mv (.t 2)), (some (95, true)), [], false⟩, ⟨(some 98), (.call (.c (.fn (.func 17) [] [])) [(.t 96), (.t 97)]), (some (95, true)), [], false⟩, ⟨(some 99), (.mv (.t 12)), (some (95, true)), [], false⟩, ⟨(some 100), (.mv (.t 99)), (some (95, true)), [], false⟩, ⟨(some 101), (.mv (.t 13)), (some (100, true)), [], false⟩, ⟨(some 102), (.pick (.t 100) (.t 101) (.c (.bool false))), (some (95, true)), [], false⟩, ⟨(some 103), (.eq false .bool (.t 98) (.t 102)), (some (95, true)), [], false⟩, ⟨(some 104), (.pick (.t 95) (.t 103) (.c (.bool false))), none, [], false⟩, ⟨(some 105), (.mv (.t 104)), none, [], false⟩, ⟨(some 106), (.load (some 3) (.t 11)), (some (105, true)), [], false⟩, ⟨(some 107), (.mv (.t 2)), (some (105, true)), [], false⟩, ⟨(some 108), (.call (.c (.fn (.func 17) [] [])) [(.t 106), (.t 107)]), (some (105, true)), [], false⟩, ⟨(some 109), (.mv (.t 12)), (some (105, true)), [], false⟩, ⟨(some 110), (.mv (.t 109)), (some (105, true)), [], false⟩, ⟨(some 111), (.mv (.t 13)), (some (110, false)), [], false⟩, ⟨(some 112), (.pick (.t 110) (.c (.bool true)) (.t 111)), (some (105, true)), [], false⟩, ⟨(some 113), (.eq false .bool (.t 108) (.t 112)), (some (105, true)), [], false⟩, ⟨(some 114), (.pick (.t 105) (.t 113) (.c (.bool false))), none, [], false⟩, ⟨(some 115), (.mv (.t 114)), none, [], false⟩, ⟨(some 116), (.faddr 2 (.t 11)), (some (115, true)), [], false⟩, ⟨(some 117), (.load none (.t 116)), (some (115, true)), [], false⟩, ⟨(some 118), (.lenSl (.t 117)), (some (115, true)), [], false⟩, ⟨(some 119), (.faddr 2 (.t 3)), (some (115, true)), [], false⟩, ⟨(some 120), (.load none (.t 119)), (some (115, true)), [], false⟩, ⟨(some 121), (.lenSl (.t 120)), (some (115, true)), [], false⟩, ⟨(some 122), (.faddr 2 (.t 4)), (some (115, true)), [], false⟩, ⟨(some 123), (.load none (.t 122)), (some (115, true)), [], false⟩, ⟨(some 124), (.lenSl (.t 123)), (some (115, true)), [], false⟩, ⟨(some 125), (.bin .add (.t 121) (.t 124)), (some (115, true)), [], false⟩, ⟨(some 126), (.bin .eql (.t 118) (.t 125)), (some (115, true)), [], false⟩, ⟨(some 127), (.pick (.t 115) (.t 126) (.c (.bool false))), none, [], false⟩, ⟨(some 6), (.mv (.t 127)), none, [], false⟩]) .ret))))))))))⟩
theorem c4 : compFunc Tryz.prog GL [] Tryz.f4 = some l4 := by kernel_rfl
def l7 : LFunc := ⟨54, [(.tmp 2)],
  (
  .seq (
  .region [⟨(some 1), (.box true (.t 0)), none, [], false⟩, ⟨(some 2), (.mv (.c (.bool false))), none, [], false⟩]) (
  .seq (
  .seq (
  .region [⟨(some 5), (.faddr 0 (.t 1)), none, [], false⟩, ⟨(some 6), (.load none (.t 5)), none, [], false⟩, ⟨(some 7), (.bin .gtr (.t 6) (.c (.int .i64 20))), none, [], false⟩, ⟨(some 8), (.mv (.t 7)), none, [], false⟩, ⟨(some 9), (.faddr 1 (.t 1)), (some (8, false)), [], false⟩, ⟨(some 10), (.load none (.t 9)), (some (8, false)), [], false⟩, ⟨(some 11), (.lenSl (.t 10)), (some (8, false)), [], false⟩, ⟨(some 12), (.bin .gtr (.t 11) (.c (.int .i64 20))), (some (8, false)), [], false⟩, ⟨(some 13), (.pick (.t 8) (.c (.bool true)) (.t 12)), none, [], false⟩, ⟨(some 14), (.mv (.t 13)), none, [], false⟩, ⟨(some 15), (.faddr 2 (.t 1)), (some (14, false)), [], false⟩, ⟨(some 16), (.load none (.t 15)), (some (14, false)), [], false⟩, ⟨(some 17), (.lenSl (.t 16)), (some (14, false)), [], false⟩, ⟨(some 18), (.bin .gtr (.t 17) (.c (.int .i64 10))), (some (14, false)), [], false⟩, ⟨(some 19), (.pick (.t 14) (.c (.bool true)) (.t 18)), none, [], false⟩]) (.cond (.t 19) (
  .seq (
  .region [⟨(some 2), (.mv (.c (.bool false))), none, [], false⟩]) .ret) .skip)) (
  .seq (
  .seq (
  .region [⟨(some 3), (.mv (.c (.int .i64 0))), none, [], false⟩]) (.block 0 (.loop (
  .seq (
  .seq (
  .region [⟨(some 20), (.mv (.t 3)), none, [], false⟩, ⟨(some 21), (.faddr 2 (.t 1)), none, [], false⟩, ⟨(some 22), (.load none (.t 21)), none, [], false⟩, ⟨(some 23), (.lenSl (.t 22)), none, [], false⟩, ⟨(some 24), (.bin .lss (.t 20) (.t 23)), none, [], false⟩]) (.cond (.t 24) .skip (.exit 0))) (
  .seq (.block 1 (
  .seq (
  .seq (
  .region [⟨(some 27), (.faddr 2 (.t 1)), none, [], false⟩, ⟨(some 28), (.load none (.t 27)), none, [], false⟩, ⟨(some 29), (.mv (.t 3)), none, [], false⟩, ⟨(some 30), (.iaddr 1 (.t 28) (.t 29)), none, [], false⟩, ⟨(some 31), (.load none (.t 30)), none, [], false⟩, ⟨(some 32), (.lenSl (.t 31)), none, [], false⟩, ⟨(some 33), (.bin .gtr (.t 32) (.c (.int .i64 20))), none, [], false⟩]) (.cond (.t 33) (
  .seq (
  .region [⟨(some 2), (.mv (.c (.bool false))), none, [], false⟩]) .ret) .skip)) (
  .seq (
  .region [⟨(some 4), (.mv (.c (.int .i64 0))), none, [], false⟩]) (.block 2 (.loop (
  .seq (
  .seq (
  .region [⟨(some 34), (.mv (.t 4)), none, [], false⟩, ⟨(some 35), (.faddr 2 (.t 1)), none, [], false⟩, ⟨(some 36), (.load none (.t 35)), none, [], false⟩, ⟨(some 37), (.mv (.t 3)), none, [], false⟩, ⟨(some 38), (.iaddr 1 (.t 36) (.t 37)), none, [], false⟩, ⟨(some 39), (.load none (.t 38)), none, [], false⟩, ⟨(some 40), (.lenSl (.t 39)), none, [], false⟩, ⟨(some 41), (.bin .lss (.t 34) (.t 40)), none, [], false⟩]) (.cond (.t 41) .skip (.exit 2))) (
  .seq (.block 3 (
  .seq (
  .region [⟨(some 44), (.faddr 2 (.t 1)), none, [], false⟩, ⟨(some 45), (.load none (.t 44)), none, [], false⟩, ⟨(some 46), (.mv (.t 3)), none, [], false⟩, ⟨(some 47), (.iaddr 1 (.t 45) (.t 46)), none, [], false⟩, ⟨(some 48), (.load none (.t 47)), none, [], false⟩, ⟨(some 49), (.mv (.t 4)), none, [], false⟩, ⟨(some 50), (.iaddr 1 (.t 48) (.t 49)), none, [], false⟩, ⟨(some 51), (.load none (.t 50)), none, [], false⟩, ⟨(some 52), (.lenSl (.t 51)), none, [], false⟩, ⟨(some 53), (.bin .gtr (.t 52) (.c (.int .i64 20))), none, [], false⟩]) (.cond (.t 53) (
  .seq (
  .region [⟨(some 2), (.mv (.c (.bool false))), none, [], false⟩]) .ret) .skip))) (
  .region [⟨(some 42), (.mv (.t 4)), none, [], false⟩, ⟨(some 43), (.bin .add (.t 42) (.c (.int .i64 1))), none, [], false⟩, ⟨(some 4), (.mv (.t 43)), none, [], false⟩])))))))) (
  .region [⟨(some 25), (.mv (.t 3)), none, [], false⟩, ⟨(some 26), (.bin .add (.t 25) (.c (.int .i64 1))), none, [], false⟩, ⟨(some 3), (.mv (.t 26)), none, [], false⟩])))))) (
  .seq (
  .region [⟨(some 2), (.mv (.c (.bool true))), none, [], false⟩]) .ret))))⟩
theorem c7 : compFunc Tryz.prog GL [] Tryz.f7 = some l7 := by kernel_rfl
def l8 : LFunc := ⟨79, [(.cell 6 (some 3)), (.tmp 7)],
  (
  .seq (
  .region [⟨(some 3), (.box true (.t 0)), none, [], false⟩, ⟨(some 4), (.box true (.t 1)), none, [], false⟩, ⟨(some 6), (.alloc [(.int .i64 0), .nils, .nils]), none, [], false⟩, ⟨(some 7), (.mv (.c (.int .i64 0))), none, [], false⟩]) (
  .seq (
  .seq (
  .region [⟨(some 14), (.load (some 3) (.t 3)), none, [], false⟩, ⟨(some 15), (.call (.c (.fn (.func 10) [] [])) [(.t 14)]), none, [], false⟩, ⟨(some 16), (.un .not (.t 15)), none, [], false⟩, ⟨(some 17), (.mv (.t 16)), none, [], false⟩, ⟨(some 18), (.load (some 3) (.t 4)), (some (17, false)), [], false⟩, ⟨(some 19), (.call (.c (.fn (.func 10) [] [])) [(.t 18)]), (some (17, false)), [], false⟩, ⟨(some 20), (.un .not (.t 19)), (some (17, false)), [], false⟩, ⟨(some 21), (.pick (.t 17) (.c (.bool true)) (.t 20)), none, [], false⟩, ⟨(some 22), (.mv (.t 21)), none, [], false⟩, ⟨(some 23), (.faddr 0 (.t 3)), (some (22, false)), [], false⟩, ⟨(some 24), (.load none (.t 23)), (some (22, false)), [], false⟩, ⟨(some 25), (.faddr 0 (.t 4)), (some (22, false)), [], false⟩, ⟨(some 26), (.load none (.t 25)), (some (22, false)), [], false⟩, ⟨(some 27), (.bin .neq (.t 24) (.t 26)), (some (22, false)), [], false⟩, ⟨(some 28), (.pick (.t 22) (.c (.bool true)) (.t 27)), none, [], false⟩, ⟨(some 29), (.mv (.t 28)), none, [], false⟩, ⟨(some 30), (.mv (.t 2)), (some (29, false)), [], false⟩, ⟨(some 31), (.bin .lss (.t 30) (.c (.int .i64 1))), (some (29, false)), [], false⟩, ⟨(some 32), (.pick (.t 29) (.c (.bool true)) (.t 31)), none, [], false⟩, ⟨(some 33), (.mv (.t 32)), none, [], false⟩, ⟨(some 34), (.mv (.t 2)), (some (33, false)), [], false⟩, ⟨(some 35), (.bin .gtr (.t 34) (.c (.int .i64 3000))), (some (33, false)), [], false⟩, ⟨(some 36), (.pick (.t 33) (.c (.bool true)) (.t 35)), none, [], false⟩]) (.cond (.t 36) (
  .seq (
  .region [⟨(some 37), (.build [(.int .i64 0), .nils, .nils] []), none, [], false⟩, ⟨none, (.store 3 (.t 6) (.t 37)), none, [], false⟩, ⟨(some 7), (.mv (.c (.int .i64 1))), none, [], false⟩]) .ret) .skip)) (
  .seq (
  .seq (
  .region [⟨(some 38), (.faddr 1 (.t 3)), none, [], false⟩, ⟨(some 39), (.load none (.t 38)), none, [], false⟩, ⟨(some 40), (.lenSl (.t 39)), none, [], false⟩, ⟨(some 41), (.faddr 1 (.t 4)), none, [], false⟩, ⟨(some 42), (.load none (.t 41)), none, [], false⟩, ⟨(some 43), (.lenSl (.t 42)), none, [], false⟩, ⟨(some 44), (.bin .mul (.t 40) (.t 43)), none, [], false⟩, ⟨(some 45), (.mv (.t 2)), none, [], false⟩, ⟨(some 46), (.bin .gtr (.t 44) (.t 45)), none, [], false⟩]) (.cond (.t 46) (
  .seq (
  .region [⟨(some 47), (.build [(.int .i64 0), .nils, .nils] []), none, [], false⟩, ⟨none, (.store 3 (.t 6) (.t 47)), none, [], false⟩, ⟨(some 7), (.mv (.c (.int .i64 2))), none, [], false⟩]) .ret) .skip)) (
  .seq (
  .region [⟨(some 8), (.mv (.c .nils)), none, [], false⟩]) (
  .seq (
  .seq (
  .region [⟨(some 48), (.faddr 1 (.t 3)), none, [], false⟩, ⟨(some 49), (.load none (.t 48)), none, [], false⟩, ⟨(some 50), (.lenSl (.t 49)), none, [], false⟩, ⟨(some 51), (.mv (.c (.int .i64 0))), none, [], false⟩]) (.block 0 (.loop (
  .seq (
  .region [⟨(some 52), (.bin .lss (.t 51) (.t 50)), none, [], false⟩]) (
  .seq (.cond (.t 52) .skip (.exit 0)) (
  .seq (.block 1 (
  .seq (
  .region [⟨(some 53), (.iaddr 1 (.t 49) (.t 51)), none, [], false⟩, ⟨(some 54), (.load none (.t 53)), none, [], false⟩, ⟨(some 10), (.mv (.t 54)), none, [], false⟩]) (
  .seq (
  .region [⟨(some 55), (.faddr 1 (.t 4)), none, [], false⟩, ⟨(some 56), (.load none (.t 55)), none, [], false⟩, ⟨(some 57), (.lenSl (.t 56)), none, [], false⟩, ⟨(some 58), (.mv (.c (.int .i64 0))), none, [], false⟩]) (.block 2 (.loop (
  .seq (
  .region [⟨(some 59), (.bin .lss (.t 58) (.t 57)), none, [], false⟩]) (
  .seq (.cond (.t 59) .skip (.exit 2)) (
  .seq (.block 3 (
  .seq (
  .region [⟨(some 60), (.iaddr 1 (.t 56) (.t 58)), none, [], false⟩, ⟨(some 61), (.load none (.t 60)), none, [], false⟩, ⟨(some 12), (.mv (.t 61)), none, [], false⟩]) (
  .region [⟨(some 62), (.mv (.t 8)), none, [], false⟩, ⟨(some 63), (.mv (.t 10)), none, [], false⟩, ⟨(some 64), (.mv (.t 12)), none, [], false⟩, ⟨(some 65), (.build [(.int .i64 0), (.int .i64 0), (.int .i64 0)] [(0, (1, (.t 63))), (1, (1, (.t 64)))]), none, [], false⟩, ⟨(some 66), (.bslice 3 1 [(.int .i64 0), (.int .i64 0), (.int .i64 0)] [(0, (3, (.t 65)))]), none, [], false⟩, ⟨(some 67), (.append 3 24 (.t 62) (.t 66)), none, [], false⟩, ⟨(some 8), (.mv (.t 67)), none, [], false⟩]))) (
  .region [⟨(some 68), (.bin .add (.t 58) (.c (.int .i64 1))), none, [], false⟩, ⟨(some 58), (.mv (.t 68)), none, [], false⟩]))))))))) (
  .region [⟨(some 69), (.bin .add (.t 51) (.c (.int .i64 1))), none, [], false⟩, ⟨(some 51), (.mv (.t 69)), none, [], false⟩]))))))) (
  .seq (
  .region [⟨(some 70), (.mkfn (.func 21) [] [(.t 3), (.t 4)]), none, [], false⟩, ⟨(some 13), (.mv (.t 70)), none, [], false⟩]) (
  .seq (
  .region [⟨(some 71), (.faddr 0 (.t 3)), none, [], false⟩, ⟨(some 72), (.load none (.t 71)), none, [], false⟩, ⟨(some 73), (.mv (.t 8)), none, [], false⟩, ⟨(some 74), (.mv (.t 2)), none, [], false⟩, ⟨(some 75), (.mv (.t 13)), none, [], false⟩, ⟨(some 76), (.call (.c (.fn (.func 23) [] [])) [(.t 72), (.t 73), (.t 74), (.t 75)]), none, [], false⟩, ⟨(some 77), (.ext (.t 76) 0), none, [], false⟩, ⟨(some 78), (.ext (.t 76) 1), none, [], false⟩, ⟨none, (.store 3 (.t 6) (.t 77)), none, [], false⟩, ⟨(some 7), (.mv (.t 78)), none, [], false⟩]) .ret)))))))⟩
theorem c8 : compFunc Tryz.prog GL [] Tryz.f8 = some l8 := by kernel_rfl
def l10 : LFunc := ⟨101, [(.tmp 2)],
  (
  .seq (
  .region [⟨(some 1), (.box true (.t 0)), none, [], false⟩, ⟨(some 2), (.mv (.c (.bool false))), none, [], false⟩]) (
  .seq (
  .seq (
  .region [⟨(some 12), (.faddr 0 (.t 1)), none, [], false⟩, ⟨(some 13), (.load none (.t 12)), none, [], false⟩, ⟨(some 14), (.bin .lss (.t 13) (.c (.int .i64 1))), none, [], false⟩, ⟨(some 15), (.mv (.t 14)), none, [], false⟩, ⟨(some 16), (.faddr 0 (.t 1)), (some (15, false)), [], false⟩, ⟨(some 17), (.load none (.t 16)), (some (15, false)), [], false⟩, ⟨(some 18), (.bin .gtr (.t 17) (.c (.int .i64 64))), (some (15, false)), [], false⟩, ⟨(some 19), (.pick (.t 15) (.c (.bool true)) (.t 18)), none, [], false⟩, ⟨(some 20), (.mv (.t 19)), none, [], false⟩, ⟨(some 21), (.faddr 2 (.t 1)), (some (20, false)), [], false⟩, ⟨(some 22), (.load none (.t 21)), (some (20, false)), [], false⟩, ⟨(some 23), (.lenSl (.t 22)), (some (20, false)), [], false⟩, ⟨(some 24), (.bin .gtr (.t 23) (.c (.int .i64 3000))), (some (20, false)), [], false⟩, ⟨(some 25), (.pick (.t 20) (.c (.bool true)) (.t 24)), none, [], false⟩]) (.cond (.t 25) (
  .seq (
  .region [⟨(some 2), (.mv (.c (.bool false))), none, [], false⟩]) .ret) .skip)) (
  .seq (
  .region [⟨(some 26), (.mkfn (.func 27) [] [(.t 1)]), none, [], false⟩, ⟨(some 3), (.mv (.t 26)), none, [], false⟩]) (
  .seq (
  .seq (
  .region [⟨(some 27), (.faddr 1 (.t 1)), none, [], false⟩, ⟨(some 28), (.load none (.t 27)), none, [], false⟩, ⟨(some 29), (.lenSl (.t 28)), none, [], false⟩, ⟨(some 30), (.mv (.c (.int .i64 0))), none, [], false⟩]) (.block 0 (.loop (
  .seq (
  .region [⟨(some 31), (.bin .lss (.t 30) (.t 29)), none, [], false⟩]) (
  .seq (.cond (.t 31) .skip (.exit 0)) (
  .seq (.block 1 (
  .seq (
  .region [⟨(some 32), (.mv (.t 30)), none, [], false⟩, ⟨(some 33), (.iaddr 1 (.t 28) (.t 30)), none, [], false⟩, ⟨(some 34), (.load none (.t 33)), none, [], false⟩, ⟨(some 4), (.mv (.t 32)), none, [], false⟩, ⟨(some 5), (.mv (.t 34)), none, [], false⟩]) (
  .seq (
  .region [⟨(some 35), (.mv (.t 3)), none, [], false⟩, ⟨(some 36), (.mv (.t 5)), none, [], false⟩, ⟨(some 37), (.call (.t 35) [(.t 36)]), none, [], false⟩, ⟨(some 38), (.un .not (.t 37)), none, [], false⟩, ⟨(some 39), (.mv (.t 38)), none, [], false⟩, ⟨(some 40), (.mv (.t 4)), (some (39, false)), [], false⟩, ⟨(some 41), (.bin .gtr (.t 40) (.c (.int .i64 0))), (some (39, false)), [], false⟩, ⟨(some 42), (.mv (.t 41)), (some (39, false)), [], false⟩, ⟨(some 43), (.faddr 1 (.t 1)), (some (42, true)), [], false⟩, ⟨(some 44), (.load none (.t 43)), (some (42, true)), [], false⟩, ⟨(some 45), (.mv (.t 4)), (some (42, true)), [], false⟩, ⟨(some 46), (.bin .sub (.t 45) (.c (.int .i64 1))), (some (42, true)), [], false⟩, ⟨(some 47), (.iaddr 1 (.t 44) (.t 46)), (some (42, true)), [], false⟩, ⟨(some 48), (.load none (.t 47)), (some (42, true)), [], false⟩, ⟨(some 49), (.mv (.t 5)), (some (42, true)), [], false⟩, ⟨(some 50), (.bin .geq (.t 48) (.t 49)), (some (42, true)), [], false⟩, ⟨(some 51), (.pick (.t 42) (.t 50) (.c (.bool false))), (some (39, false)), [], false⟩, ⟨(some 52), (.pick (.t 39) (.c (.bool true)) (.t 51)), none, [], false⟩]) (.cond (.t 52) (
  .seq (
  .region [⟨(some 2), (.mv (.c (.bool false))), none, [], false⟩]) .ret) .skip)))) (
  .region [⟨(some 53), (.bin .add (.t 30) (.c (.int .i64 1))), none, [], false⟩, ⟨(some 30), (.mv (.t 53)), none, [], false⟩]))))))) (
  .seq (
  .seq (
  .region [⟨(some 54), (.faddr 2 (.t 1)), none, [], false⟩, ⟨(some 55), (.load none (.t 54)), none, [], false⟩, ⟨(some 56), (.lenSl (.t 55)), none, [], false⟩, ⟨(some 57), (.mv (.c (.int .i64 0))), none, [], false⟩]) (.block 2 (.loop (
  .seq (
  .region [⟨(some 58), (.bin .lss (.t 57) (.t 56)), none, [], false⟩]) (
  .seq (.cond (.t 58) .skip (.exit 2)) (
  .seq (.block 3 (
  .seq (
  .region [⟨(some 59), (.iaddr 1 (.t 55) (.t 57)), none, [], false⟩, ⟨(some 60), (.load none (.t 59)), none, [], false⟩, ⟨(some 7), (.mv (.t 60)), none, [], false⟩]) (
  .seq (
  .seq (
  .region [⟨(some 61), (.mv (.t 7)), none, [], false⟩, ⟨(some 62), (.lenSl (.t 61)), none, [], false⟩, ⟨(some 63), (.faddr 0 (.t 1)), none, [], false⟩, ⟨(some 64), (.load none (.t 63)), none, [], false⟩, ⟨(some 65), (.bin .neq (.t 62) (.t 64)), none, [], false⟩]) (.cond (.t 65) (
  .seq (
  .region [⟨(some 2), (.mv (.c (.bool false))), none, [], false⟩]) .ret) .skip)) (
  .seq (
  .region [⟨(some 66), (.mv (.t 7)), none, [], false⟩, ⟨(some 67), (.lenSl (.t 66)), none, [], false⟩, ⟨(some 68), (.mv (.c (.int .i64 0))), none, [], false⟩]) (.block 4 (.loop (
  .seq (
  .region [⟨(some 69), (.bin .lss (.t 68) (.t 67)), none, [], false⟩]) (
  .seq (.cond (.t 69) .skip (.exit 4)) (
  .seq (.block 5 (
  .seq (
  .region [⟨(some 70), (.iaddr 1 (.t 66) (.t 68)), none, [], false⟩, ⟨(some 71), (.load none (.t 70)), none, [], false⟩, ⟨(some 9), (.mv (.t 71)), none, [], false⟩]) (
  .seq (
  .region [⟨(some 72), (.mv (.t 9)), none, [], false⟩, ⟨(some 73), (.lenSl (.t 72)), none, [], false⟩, ⟨(some 74), (.mv (.c (.int .i64 0))), none, [], false⟩]) (.block 6 (.loop (
  .seq (
  .region [⟨(some 75), (.bin .lss (.t 74) (.t 73)), none, [], false⟩]) (
  .seq (.cond (.t 75) .skip (.exit 6)) (
  .seq (.block 7 (
  .seq (
  .region [⟨(some 76), (.mv (.t 74)), none, [], false⟩, ⟨(some 77), (.iaddr 2 (.t 72) (.t 74)), none, [], false⟩, ⟨(some 78), (.load (some 2) (.t 77)), none, [], false⟩, ⟨(some 11), (.alloc [(.int .i64 0), (.bool false)]), none, [], false⟩, ⟨(some 10), (.mv (.t 76)), none, [], false⟩, ⟨none, (.store 2 (.t 11) (.t 78)), none, [], false⟩]) (
  .seq (
  .region [⟨(some 79), (.mv (.t 3)), none, [], true⟩, ⟨(some 80), (.faddr 0 (.t 11)), none, [], true⟩, ⟨(some 81), (.load none (.t 80)), none, [], true⟩, ⟨(some 82), (.call (.t 79) [(.t 81)]), none, [], true⟩, ⟨(some 83), (.un .not (.t 82)), none, [], true⟩, ⟨(some 84), (.mv (.t 83)), none, [], true⟩, ⟨(some 85), (.mv (.t 10)), (some (84, false)), [], true⟩, ⟨(some 86), (.bin .gtr (.t 85) (.c (.int .i64 0))), (some (84, false)), [], true⟩, ⟨(some 87), (.mv (.t 86)), (some (84, false)), [], true⟩, ⟨(some 88), (.mv (.t 9)), (some (87, true)), [], true⟩, ⟨(some 89), (.mv (.t 10)), (some (87, true)), [], true⟩, ⟨(some 90), (.bin .sub (.t 89) (.c (.int .i64 1))), (some (87, true)), [], true⟩, ⟨(some 91), (.iaddr 2 (.t 88) (.t 90)), (some (87, true)), [], true⟩, ⟨(some 92), (.load (some 2) (.t 91)), (some (87, true)), [], true⟩, ⟨(some 93), (.load (some 2) (.t 11)), (some (87, true)), [], true⟩, ⟨(some 94), (.call (.c (.fn (.func 28) [] [])) [(.t 92), (.t 93)]), (some (87, true)), [], true⟩, ⟨(some 95), (.bin .geq (.t 94) (.c (.int .i64 0))), (some (87, true)), [], true⟩, ⟨(some 96), (.pick (.t 87) (.t 95) (.c (.bool false))), (some (84, false)), [], true⟩, ⟨(some 97), (.pick (.t 84) (.c (.bool true)) (.t 96)), none, [], true⟩]) (.cond (.t 97) (
  .seq (
  .region [⟨(some 2), (.mv (.c (.bool false))), none, [], false⟩]) .ret) .skip)))) (
  .region [⟨(some 98), (.bin .add (.t 74) (.c (.int .i64 1))), none, [], false⟩, ⟨(some 74), (.mv (.t 98)), none, [], false⟩]))))))))) (
  .region [⟨(some 99), (.bin .add (.t 68) (.c (.int .i64 1))), none, [], false⟩, ⟨(some 68), (.mv (.t 99)), none, [], false⟩])))))))))) (
  .region [⟨(some 100), (.bin .add (.t 57) (.c (.int .i64 1))), none, [], false⟩, ⟨(some 57), (.mv (.t 100)), none, [], false⟩]))))))) (
  .seq (
  .region [⟨(some 2), (.mv (.c (.bool true))), none, [], false⟩]) .ret))))))⟩
theorem c10 : compFunc Tryz.prog GL [] Tryz.f10 = some l10 := by kernel_rfl
def l11 : LFunc := ⟨134, [(.tmp 2)],
  (
  .seq (
  .region [⟨(some 1), (.box true (.t 0)), none, [], false⟩, ⟨(some 2), (.mv (.c (.bool false))), none, [], false⟩]) (
  .seq (
  .seq (
  .region [⟨(some 8), (.faddr 0 (.t 1)), none, [], false⟩, ⟨(some 9), (.load none (.t 8)), none, [], false⟩, ⟨(some 10), (.bin .lss (.t 9) (.c (.int .i64 1))), none, [], false⟩, ⟨(some 11), (.mv (.t 10)), none, [], false⟩, ⟨(some 12), (.faddr 0 (.t 1)), (some (11, false)), [], false⟩, ⟨(some 13), (.load none (.t 12)), (some (11, false)), [], false⟩, ⟨(some 14), (.bin .gtr (.t 13) (.c (.int .i64 64))), (some (11, false)), [], false⟩, ⟨(some 15), (.pick (.t 11) (.c (.bool true)) (.t 14)), none, [], false⟩, ⟨(some 16), (.mv (.t 15)), none, [], false⟩, ⟨(some 17), (.faddr 2 (.t 1)), (some (16, false)), [], false⟩, ⟨(some 18), (.load none (.t 17)), (some (16, false)), [], false⟩, ⟨(some 19), (.lenSl (.t 18)), (some (16, false)), [], false⟩, ⟨(some 20), (.bin .gtr (.t 19) (.c (.int .i64 3000))), (some (16, false)), [], false⟩, ⟨(some 21), (.pick (.t 16) (.c (.bool true)) (.t 20)), none, [], false⟩]) (.cond (.t 21) (
  .seq (
  .region [⟨(some 2), (.mv (.c (.bool false))), none, [], false⟩]) .ret) .skip)) (
  .seq (
  .seq (
  .region [⟨(some 3), (.mv (.c (.int .i64 0))), none, [], false⟩]) (.block 0 (.loop (
  .seq (
  .seq (
  .region [⟨(some 22), (.mv (.t 3)), none, [], false⟩, ⟨(some 23), (.faddr 1 (.t 1)), none, [], false⟩, ⟨(some 24), (.load none (.t 23)), none, [], false⟩, ⟨(some 25), (.lenSl (.t 24)), none, [], false⟩, ⟨(some 26), (.bin .lss (.t 22) (.t 25)), none, [], false⟩]) (.cond (.t 26) .skip (.exit 0))) (
  .seq (.block 1 (
  .seq (
  .region [⟨(some 29), (.faddr 1 (.t 1)), none, [], true⟩, ⟨(some 30), (.load none (.t 29)), none, [], true⟩, ⟨(some 31), (.mv (.t 3)), none, [], true⟩, ⟨(some 32), (.iaddr 1 (.t 30) (.t 31)), none, [], true⟩, ⟨(some 33), (.load none (.t 32)), none, [], true⟩, ⟨(some 34), (.bin .lss (.t 33) (.c (.int .i64 0))), none, [], true⟩, ⟨(some 35), (.mv (.t 34)), none, [], true⟩, ⟨(some 36), (.faddr 1 (.t 1)), (some (35, false)), [], true⟩, ⟨(some 37), (.load none (.t 36)), (some (35, false)), [], true⟩, ⟨(some 38), (.mv (.t 3)), (some (35, false)), [], true⟩, ⟨(some 39), (.iaddr 1 (.t 37) (.t 38)), (some (35, false)), [], true⟩, ⟨(some 40), (.load none (.t 39)), (some (35, false)), [], true⟩, ⟨(some 41), (.faddr 2 (.t 1)), (some (35, false)), [], true⟩, ⟨(some 42), (.load none (.t 41)), (some (35, false)), [], true⟩, ⟨(some 43), (.lenSl (.t 42)), (some (35, false)), [], true⟩, ⟨(some 44), (.bin .geq (.t 40) (.t 43)), (some (35, false)), [], true⟩, ⟨(some 45), (.pick (.t 35) (.c (.bool true)) (.t 44)), none, [], true⟩, ⟨(some 46), (.mv (.t 45)), none, [], true⟩, ⟨(some 47), (.mv (.t 3)), (some (46, false)), [], true⟩, ⟨(some 48), (.bin .gtr (.t 47) (.c (.int .i64 0))), (some (46, false)), [], true⟩, ⟨(some 49), (.mv (.t 48)), (some (46, false)), [], true⟩, ⟨(some 50), (.faddr 1 (.t 1)), (some (49, true)), [], true⟩, ⟨(some 51), (.load none (.t 50)), (some (49, true)), [], true⟩, ⟨(some 52), (.mv (.t 3)), (some (49, true)), [], true⟩, ⟨(some 53), (.bin .sub (.t 52) (.c (.int .i64 1))), (some (49, true)), [], true⟩, ⟨(some 54), (.iaddr 1 (.t 51) (.t 53)), (some (49, true)), [], true⟩, ⟨(some 55), (.load none (.t 54)), (some (49, true)), [], true⟩, ⟨(some 56), (.faddr 1 (.t 1)), (some (49, true)), [], true⟩, ⟨(some 57), (.load none (.t 56)), (some (49, true)), [], true⟩, ⟨(some 58), (.mv (.t 3)), (some (49, true)), [], true⟩, ⟨(some 59), (.iaddr 1 (.t 57) (.t 58)), (some (49, true)), [], true⟩, ⟨(some 60), (.load none (.t 59)), (some (49, true)), [], true⟩, ⟨(some 61), (.bin .geq (.t 55) (.t 60)), (some (49, true)), [], true⟩, ⟨(some 62), (.pick (.t 49) (.t 61) (.c (.bool false))), (some (46, false)), [], true⟩, ⟨(some 63), (.pick (.t 46) (.c (.bool true)) (.t 62)), none, [], true⟩]) (.cond (.t 63) (
  .seq (
  .region [⟨(some 2), (.mv (.c (.bool false))), none, [], false⟩]) .ret) .skip))) (
  .region [⟨(some 27), (.mv (.t 3)), none, [], false⟩, ⟨(some 28), (.bin .add (.t 27) (.c (.int .i64 1))), none, [], false⟩, ⟨(some 3), (.mv (.t 28)), none, [], false⟩])))))) (
  .seq (
  .seq (
  .region [⟨(some 4), (.mv (.c (.int .i64 0))), none, [], false⟩]) (.block 2 (.loop (
  .seq (
  .seq (
  .region [⟨(some 64), (.mv (.t 4)), none, [], false⟩, ⟨(some 65), (.faddr 2 (.t 1)), none, [], false⟩, ⟨(some 66), (.load none (.t 65)), none, [], false⟩, ⟨(some 67), (.lenSl (.t 66)), none, [], false⟩, ⟨(some 68), (.bin .lss (.t 64) (.t 67)), none, [], false⟩]) (.cond (.t 68) .skip (.exit 2))) (
  .seq (.block 3 (
  .seq (
  .seq (
  .region [⟨(some 71), (.faddr 2 (.t 1)), none, [], true⟩, ⟨(some 72), (.load none (.t 71)), none, [], true⟩, ⟨(some 73), (.mv (.t 4)), none, [], true⟩, ⟨(some 74), (.iaddr 1 (.t 72) (.t 73)), none, [], true⟩, ⟨(some 75), (.load none (.t 74)), none, [], true⟩, ⟨(some 76), (.lenSl (.t 75)), none, [], true⟩, ⟨(some 77), (.faddr 0 (.t 1)), none, [], true⟩, ⟨(some 78), (.load none (.t 77)), none, [], true⟩, ⟨(some 79), (.bin .neq (.t 76) (.t 78)), none, [], true⟩]) (.cond (.t 79) (
  .seq (
  .region [⟨(some 2), (.mv (.c (.bool false))), none, [], false⟩]) .ret) .skip)) (
  .seq (
  .region [⟨(some 5), (.mv (.c (.int .i64 0))), none, [], false⟩]) (.block 4 (.loop (
  .seq (
  .seq (
  .region [⟨(some 80), (.mv (.t 5)), none, [], false⟩, ⟨(some 81), (.faddr 0 (.t 1)), none, [], false⟩, ⟨(some 82), (.load none (.t 81)), none, [], false⟩, ⟨(some 83), (.bin .lss (.t 80) (.t 82)), none, [], false⟩]) (.cond (.t 83) .skip (.exit 4))) (
  .seq (.block 5 (
  .seq (
  .region [⟨(some 86), (.faddr 2 (.t 1)), none, [], false⟩, ⟨(some 87), (.load none (.t 86)), none, [], false⟩, ⟨(some 88), (.mv (.t 4)), none, [], false⟩, ⟨(some 89), (.iaddr 1 (.t 87) (.t 88)), none, [], false⟩, ⟨(some 90), (.load none (.t 89)), none, [], false⟩, ⟨(some 91), (.mv (.t 5)), none, [], false⟩, ⟨(some 92), (.iaddr 1 (.t 90) (.t 91)), none, [], false⟩, ⟨(some 93), (.load none (.t 92)), none, [], false⟩, ⟨(some 6), (.mv (.t 93)), none, [], false⟩]) (
  .seq (
  .region [⟨(some 7), (.mv (.c (.int .i64 0))), none, [], false⟩]) (.block 6 (.loop (
  .seq (
  .seq (
  .region [⟨(some 94), (.mv (.t 7)), none, [], false⟩, ⟨(some 95), (.mv (.t 6)), none, [], false⟩, ⟨(some 96), (.lenSl (.t 95)), none, [], false⟩, ⟨(some 97), (.bin .lss (.t 94) (.t 96)), none, [], false⟩]) (.cond (.t 97) .skip (.exit 6))) (
  .seq (.block 7 (
  .seq (
  .region [⟨(some 100), (.mv (.t 6)), none, [], true⟩, ⟨(some 101), (.mv (.t 7)), none, [], true⟩, ⟨(some 102), (.iaddr 2 (.t 100) (.t 101)), none, [], true⟩, ⟨(some 103), (.faddr 0 (.t 102)), none, [], true⟩, ⟨(some 104), (.load none (.t 103)), none, [], true⟩, ⟨(some 105), (.bin .lss (.t 104) (.c (.int .i64 0))), none, [], true⟩, ⟨(some 106), (.mv (.t 105)), none, [], true⟩, ⟨(some 107), (.mv (.t 6)), (some (106, false)), [], true⟩, ⟨(some 108), (.mv (.t 7)), (some (106, false)), [], true⟩, ⟨(some 109), (.iaddr 2 (.t 107) (.t 108)), (some (106, false)), [], true⟩, ⟨(some 110), (.faddr 0 (.t 109)), (some (106, false)), [], true⟩, ⟨(some 111), (.load none (.t 110)), (some (106, false)), [], true⟩, ⟨(some 112), (.faddr 2 (.t 1)), (some (106, false)), [], true⟩, ⟨(some 113), (.load none (.t 112)), (some (106, false)), [], true⟩, ⟨(some 114), (.lenSl (.t 113)), (some (106, false)), [], true⟩, ⟨(some 115), (.bin .geq (.t 111) (.t 114)), (some (106, false)), [], true⟩, ⟨(some 116), (.pick (.t 106) (.c (.bool true)) (.t 115)), none, [], true⟩, ⟨(some 117), (.mv (.t 116)), none, [], true⟩, ⟨(some 118), (.mv (.t 7)), (some (117, false)), [], true⟩, ⟨(some 119), (.bin .gtr (.t 118) (.c (.int .i64 0))), (some (117, false)), [], true⟩, ⟨(some 120), (.mv (.t 119)), (some (117, false)), [], true⟩, ⟨(some 121), (.mv (.t 6)), (some (120, true)), [], true⟩, ⟨(some 122), (.mv (.t 7)), (some (120, true)), [], true⟩, ⟨(some 123), (.bin .sub (.t 122) (.c (.int .i64 1))), (some (120, true)), [], true⟩, ⟨(some 124), (.iaddr 2 (.t 121) (.t 123)), (some (120, true)), [], true⟩, ⟨(some 125), (.load (some 2) (.t 124)), (some (120, true)), [], true⟩, ⟨(some 126), (.mv (.t 6)), (some (120, true)), [], true⟩, ⟨(some 127), (.mv (.t 7)), (some (120, true)), [], true⟩, ⟨(some 128), (.iaddr 2 (.t 126) (.t 127)), (some (120, true)), [], true⟩, ⟨(some 129), (.load (some 2) (.t 128)), (some (120, true)), [], true⟩, ⟨(some 130), (.call (.c (.fn (.func 29) [] [])) [(.t 125), (.t 129)]), (some (120, true)), [], true⟩, ⟨(some 131), (.un .not (.t 130)), (some (120, true)), [], true⟩, ⟨(some 132), (.pick (.t 120) (.t 131) (.c (.bool false))), (some (117, false)), [], true⟩, ⟨(some 133), (.pick (.t 117) (.c (.bool true)) (.t 132)), none, [], true⟩]) (.cond (.t 133) (
  .seq (
  .region [⟨(some 2), (.mv (.c (.bool false))), none, [], false⟩]) .ret) .skip))) (
  .region [⟨(some 98), (.mv (.t 7)), none, [], false⟩, ⟨(some 99), (.bin .add (.t 98) (.c (.int .i64 1))), none, [], false⟩, ⟨(some 7), (.mv (.t 99)), none, [], false⟩])))))))) (
  .region [⟨(some 84), (.mv (.t 5)), none, [], false⟩, ⟨(some 85), (.bin .add (.t 84) (.c (.int .i64 1))), none, [], false⟩, ⟨(some 5), (.mv (.t 85)), none, [], false⟩])))))))) (
  .region [⟨(some 69), (.mv (.t 4)), none, [], false⟩, ⟨(some 70), (.bin .add (.t 69) (.c (.int .i64 1))), none, [], false⟩, ⟨(some 4), (.mv (.t 70)), none, [], false⟩])))))) (
  .seq (
  .region [⟨(some 2), (.mv (.c (.bool true))), none, [], false⟩]) .ret)))))⟩
theorem c11 : compFunc Tryz.prog GL [] Tryz.f11 = some l11 := by kernel_rfl
def l13 : LFunc := ⟨47, [(.cell 4 (some 3))],
  (
  .seq (
  .region [⟨(some 2), (.box true (.t 0)), none, [], false⟩, ⟨(some 3), (.box true (.t 1)), none, [], false⟩, ⟨(some 4), (.alloc [(.int .i64 0), .nils, .nils]), none, [], false⟩]) (
  .seq (
  .region [⟨(some 8), (.faddr 2 (.t 2)), none, [], false⟩, ⟨(some 9), (.load none (.t 8)), none, [], false⟩, ⟨(some 10), (.lenSl (.t 9)), none, [], false⟩, ⟨(some 5), (.mv (.t 10)), none, [], false⟩]) (
  .seq (
  .seq (
  .region [⟨(some 11), (.load (some 3) (.t 2)), none, [], false⟩, ⟨(some 12), (.call (.c (.fn (.func 10) [] [])) [(.t 11)]), none, [], false⟩, ⟨(some 13), (.un .not (.t 12)), none, [], false⟩, ⟨(some 14), (.mv (.t 13)), none, [], false⟩, ⟨(some 15), (.load (some 3) (.t 3)), (some (14, false)), [], false⟩, ⟨(some 16), (.call (.c (.fn (.func 10) [] [])) [(.t 15)]), (some (14, false)), [], false⟩, ⟨(some 17), (.un .not (.t 16)), (some (14, false)), [], false⟩, ⟨(some 18), (.pick (.t 14) (.c (.bool true)) (.t 17)), none, [], false⟩, ⟨(some 19), (.mv (.t 18)), none, [], false⟩, ⟨(some 20), (.faddr 0 (.t 2)), (some (19, false)), [], false⟩, ⟨(some 21), (.load none (.t 20)), (some (19, false)), [], false⟩, ⟨(some 22), (.faddr 0 (.t 3)), (some (19, false)), [], false⟩, ⟨(some 23), (.load none (.t 22)), (some (19, false)), [], false⟩, ⟨(some 24), (.bin .neq (.t 21) (.t 23)), (some (19, false)), [], false⟩, ⟨(some 25), (.pick (.t 19) (.c (.bool true)) (.t 24)), none, [], false⟩, ⟨(some 26), (.mv (.t 25)), none, [], false⟩, ⟨(some 27), (.mv (.t 5)), (some (26, false)), [], false⟩, ⟨(some 28), (.faddr 2 (.t 3)), (some (26, false)), [], false⟩, ⟨(some 29), (.load none (.t 28)), (some (26, false)), [], false⟩, ⟨(some 30), (.lenSl (.t 29)), (some (26, false)), [], false⟩, ⟨(some 31), (.bin .add (.t 27) (.t 30)), (some (26, false)), [], false⟩, ⟨(some 32), (.bin .gtr (.t 31) (.c (.int .i64 3000))), (some (26, false)), [], false⟩, ⟨(some 33), (.pick (.t 26) (.c (.bool true)) (.t 32)), none, [], false⟩]) (.cond (.t 33) (
  .seq (
  .region [⟨(some 34), (.build [(.int .i64 0), .nils, .nils] []), none, [], false⟩, ⟨none, (.store 3 (.t 4) (.t 34)), none, [], false⟩]) .ret) .skip)) (
  .seq (
  .region [⟨(some 35), (.faddr 0 (.t 2)), none, [], false⟩, ⟨(some 36), (.load none (.t 35)), none, [], false⟩, ⟨(some 37), (.build [(.int .i64 0), .nils, .nils] [(0, (1, (.t 36)))]), none, [], false⟩, ⟨(some 6), (.alloc [(.int .i64 0), .nils, .nils]), none, [], false⟩, ⟨none, (.store 3 (.t 6) (.t 37)), none, [], false⟩]) (
  .seq (
  .region [⟨(some 38), (.mkfn (.func 31) [] [(.t 6)]), none, [], false⟩, ⟨(some 7), (.mv (.t 38)), none, [], false⟩]) (
  .seq (
  .region [⟨(some 39), (.mv (.t 7)), none, [], false⟩, ⟨(some 40), (.load (some 3) (.t 2)), none, [], false⟩, ⟨(some 41), (.call (.t 39) [(.t 40), (.c (.int .i64 0))]), none, [], false⟩]) (
  .seq (
  .region [⟨(some 42), (.mv (.t 7)), none, [], false⟩, ⟨(some 43), (.load (some 3) (.t 3)), none, [], false⟩, ⟨(some 44), (.mv (.t 5)), none, [], false⟩, ⟨(some 45), (.call (.t 42) [(.t 43), (.t 44)]), none, [], false⟩]) (
  .seq (
  .region [⟨(some 46), (.load (some 3) (.t 6)), none, [], false⟩, ⟨none, (.store 3 (.t 4) (.t 46)), none, [], false⟩]) .ret))))))))⟩
theorem c13 : compFunc Tryz.prog GL [] Tryz.f13 = some l13 := by kernel_rfl
def l17 : LFunc := ⟨66, [(.tmp 4)],
  (
  .seq (
  .region [⟨(some 2), (.box true (.t 0)), none, [], false⟩, ⟨(some 4), (.mv (.c (.bool false))), none, [], false⟩]) (
  .seq (
  .region [⟨(some 9), (.faddr 2 (.t 2)), none, [], false⟩, ⟨(some 10), (.load none (.t 9)), none, [], false⟩, ⟨(some 11), (.lenSl (.t 10)), none, [], false⟩, ⟨(some 12), (.mkslice 1 1 [(.bool false)] (.t 11) (.t 11)), none, [], false⟩, ⟨(some 5), (.mv (.t 12)), none, [], false⟩]) (
  .seq (
  .seq (
  .region [⟨(some 6), (.mv (.c (.int .i64 0))), none, [], false⟩]) (.block 0 (.loop (
  .seq (
  .seq (
  .region [⟨(some 13), (.mv (.t 6)), none, [], false⟩, ⟨(some 14), (.faddr 1 (.t 2)), none, [], false⟩, ⟨(some 15), (.load none (.t 14)), none, [], false⟩, ⟨(some 16), (.lenSl (.t 15)), none, [], false⟩, ⟨(some 17), (.bin .lss (.t 13) (.t 16)), none, [], false⟩]) (.cond (.t 17) .skip (.exit 0))) (
  .seq (.block 1 (
  .seq (
  .region [⟨(some 20), (.faddr 1 (.t 2)), none, [], false⟩, ⟨(some 21), (.load none (.t 20)), none, [], false⟩, ⟨(some 22), (.mv (.t 6)), none, [], false⟩, ⟨(some 23), (.iaddr 1 (.t 21) (.t 22)), none, [], false⟩, ⟨(some 24), (.load none (.t 23)), none, [], false⟩, ⟨(some 25), (.bin .geq (.t 24) (.c (.int .i64 0))), none, [], false⟩, ⟨(some 26), (.mv (.t 25)), none, [], false⟩, ⟨(some 27), (.faddr 1 (.t 2)), (some (26, true)), [], false⟩, ⟨(some 28), (.load none (.t 27)), (some (26, true)), [], false⟩, ⟨(some 29), (.mv (.t 6)), (some (26, true)), [], false⟩, ⟨(some 30), (.iaddr 1 (.t 28) (.t 29)), (some (26, true)), [], false⟩, ⟨(some 31), (.load none (.t 30)), (some (26, true)), [], false⟩, ⟨(some 32), (.mv (.t 5)), (some (26, true)), [], false⟩, ⟨(some 33), (.lenSl (.t 32)), (some (26, true)), [], false⟩, ⟨(some 34), (.bin .lss (.t 31) (.t 33)), (some (26, true)), [], false⟩, ⟨(some 35), (.pick (.t 26) (.t 34) (.c (.bool false))), none, [], false⟩]) (.cond (.t 35) (
  .region [⟨(some 36), (.mv (.t 5)), none, [], false⟩, ⟨(some 37), (.faddr 1 (.t 2)), none, [], false⟩, ⟨(some 38), (.load none (.t 37)), none, [], false⟩, ⟨(some 39), (.mv (.t 6)), none, [], false⟩, ⟨(some 40), (.iaddr 1 (.t 38) (.t 39)), none, [], false⟩, ⟨(some 41), (.load none (.t 40)), none, [], false⟩, ⟨(some 42), (.iaddr 1 (.t 36) (.t 41)), none, [], false⟩, ⟨none, (.store 1 (.t 42) (.c (.bool true))), none, [], false⟩]) .skip))) (
  .region [⟨(some 18), (.mv (.t 6)), none, [], false⟩, ⟨(some 19), (.bin .add (.t 18) (.c (.int .i64 1))), none, [], false⟩, ⟨(some 6), (.mv (.t 19)), none, [], false⟩])))))) (
  .seq (
  .seq (
  .region [⟨(some 7), (.mv (.c (.int .i64 0))), none, [], false⟩]) (.block 2 (.loop (
  .seq (
  .seq (
  .region [⟨(some 43), (.mv (.t 7)), none, [], false⟩, ⟨(some 44), (.mv (.t 1)), none, [], false⟩, ⟨(some 45), (.lenSl (.t 44)), none, [], false⟩, ⟨(some 46), (.bin .lss (.t 43) (.t 45)), none, [], false⟩]) (.cond (.t 46) .skip (.exit 2))) (
  .seq (.block 3 (
  .region [⟨(some 49), (.load (some 3) (.t 2)), none, [], true⟩, ⟨(some 50), (.mv (.t 5)), none, [], true⟩, ⟨(some 51), (.mv (.t 1)), none, [], true⟩, ⟨(some 52), (.mv (.t 7)), none, [], true⟩, ⟨(some 53), (.iaddr 1 (.t 51) (.t 52)), none, [], true⟩, ⟨(some 54), (.load none (.t 53)), none, [], true⟩, ⟨(some 55), (.call (.c (.fn (.func 35) [] [])) [(.t 49), (.t 50), (.t 54)]), none, [], true⟩, ⟨(some 5), (.mv (.t 55)), none, [], true⟩])) (
  .region [⟨(some 47), (.mv (.t 7)), none, [], false⟩, ⟨(some 48), (.bin .add (.t 47) (.c (.int .i64 1))), none, [], false⟩, ⟨(some 7), (.mv (.t 48)), none, [], false⟩])))))) (
  .seq (
  .seq (
  .region [⟨(some 8), (.mv (.c (.int .i64 0))), none, [], false⟩]) (.block 4 (.loop (
  .seq (
  .seq (
  .region [⟨(some 56), (.mv (.t 8)), none, [], false⟩, ⟨(some 57), (.mv (.t 5)), none, [], false⟩, ⟨(some 58), (.lenSl (.t 57)), none, [], false⟩, ⟨(some 59), (.bin .lss (.t 56) (.t 58)), none, [], false⟩]) (.cond (.t 59) .skip (.exit 4))) (
  .seq (.block 5 (
  .seq (
  .region [⟨(some 62), (.mv (.t 5)), none, [], false⟩, ⟨(some 63), (.mv (.t 8)), none, [], false⟩, ⟨(some 64), (.iaddr 1 (.t 62) (.t 63)), none, [], false⟩, ⟨(some 65), (.load none (.t 64)), none, [], false⟩]) (.cond (.t 65) (
  .seq (
  .region [⟨(some 4), (.mv (.c (.bool true))), none, [], false⟩]) .ret) .skip))) (
  .region [⟨(some 60), (.mv (.t 8)), none, [], false⟩, ⟨(some 61), (.bin .add (.t 60) (.c (.int .i64 1))), none, [], false⟩, ⟨(some 8), (.mv (.t 61)), none, [], false⟩])))))) (
  .seq (
  .region [⟨(some 4), (.mv (.c (.bool false))), none, [], false⟩]) .ret))))))⟩
theorem c17 : compFunc Tryz.prog GL [] Tryz.f17 = some l17 := by kernel_rfl
def l21 : LFunc := ⟨8, [(.tmp 6)],
  (
  .seq (
  .region [⟨(some 4), (.box true (.t 0)), none, [], false⟩, ⟨(some 5), (.box true (.t 1)), none, [], false⟩, ⟨(some 6), (.mv (.c .nilf)), none, [], false⟩]) (
  .seq (
  .region [⟨(some 7), (.mkfn (.func 22) [] [(.t 2), (.t 4), (.t 5), (.t 3)]), none, [], false⟩, ⟨(some 6), (.mv (.t 7)), none, [], false⟩]) .ret))⟩
theorem c21 : compFunc Tryz.prog GL [] Tryz.f21 = some l21 := by kernel_rfl
def l22 : LFunc := ⟨67, [],
  (
  .seq (
  .region [⟨(some 11), (.faddr 2 (.t 1)), none, [], true⟩, ⟨(some 12), (.load none (.t 11)), none, [], true⟩, ⟨(some 13), (.faddr 0 (.t 2)), none, [], true⟩, ⟨(some 14), (.load none (.t 13)), none, [], true⟩, ⟨(some 15), (.iaddr 1 (.t 12) (.t 14)), none, [], true⟩, ⟨(some 16), (.load none (.t 15)), none, [], true⟩, ⟨(some 17), (.load none (.t 3)), none, [], true⟩, ⟨(some 18), (.iaddr 1 (.t 16) (.t 17)), none, [], true⟩, ⟨(some 19), (.load none (.t 18)), none, [], true⟩, ⟨(some 20), (.lenSl (.t 19)), none, [], true⟩, ⟨(some 21), (.mv (.c (.int .i64 0))), none, [], true⟩]) (.block 0 (.loop (
  .seq (
  .region [⟨(some 22), (.bin .lss (.t 21) (.t 20)), none, [], false⟩]) (
  .seq (.cond (.t 22) .skip (.exit 0)) (
  .seq (.block 1 (
  .seq (
  .region [⟨(some 23), (.iaddr 2 (.t 19) (.t 21)), none, [], false⟩, ⟨(some 24), (.load (some 2) (.t 23)), none, [], false⟩, ⟨(some 7), (.alloc [(.int .i64 0), (.bool false)]), none, [], false⟩, ⟨none, (.store 2 (.t 7) (.t 24)), none, [], false⟩]) (
  .seq (
  .region [⟨(some 25), (.faddr 2 (.t 4)), none, [], true⟩, ⟨(some 26), (.load none (.t 25)), none, [], true⟩, ⟨(some 27), (.faddr 1 (.t 2)), none, [], true⟩, ⟨(some 28), (.load none (.t 27)), none, [], true⟩, ⟨(some 29), (.iaddr 1 (.t 26) (.t 28)), none, [], true⟩, ⟨(some 30), (.load none (.t 29)), none, [], true⟩, ⟨(some 31), (.load none (.t 3)), none, [], true⟩, ⟨(some 32), (.iaddr 1 (.t 30) (.t 31)), none, [], true⟩, ⟨(some 33), (.load none (.t 32)), none, [], true⟩, ⟨(some 34), (.lenSl (.t 33)), none, [], true⟩, ⟨(some 35), (.mv (.c (.int .i64 0))), none, [], true⟩]) (.block 2 (.loop (
  .seq (
  .region [⟨(some 36), (.bin .lss (.t 35) (.t 34)), none, [], false⟩]) (
  .seq (.cond (.t 36) .skip (.exit 2)) (
  .seq (.block 3 (
  .seq (
  .region [⟨(some 37), (.iaddr 2 (.t 33) (.t 35)), none, [], false⟩, ⟨(some 38), (.load (some 2) (.t 37)), none, [], false⟩, ⟨(some 9), (.alloc [(.int .i64 0), (.bool false)]), none, [], false⟩, ⟨none, (.store 2 (.t 9) (.t 38)), none, [], false⟩]) (
  .seq (
  .region [⟨(some 39), (.faddr 2 (.t 2)), none, [], false⟩, ⟨(some 40), (.load none (.t 39)), none, [], false⟩, ⟨(some 10), (.mv (.t 40)), none, [], false⟩]) (
  .seq (
  .seq (
  .region [⟨(some 41), (.mv (.t 10)), none, [], false⟩, ⟨(some 42), (.bin .eql (.t 41) (.c (.int .i64 0))), none, [], false⟩, ⟨(some 43), (.mv (.t 42)), none, [], false⟩, ⟨(some 44), (.faddr 1 (.t 7)), (some (43, true)), [], false⟩, ⟨(some 45), (.load none (.t 44)), (some (43, true)), [], false⟩, ⟨(some 46), (.pick (.t 43) (.t 45) (.c (.bool false))), none, [], false⟩]) (.cond (.t 46) (
  .region [⟨(some 10), (.mv (.c (.int .i64 1))), none, [], false⟩]) .skip)) (
  .seq (
  .seq (
  .region [⟨(some 47), (.mv (.t 10)), none, [], false⟩, ⟨(some 48), (.bin .eql (.t 47) (.c (.int .i64 1))), none, [], false⟩, ⟨(some 49), (.mv (.t 48)), none, [], false⟩, ⟨(some 50), (.faddr 1 (.t 9)), (some (49, true)), [], false⟩, ⟨(some 51), (.load none (.t 50)), (some (49, true)), [], false⟩, ⟨(some 52), (.pick (.t 49) (.t 51) (.c (.bool false))), none, [], false⟩]) (.cond (.t 52) (
  .region [⟨(some 10), (.mv (.c (.int .i64 2))), none, [], false⟩]) .skip)) (
  .seq (
  .region [⟨(some 53), (.mv (.t 0)), none, [], false⟩, ⟨(some 54), (.faddr 0 (.t 7)), none, [], false⟩, ⟨(some 55), (.load none (.t 54)), none, [], false⟩, ⟨(some 56), (.faddr 0 (.t 9)), none, [], false⟩, ⟨(some 57), (.load none (.t 56)), none, [], false⟩, ⟨(some 58), (.mv (.t 10)), none, [], false⟩, ⟨(some 59), (.bin .rem (.t 58) (.c (.int .i64 2))), none, [], false⟩, ⟨(some 60), (.build [(.int .i64 0), (.int .i64 0), (.int .i64 0)] [(0, (1, (.t 55))), (1, (1, (.t 57))), (2, (1, (.t 59)))]), none, [], false⟩, ⟨(some 61), (.mv (.t 10)), none, [], false⟩, ⟨(some 62), (.bin .eql (.t 61) (.c (.int .i64 2))), none, [], false⟩, ⟨(some 63), (.call (.t 53) [(.t 60), (.t 62)]), none, [], false⟩, ⟨(some 64), (.un .not (.t 63)), none, [], false⟩]) (.cond (.t 64) .ret .skip))))))) (
  .region [⟨(some 65), (.bin .add (.t 35) (.c (.int .i64 1))), none, [], false⟩, ⟨(some 35), (.mv (.t 65)), none, [], false⟩]))))))))) (
  .region [⟨(some 66), (.bin .add (.t 21) (.c (.int .i64 1))), none, [], false⟩, ⟨(some 21), (.mv (.t 66)), none, [], false⟩])))))))⟩
theorem c22 : compFunc Tryz.prog GL [] Tryz.f22 = some l22 := by kernel_rfl
def l23 : LFunc := ⟨96, [(.cell 8 (some 3)), (.cell 9 none)],
  (
  .seq (
  .region [⟨(some 6), (.box true (.t 2)), none, [], false⟩, ⟨(some 8), (.alloc [(.int .i64 0), .nils, .nils]), none, [], false⟩, ⟨(some 9), (.alloc [(.int .i64 0)]), none, [], false⟩]) (
  .seq (
  .region [⟨(some 22), (.mkmap none), none, [], false⟩, ⟨(some 10), (.alloc [.nilm]), none, [], false⟩, ⟨none, (.store 1 (.t 10) (.t 22)), none, [], false⟩]) (
  .seq (
  .region [⟨(some 11), (.alloc [.nils]), none, [], false⟩]) (
  .seq (
  .region [⟨(some 23), (.mkfn (.func 44) [] [(.t 10), (.t 11)]), none, [], false⟩, ⟨(some 12), (.alloc [.nilf]), none, [], false⟩, ⟨none, (.store 1 (.t 12) (.t 23)), none, [], false⟩]) (
  .seq (
  .region [⟨(some 24), (.mv (.t 0)), none, [], false⟩, ⟨(some 25), (.build [(.int .i64 0), .nils, .nils] [(0, (1, (.t 24)))]), none, [], false⟩, ⟨(some 13), (.alloc [(.int .i64 0), .nils, .nils]), none, [], false⟩, ⟨none, (.store 3 (.t 13) (.t 25)), none, [], false⟩]) (
  .seq (
  .seq (
  .region [⟨(some 26), (.mv (.t 1)), none, [], false⟩, ⟨(some 27), (.lenSl (.t 26)), none, [], false⟩, ⟨(some 28), (.mv (.c (.int .i64 0))), none, [], false⟩]) (.block 0 (.loop (
  .seq (
  .region [⟨(some 29), (.bin .lss (.t 28) (.t 27)), none, [], false⟩]) (
  .seq (.cond (.t 29) .skip (.exit 0)) (
  .seq (.block 1 (
  .seq (
  .region [⟨(some 30), (.iaddr 3 (.t 26) (.t 28)), none, [], false⟩, ⟨(some 31), (.load (some 3) (.t 30)), none, [], false⟩, ⟨(some 15), (.alloc [(.int .i64 0), (.int .i64 0), (.int .i64 0)]), none, [], false⟩, ⟨none, (.store 3 (.t 15) (.t 31)), none, [], false⟩]) (
  .seq (
  .region [⟨(some 32), (.faddr 1 (.t 13)), none, [], true⟩, ⟨(some 33), (.load none (.t 32)), none, [], true⟩, ⟨(some 34), (.load none (.t 12)), none, [], true⟩, ⟨(some 35), (.load (some 3) (.t 15)), none, [], true⟩, ⟨(some 36), (.call (.t 34) [(.t 35)]), none, [(33, (none, (.load none (.t 32))))], true⟩, ⟨(some 37), (.bslice 1 1 [(.int .i64 0)] [(0, (1, (.t 36)))]), none, [(33, (none, (.load none (.t 32)))), (34, (none, (.load none (.t 12)))), (35, (none, (.load (some 3) (.t 15))))], true⟩, ⟨(some 38), (.append 1 8 (.t 33) (.t 37)), none, [], true⟩, ⟨(some 39), (.faddr 1 (.t 13)), none, [], true⟩, ⟨none, (.store 1 (.t 39) (.t 38)), none, [], true⟩]) (
  .seq (
  .region [⟨(some 40), (.load none (.t 11)), none, [], false⟩, ⟨(some 41), (.lenSl (.t 40)), none, [], false⟩, ⟨(some 42), (.load none (.t 6)), none, [], false⟩, ⟨(some 43), (.bin .gtr (.t 41) (.t 42)), none, [], false⟩]) (.cond (.t 43) (
  .seq (
  .region [⟨(some 44), (.build [(.int .i64 0), .nils, .nils] []), none, [], false⟩, ⟨none, (.store 3 (.t 8) (.t 44)), none, [], false⟩, ⟨none, (.store 1 (.t 9) (.c (.int .i64 2))), none, [], false⟩]) .ret) .skip))))) (
  .region [⟨(some 45), (.bin .add (.t 28) (.c (.int .i64 1))), none, [], false⟩, ⟨(some 28), (.mv (.t 45)), none, [], false⟩]))))))) (
  .seq (
  .seq (
  .region [⟨(some 16), (.mv (.c (.int .i64 0))), none, [], false⟩]) (.block 2 (.loop (
  .seq (
  .seq (
  .region [⟨(some 46), (.mv (.t 16)), none, [], false⟩, ⟨(some 47), (.load none (.t 11)), none, [], false⟩, ⟨(some 48), (.lenSl (.t 47)), none, [], false⟩, ⟨(some 49), (.bin .lss (.t 46) (.t 48)), none, [], false⟩]) (.cond (.t 49) .skip (.exit 2))) (
  .seq (.block 3 (
  .seq (
  .region [⟨(some 52), (.mv (.t 0)), none, [], false⟩, ⟨(some 53), (.mkslice 1 24 [.nils] (.t 52) (.t 52)), none, [], false⟩, ⟨(some 17), (.mv (.t 53)), none, [], false⟩]) (
  .seq (
  .seq (
  .region [⟨(some 54), (.mv (.t 17)), none, [], false⟩, ⟨(some 55), (.lenSl (.t 54)), none, [], false⟩, ⟨(some 56), (.mv (.c (.int .i64 0))), none, [], false⟩]) (.block 4 (.loop (
  .seq (
  .region [⟨(some 57), (.bin .lss (.t 56) (.t 55)), none, [], false⟩]) (
  .seq (.cond (.t 57) .skip (.exit 4)) (
  .seq (.block 5 (
  .seq (
  .region [⟨(some 58), (.mv (.t 56)), none, [], false⟩, ⟨(some 18), (.mv (.t 58)), none, [], false⟩]) (
  .seq (
  .region [⟨(some 19), (.alloc [.nils]), none, [], false⟩]) (
  .seq (
  .seq (
  .region [⟨(some 59), (.mv (.t 3)), none, [], false⟩, ⟨(some 60), (.load none (.t 11)), none, [], false⟩, ⟨(some 61), (.mv (.t 16)), none, [], false⟩, ⟨(some 62), (.iaddr 3 (.t 60) (.t 61)), none, [], false⟩, ⟨(some 63), (.load (some 3) (.t 62)), none, [], false⟩, ⟨(some 64), (.mv (.t 18)), none, [], false⟩, ⟨(some 65), (.call (.t 59) [(.t 63), (.t 64)]), none, [], false⟩]) (.block 6 (.rangeFunc (.t 65) [66, 67] (
  .seq (
  .region [⟨(some 20), (.alloc [(.int .i64 0), (.int .i64 0), (.int .i64 0)]), none, [], false⟩, ⟨none, (.store 3 (.t 20) (.t 66)), none, [], false⟩]) (
  .region [⟨(some 21), (.mv (.t 67)), none, [], false⟩])) (.block 7 (
  .seq (
  .region [⟨(some 68), (.load none (.t 19)), none, [], true⟩, ⟨(some 69), (.load none (.t 12)), none, [], true⟩, ⟨(some 70), (.load (some 3) (.t 20)), none, [], true⟩, ⟨(some 72), (.mv (.t 21)), none, [], true⟩, ⟨(some 71), (.call (.t 69) [(.t 70)]), none, [(68, (none, (.load none (.t 19))))], true⟩, ⟨(some 73), (.build [(.int .i64 0), (.bool false)] [(0, (1, (.t 71))), (1, (1, (.t 72)))]), none, [], true⟩, ⟨(some 74), (.bslice 2 1 [(.int .i64 0), (.bool false)] [(0, (2, (.t 73)))]), none, [(68, (none, (.load none (.t 19)))), (69, (none, (.load none (.t 12)))), (70, (none, (.load (some 3) (.t 20))))], true⟩, ⟨(some 75), (.append 2 16 (.t 68) (.t 74)), none, [], true⟩, ⟨none, (.store 1 (.t 19) (.t 75)), none, [], true⟩]) (
  .seq (
  .region [⟨(some 76), (.load none (.t 11)), none, [], false⟩, ⟨(some 77), (.lenSl (.t 76)), none, [], false⟩, ⟨(some 78), (.load none (.t 6)), none, [], false⟩, ⟨(some 79), (.bin .gtr (.t 77) (.t 78)), none, [], false⟩]) (.cond (.t 79) (
  .seq (
  .region [⟨(some 80), (.build [(.int .i64 0), .nils, .nils] []), none, [], false⟩, ⟨none, (.store 3 (.t 8) (.t 80)), none, [], false⟩, ⟨none, (.store 1 (.t 9) (.c (.int .i64 2))), none, [], false⟩]) .ret) .skip))))))) (
  .seq (
  .region [⟨(some 81), (.load none (.t 19)), none, [], false⟩, ⟨(some 82), (.call (.c (.fn (.func 45) [] [])) [(.t 81), (.c (.fn (.func 28) [] []))]), none, [], false⟩]) (
  .region [⟨(some 83), (.mv (.t 17)), none, [], false⟩, ⟨(some 84), (.mv (.t 18)), none, [], false⟩, ⟨(some 85), (.load none (.t 19)), none, [], false⟩, ⟨(some 86), (.call (.c (.fn (.func 46) [] [])) [(.t 85)]), none, [], false⟩, ⟨(some 87), (.iaddr 1 (.t 83) (.t 84)), none, [], false⟩, ⟨none, (.store 1 (.t 87) (.t 86)), none, [], false⟩])))))) (
  .region [⟨(some 88), (.bin .add (.t 56) (.c (.int .i64 1))), none, [], false⟩, ⟨(some 56), (.mv (.t 88)), none, [], false⟩]))))))) (
  .region [⟨(some 89), (.faddr 2 (.t 13)), none, [], false⟩, ⟨(some 90), (.load none (.t 89)), none, [], false⟩, ⟨(some 91), (.mv (.t 17)), none, [], false⟩, ⟨(some 92), (.bslice 1 1 [.nils] [(0, (1, (.t 91)))]), none, [], false⟩, ⟨(some 93), (.append 1 24 (.t 90) (.t 92)), none, [], false⟩, ⟨(some 94), (.faddr 2 (.t 13)), none, [], false⟩, ⟨none, (.store 1 (.t 94) (.t 93)), none, [], false⟩])))) (
  .region [⟨(some 50), (.mv (.t 16)), none, [], false⟩, ⟨(some 51), (.bin .add (.t 50) (.c (.int .i64 1))), none, [], false⟩, ⟨(some 16), (.mv (.t 51)), none, [], false⟩])))))) (
  .seq (
  .region [⟨(some 95), (.load (some 3) (.t 13)), none, [], false⟩, ⟨none, (.store 3 (.t 8) (.t 95)), none, [], false⟩, ⟨none, (.store 1 (.t 9) (.c (.int .i64 0))), none, [], false⟩]) .ret))))))))⟩
theorem c23 : compFunc Tryz.prog GL [] Tryz.f23 = some l23 := by kernel_rfl
def l27 : LFunc := ⟨13, [(.tmp 3)],
  (
  .seq (
  .region [⟨(some 3), (.mv (.c (.bool false))), none, [], false⟩]) (
  .seq (
  .region [⟨(some 4), (.mv (.t 0)), none, [], false⟩, ⟨(some 5), (.bin .geq (.t 4) (.c (.int .i64 0))), none, [], false⟩, ⟨(some 6), (.mv (.t 5)), none, [], false⟩, ⟨(some 7), (.mv (.t 0)), (some (6, true)), [], false⟩, ⟨(some 8), (.faddr 2 (.t 1)), (some (6, true)), [], false⟩, ⟨(some 9), (.load none (.t 8)), (some (6, true)), [], false⟩, ⟨(some 10), (.lenSl (.t 9)), (some (6, true)), [], false⟩, ⟨(some 11), (.bin .lss (.t 7) (.t 10)), (some (6, true)), [], false⟩, ⟨(some 12), (.pick (.t 6) (.t 11) (.c (.bool false))), none, [], false⟩, ⟨(some 3), (.mv (.t 12)), none, [], false⟩]) .ret))⟩
theorem c27 : compFunc Tryz.prog GL [] Tryz.f27 = some l27 := by kernel_rfl
def l28 : LFunc := ⟨23, [(.tmp 4)],
  (
  .seq (
  .region [⟨(some 2), (.box true (.t 0)), none, [], false⟩, ⟨(some 3), (.box true (.t 1)), none, [], false⟩, ⟨(some 4), (.mv (.c (.int .i64 0))), none, [], false⟩]) (
  .seq (
  .seq (
  .region [⟨(some 6), (.faddr 0 (.t 2)), none, [], false⟩, ⟨(some 7), (.load none (.t 6)), none, [], false⟩, ⟨(some 8), (.faddr 0 (.t 3)), none, [], false⟩, ⟨(some 9), (.load none (.t 8)), none, [], false⟩, ⟨(some 10), (.call (.c (.fn (.func 47) [] [])) [(.t 7), (.t 9)]), none, [], false⟩, ⟨(some 5), (.mv (.t 10)), none, [], false⟩]) (
  .seq (
  .region [⟨(some 11), (.mv (.t 5)), none, [], false⟩, ⟨(some 12), (.bin .neq (.t 11) (.c (.int .i64 0))), none, [], false⟩, ⟨(some 13), (.mv (.t 12)), none, [], false⟩, ⟨(some 14), (.faddr 1 (.t 2)), (some (13, false)), [], false⟩, ⟨(some 15), (.load none (.t 14)), (some (13, false)), [], false⟩, ⟨(some 16), (.faddr 1 (.t 3)), (some (13, false)), [], false⟩, ⟨(some 17), (.load none (.t 16)), (some (13, false)), [], false⟩, ⟨(some 18), (.eq false .bool (.t 15) (.t 17)), (some (13, false)), [], false⟩, ⟨(some 19), (.pick (.t 13) (.c (.bool true)) (.t 18)), none, [], false⟩]) (.cond (.t 19) (
  .seq (
  .region [⟨(some 20), (.mv (.t 5)), none, [], false⟩, ⟨(some 4), (.mv (.t 20)), none, [], false⟩]) .ret) .skip))) (
  .seq (
  .seq (
  .region [⟨(some 21), (.faddr 1 (.t 3)), none, [], false⟩, ⟨(some 22), (.load none (.t 21)), none, [], false⟩]) (.cond (.t 22) (
  .seq (
  .region [⟨(some 4), (.mv (.c (.int .i64 (-1)))), none, [], false⟩]) .ret) .skip)) (
  .seq (
  .region [⟨(some 4), (.mv (.c (.int .i64 1))), none, [], false⟩]) .ret))))⟩
theorem c28 : compFunc Tryz.prog GL [] Tryz.f28 = some l28 := by kernel_rfl
def l29 : LFunc := ⟨26, [(.tmp 4)],
  (
  .seq (
  .region [⟨(some 2), (.box true (.t 0)), none, [], false⟩, ⟨(some 3), (.box true (.t 1)), none, [], false⟩, ⟨(some 4), (.mv (.c (.bool false))), none, [], false⟩]) (
  .seq (
  .region [⟨(some 5), (.faddr 0 (.t 2)), none, [], false⟩, ⟨(some 6), (.load none (.t 5)), none, [], false⟩, ⟨(some 7), (.faddr 0 (.t 3)), none, [], false⟩, ⟨(some 8), (.load none (.t 7)), none, [], false⟩, ⟨(some 9), (.bin .lss (.t 6) (.t 8)), none, [], false⟩, ⟨(some 10), (.mv (.t 9)), none, [], false⟩, ⟨(some 11), (.faddr 0 (.t 2)), (some (10, false)), [], false⟩, ⟨(some 12), (.load none (.t 11)), (some (10, false)), [], false⟩, ⟨(some 13), (.faddr 0 (.t 3)), (some (10, false)), [], false⟩, ⟨(some 14), (.load none (.t 13)), (some (10, false)), [], false⟩, ⟨(some 15), (.bin .eql (.t 12) (.t 14)), (some (10, false)), [], false⟩, ⟨(some 16), (.mv (.t 15)), (some (10, false)), [], false⟩, ⟨(some 17), (.faddr 1 (.t 2)), (some (16, true)), [], false⟩, ⟨(some 18), (.load none (.t 17)), (some (16, true)), [], false⟩, ⟨(some 19), (.un .not (.t 18)), (some (16, true)), [], false⟩, ⟨(some 20), (.pick (.t 16) (.t 19) (.c (.bool false))), (some (10, false)), [], false⟩, ⟨(some 21), (.mv (.t 20)), (some (10, false)), [], false⟩, ⟨(some 22), (.faddr 1 (.t 3)), (some (21, true)), [], false⟩, ⟨(some 23), (.load none (.t 22)), (some (21, true)), [], false⟩, ⟨(some 24), (.pick (.t 21) (.t 23) (.c (.bool false))), (some (10, false)), [], false⟩, ⟨(some 25), (.pick (.t 10) (.c (.bool true)) (.t 24)), none, [], false⟩, ⟨(some 4), (.mv (.t 25)), none, [], false⟩]) .ret))⟩
theorem c29 : compFunc Tryz.prog GL [] Tryz.f29 = some l29 := by kernel_rfl
def l31 : LFunc := ⟨78, [],
  (
  .seq (
  .region [⟨(some 3), (.box true (.t 0)), none, [], false⟩]) (
  .seq (
  .seq (
  .region [⟨(some 14), (.faddr 1 (.t 3)), none, [], false⟩, ⟨(some 15), (.load none (.t 14)), none, [], false⟩, ⟨(some 16), (.lenSl (.t 15)), none, [], false⟩, ⟨(some 17), (.mv (.c (.int .i64 0))), none, [], false⟩]) (.block 0 (.loop (
  .seq (
  .region [⟨(some 18), (.bin .lss (.t 17) (.t 16)), none, [], false⟩]) (
  .seq (.cond (.t 18) .skip (.exit 0)) (
  .seq (.block 1 (
  .seq (
  .region [⟨(some 19), (.iaddr 1 (.t 15) (.t 17)), none, [], false⟩, ⟨(some 20), (.load none (.t 19)), none, [], false⟩, ⟨(some 6), (.mv (.t 20)), none, [], false⟩]) (
  .region [⟨(some 21), (.faddr 1 (.t 2)), none, [], false⟩, ⟨(some 22), (.load none (.t 21)), none, [], false⟩, ⟨(some 23), (.mv (.t 6)), none, [], false⟩, ⟨(some 24), (.mv (.t 1)), none, [], false⟩, ⟨(some 25), (.bin .add (.t 23) (.t 24)), none, [], false⟩, ⟨(some 26), (.bslice 1 1 [(.int .i64 0)] [(0, (1, (.t 25)))]), none, [], false⟩, ⟨(some 27), (.append 1 8 (.t 22) (.t 26)), none, [], false⟩, ⟨(some 28), (.faddr 1 (.t 2)), none, [], false⟩, ⟨none, (.store 1 (.t 28) (.t 27)), none, [], false⟩]))) (
  .region [⟨(some 29), (.bin .add (.t 17) (.c (.int .i64 1))), none, [], false⟩, ⟨(some 17), (.mv (.t 29)), none, [], false⟩]))))))) (
  .seq (
  .region [⟨(some 30), (.faddr 2 (.t 3)), none, [], false⟩, ⟨(some 31), (.load none (.t 30)), none, [], false⟩, ⟨(some 32), (.lenSl (.t 31)), none, [], false⟩, ⟨(some 33), (.mv (.c (.int .i64 0))), none, [], false⟩]) (.block 2 (.loop (
  .seq (
  .region [⟨(some 34), (.bin .lss (.t 33) (.t 32)), none, [], false⟩]) (
  .seq (.cond (.t 34) .skip (.exit 2)) (
  .seq (.block 3 (
  .seq (
  .region [⟨(some 35), (.iaddr 1 (.t 31) (.t 33)), none, [], false⟩, ⟨(some 36), (.load none (.t 35)), none, [], false⟩, ⟨(some 8), (.mv (.t 36)), none, [], false⟩]) (
  .seq (
  .region [⟨(some 37), (.mv (.t 8)), none, [], false⟩, ⟨(some 38), (.lenSl (.t 37)), none, [], false⟩, ⟨(some 39), (.mkslice 1 24 [.nils] (.t 38) (.t 38)), none, [], false⟩, ⟨(some 9), (.mv (.t 39)), none, [], false⟩]) (
  .seq (
  .seq (
  .region [⟨(some 40), (.mv (.t 8)), none, [], false⟩, ⟨(some 41), (.lenSl (.t 40)), none, [], false⟩, ⟨(some 42), (.mv (.c (.int .i64 0))), none, [], false⟩]) (.block 4 (.loop (
  .seq (
  .region [⟨(some 43), (.bin .lss (.t 42) (.t 41)), none, [], false⟩]) (
  .seq (.cond (.t 43) .skip (.exit 4)) (
  .seq (.block 5 (
  .seq (
  .region [⟨(some 44), (.mv (.t 42)), none, [], false⟩, ⟨(some 45), (.iaddr 1 (.t 40) (.t 42)), none, [], false⟩, ⟨(some 46), (.load none (.t 45)), none, [], false⟩, ⟨(some 10), (.mv (.t 44)), none, [], false⟩, ⟨(some 11), (.mv (.t 46)), none, [], false⟩]) (
  .seq (
  .region [⟨(some 47), (.mv (.t 11)), none, [], false⟩, ⟨(some 48), (.lenSl (.t 47)), none, [], false⟩, ⟨(some 49), (.mv (.c (.int .i64 0))), none, [], false⟩]) (.block 6 (.loop (
  .seq (
  .region [⟨(some 50), (.bin .lss (.t 49) (.t 48)), none, [], false⟩]) (
  .seq (.cond (.t 50) .skip (.exit 6)) (
  .seq (.block 7 (
  .seq (
  .region [⟨(some 51), (.iaddr 2 (.t 47) (.t 49)), none, [], false⟩, ⟨(some 52), (.load (some 2) (.t 51)), none, [], false⟩, ⟨(some 13), (.alloc [(.int .i64 0), (.bool false)]), none, [], false⟩, ⟨none, (.store 2 (.t 13) (.t 52)), none, [], false⟩]) (
  .region [⟨(some 53), (.mv (.t 9)), none, [], true⟩, ⟨(some 54), (.mv (.t 10)), none, [], true⟩, ⟨(some 55), (.mv (.t 9)), none, [], true⟩, ⟨(some 56), (.mv (.t 10)), none, [], true⟩, ⟨(some 57), (.iaddr 1 (.t 55) (.t 56)), none, [], true⟩, ⟨(some 58), (.load none (.t 57)), none, [], true⟩, ⟨(some 59), (.faddr 0 (.t 13)), none, [], true⟩, ⟨(some 60), (.load none (.t 59)), none, [], true⟩, ⟨(some 61), (.mv (.t 1)), none, [], true⟩, ⟨(some 62), (.bin .add (.t 60) (.t 61)), none, [], true⟩, ⟨(some 63), (.faddr 1 (.t 13)), none, [], true⟩, ⟨(some 64), (.load none (.t 63)), none, [], true⟩, ⟨(some 65), (.build [(.int .i64 0), (.bool false)] [(0, (1, (.t 62))), (1, (1, (.t 64)))]), none, [], true⟩, ⟨(some 66), (.bslice 2 1 [(.int .i64 0), (.bool false)] [(0, (2, (.t 65)))]), none, [(58, (none, (.load none (.t 57)))), (60, (none, (.load none (.t 59)))), (64, (none, (.load none (.t 63))))], true⟩, ⟨(some 67), (.append 2 16 (.t 58) (.t 66)), none, [], true⟩, ⟨(some 68), (.iaddr 1 (.t 53) (.t 54)), none, [], true⟩, ⟨none, (.store 1 (.t 68) (.t 67)), none, [], true⟩]))) (
  .region [⟨(some 69), (.bin .add (.t 49) (.c (.int .i64 1))), none, [], false⟩, ⟨(some 49), (.mv (.t 69)), none, [], false⟩]))))))))) (
  .region [⟨(some 70), (.bin .add (.t 42) (.c (.int .i64 1))), none, [], false⟩, ⟨(some 42), (.mv (.t 70)), none, [], false⟩]))))))) (
  .region [⟨(some 71), (.faddr 2 (.t 2)), none, [], false⟩, ⟨(some 72), (.load none (.t 71)), none, [], false⟩, ⟨(some 73), (.mv (.t 9)), none, [], false⟩, ⟨(some 74), (.bslice 1 1 [.nils] [(0, (1, (.t 73)))]), none, [], false⟩, ⟨(some 75), (.append 1 24 (.t 72) (.t 74)), none, [], false⟩, ⟨(some 76), (.faddr 2 (.t 2)), none, [], false⟩, ⟨none, (.store 1 (.t 76) (.t 75)), none, [], false⟩]))))) (
  .region [⟨(some 77), (.bin .add (.t 33) (.c (.int .i64 1))), none, [], false⟩, ⟨(some 33), (.mv (.t 77)), none, [], false⟩])))))))))⟩
theorem c31 : compFunc Tryz.prog GL [] Tryz.f31 = some l31 := by kernel_rfl
def l35 : LFunc := ⟨81, [(.tmp 6)],
  (
  .seq (
  .region [⟨(some 3), (.box true (.t 0)), none, [], false⟩, ⟨(some 6), (.mv (.c .nils)), none, [], false⟩]) (
  .seq (
  .region [⟨(some 11), (.faddr 2 (.t 3)), none, [], false⟩, ⟨(some 12), (.load none (.t 11)), none, [], false⟩, ⟨(some 13), (.lenSl (.t 12)), none, [], false⟩, ⟨(some 14), (.mkslice 1 1 [(.bool false)] (.t 13) (.t 13)), none, [], false⟩, ⟨(some 7), (.mv (.t 14)), none, [], false⟩]) (
  .seq (
  .seq (
  .region [⟨(some 8), (.mv (.c (.int .i64 0))), none, [], false⟩]) (.block 0 (.loop (
  .seq (
  .seq (
  .region [⟨(some 15), (.mv (.t 8)), none, [], false⟩, ⟨(some 16), (.mv (.t 1)), none, [], false⟩, ⟨(some 17), (.lenSl (.t 16)), none, [], false⟩, ⟨(some 18), (.bin .lss (.t 15) (.t 17)), none, [], false⟩, ⟨(some 19), (.mv (.t 18)), none, [], false⟩, ⟨(some 20), (.mv (.t 8)), (some (19, true)), [], false⟩, ⟨(some 21), (.faddr 2 (.t 3)), (some (19, true)), [], false⟩, ⟨(some 22), (.load none (.t 21)), (some (19, true)), [], false⟩, ⟨(some 23), (.lenSl (.t 22)), (some (19, true)), [], false⟩, ⟨(some 24), (.bin .lss (.t 20) (.t 23)), (some (19, true)), [], false⟩, ⟨(some 25), (.pick (.t 19) (.t 24) (.c (.bool false))), none, [], false⟩]) (.cond (.t 25) .skip (.exit 0))) (
  .seq (.block 1 (
  .seq (
  .region [⟨(some 9), (.mv (.c (.int .i64 0))), none, [], false⟩]) (.block 2 (.loop (
  .seq (
  .seq (
  .region [⟨(some 28), (.mv (.t 1)), none, [], false⟩, ⟨(some 29), (.mv (.t 8)), none, [], false⟩, ⟨(some 30), (.iaddr 1 (.t 28) (.t 29)), none, [], false⟩, ⟨(some 31), (.load none (.t 30)), none, [], false⟩, ⟨(some 32), (.mv (.t 31)), none, [], false⟩, ⟨(some 33), (.mv (.t 2)), (some (32, true)), [], false⟩, ⟨(some 34), (.faddr 2 (.t 3)), (some (32, true)), [], false⟩, ⟨(some 35), (.load none (.t 34)), (some (32, true)), [], false⟩, ⟨(some 36), (.mv (.t 8)), (some (32, true)), [], false⟩, ⟨(some 37), (.iaddr 1 (.t 35) (.t 36)), (some (32, true)), [], false⟩, ⟨(some 38), (.load none (.t 37)), (some (32, true)), [], false⟩, ⟨(some 39), (.lenSl (.t 38)), (some (32, true)), [], false⟩, ⟨(some 40), (.bin .lss (.t 33) (.t 39)), (some (32, true)), [], false⟩, ⟨(some 41), (.pick (.t 32) (.t 40) (.c (.bool false))), none, [], false⟩, ⟨(some 42), (.mv (.t 41)), none, [], false⟩, ⟨(some 43), (.mv (.t 9)), (some (42, true)), [], false⟩, ⟨(some 44), (.faddr 2 (.t 3)), (some (42, true)), [], false⟩, ⟨(some 45), (.load none (.t 44)), (some (42, true)), [], false⟩, ⟨(some 46), (.mv (.t 8)), (some (42, true)), [], false⟩, ⟨(some 47), (.iaddr 1 (.t 45) (.t 46)), (some (42, true)), [], false⟩, ⟨(some 48), (.load none (.t 47)), (some (42, true)), [], false⟩, ⟨(some 49), (.mv (.t 2)), (some (42, true)), [], false⟩, ⟨(some 50), (.iaddr 1 (.t 48) (.t 49)), (some (42, true)), [], false⟩, ⟨(some 51), (.load none (.t 50)), (some (42, true)), [], false⟩, ⟨(some 52), (.lenSl (.t 51)), (some (42, true)), [], false⟩, ⟨(some 53), (.bin .lss (.t 43) (.t 52)), (some (42, true)), [], false⟩, ⟨(some 54), (.pick (.t 42) (.t 53) (.c (.bool false))), none, [], false⟩]) (.cond (.t 54) .skip (.exit 2))) (
  .seq (.block 3 (
  .seq (
  .region [⟨(some 57), (.faddr 2 (.t 3)), none, [], false⟩, ⟨(some 58), (.load none (.t 57)), none, [], false⟩, ⟨(some 59), (.mv (.t 8)), none, [], false⟩, ⟨(some 60), (.iaddr 1 (.t 58) (.t 59)), none, [], false⟩, ⟨(some 61), (.load none (.t 60)), none, [], false⟩, ⟨(some 62), (.mv (.t 2)), none, [], false⟩, ⟨(some 63), (.iaddr 1 (.t 61) (.t 62)), none, [], false⟩, ⟨(some 64), (.load none (.t 63)), none, [], false⟩, ⟨(some 65), (.mv (.t 9)), none, [], false⟩, ⟨(some 66), (.iaddr 2 (.t 64) (.t 65)), none, [], false⟩, ⟨(some 67), (.faddr 0 (.t 66)), none, [], false⟩, ⟨(some 68), (.load none (.t 67)), none, [], false⟩, ⟨(some 10), (.mv (.t 68)), none, [], false⟩]) (
  .seq (
  .region [⟨(some 69), (.mv (.t 10)), none, [], false⟩, ⟨(some 70), (.bin .geq (.t 69) (.c (.int .i64 0))), none, [], false⟩, ⟨(some 71), (.mv (.t 70)), none, [], false⟩, ⟨(some 72), (.mv (.t 10)), (some (71, true)), [], false⟩, ⟨(some 73), (.mv (.t 7)), (some (71, true)), [], false⟩, ⟨(some 74), (.lenSl (.t 73)), (some (71, true)), [], false⟩, ⟨(some 75), (.bin .lss (.t 72) (.t 74)), (some (71, true)), [], false⟩, ⟨(some 76), (.pick (.t 71) (.t 75) (.c (.bool false))), none, [], false⟩]) (.cond (.t 76) (
  .region [⟨(some 77), (.mv (.t 7)), none, [], false⟩, ⟨(some 78), (.mv (.t 10)), none, [], false⟩, ⟨(some 79), (.iaddr 1 (.t 77) (.t 78)), none, [], false⟩, ⟨none, (.store 1 (.t 79) (.c (.bool true))), none, [], false⟩]) .skip)))) (
  .region [⟨(some 55), (.mv (.t 9)), none, [], false⟩, ⟨(some 56), (.bin .add (.t 55) (.c (.int .i64 1))), none, [], false⟩, ⟨(some 9), (.mv (.t 56)), none, [], false⟩]))))))) (
  .region [⟨(some 26), (.mv (.t 8)), none, [], false⟩, ⟨(some 27), (.bin .add (.t 26) (.c (.int .i64 1))), none, [], false⟩, ⟨(some 8), (.mv (.t 27)), none, [], false⟩])))))) (
  .seq (
  .region [⟨(some 80), (.mv (.t 7)), none, [], false⟩, ⟨(some 6), (.mv (.t 80)), none, [], false⟩]) .ret))))⟩
theorem c35 : compFunc Tryz.prog GL [] Tryz.f35 = some l35 := by kernel_rfl
def l44 : LFunc := ⟨25, [(.tmp 4)],
  (
  .seq (
  .region [⟨(some 3), (.box true (.t 0)), none, [], false⟩, ⟨(some 4), (.mv (.c (.int .i64 0))), none, [], false⟩]) (
  .seq (
  .region [⟨(some 8), (.load none (.t 1)), none, [], false⟩, ⟨(some 9), (.load (some 3) (.t 3)), none, [], false⟩, ⟨(some 10), (.mlook (.st [(0, (1, .int)), (1, (1, .int)), (2, (1, .int))]) (.int .i64 0) true (.t 8) (.t 9)), none, [], false⟩, ⟨(some 7), (.mv (.t 10)), none, [], false⟩, ⟨(some 11), (.ext (.t 7) 0), none, [], false⟩, ⟨(some 12), (.ext (.t 7) 1), none, [], false⟩, ⟨(some 5), (.mv (.t 11)), none, [], false⟩, ⟨(some 6), (.mv (.t 12)), none, [], false⟩]) (
  .seq (
  .seq (
  .region [⟨(some 13), (.mv (.t 6)), none, [], false⟩, ⟨(some 14), (.un .not (.t 13)), none, [], false⟩]) (.cond (.t 14) (
  .seq (
  .region [⟨(some 15), (.load none (.t 2)), none, [], false⟩, ⟨(some 16), (.lenSl (.t 15)), none, [], false⟩, ⟨(some 5), (.mv (.t 16)), none, [], false⟩]) (
  .seq (
  .region [⟨(some 17), (.load none (.t 1)), none, [], false⟩, ⟨(some 18), (.load (some 3) (.t 3)), none, [], false⟩, ⟨(some 19), (.mv (.t 5)), none, [], false⟩, ⟨none, (.mupd (.st [(0, (1, .int)), (1, (1, .int)), (2, (1, .int))]) (.t 17) (.t 18) (.t 19)), none, [], false⟩]) (
  .region [⟨(some 20), (.load none (.t 2)), none, [], false⟩, ⟨(some 21), (.load (some 3) (.t 3)), none, [], false⟩, ⟨(some 22), (.bslice 3 1 [(.int .i64 0), (.int .i64 0), (.int .i64 0)] [(0, (3, (.t 21)))]), none, [], false⟩, ⟨(some 23), (.append 3 24 (.t 20) (.t 22)), none, [], false⟩, ⟨none, (.store 1 (.t 2) (.t 23)), none, [], false⟩]))) .skip)) (
  .seq (
  .region [⟨(some 24), (.mv (.t 5)), none, [], false⟩, ⟨(some 4), (.mv (.t 24)), none, [], false⟩]) .ret))))⟩
theorem c44 : compFunc Tryz.prog GL [] Tryz.f44 = some l44 := by kernel_rfl
def l46 : LFunc := ⟨61, [(.tmp 2)],
  (
  .seq (
  .region [⟨(some 2), (.mv (.c .nils)), none, [], false⟩]) (
  .seq (
  .seq (
  .region [⟨(some 6), (.mv (.t 0)), none, [], false⟩, ⟨(some 7), (.lenSl (.t 6)), none, [], false⟩, ⟨(some 8), (.bin .lss (.t 7) (.c (.int .i64 2))), none, [], false⟩]) (.cond (.t 8) (
  .seq (
  .region [⟨(some 9), (.mv (.t 0)), none, [], false⟩, ⟨(some 2), (.mv (.t 9)), none, [], false⟩]) .ret) .skip)) (
  .seq (
  .seq (
  .region [⟨(some 3), (.mv (.c (.int .i64 1))), none, [], false⟩]) (.block 0 (.loop (
  .seq (
  .seq (
  .region [⟨(some 10), (.mv (.t 3)), none, [], false⟩, ⟨(some 11), (.mv (.t 0)), none, [], false⟩, ⟨(some 12), (.lenSl (.t 11)), none, [], false⟩, ⟨(some 13), (.bin .lss (.t 10) (.t 12)), none, [], false⟩]) (.cond (.t 13) .skip (.exit 0))) (
  .seq (.block 1 (
  .seq (
  .region [⟨(some 16), (.mv (.t 0)), none, [], true⟩, ⟨(some 17), (.mv (.t 3)), none, [], true⟩, ⟨(some 18), (.iaddr 2 (.t 16) (.t 17)), none, [], true⟩, ⟨(some 19), (.load (some 2) (.t 18)), none, [], true⟩, ⟨(some 20), (.mv (.t 0)), none, [], true⟩, ⟨(some 21), (.mv (.t 3)), none, [], true⟩, ⟨(some 22), (.bin .sub (.t 21) (.c (.int .i64 1))), none, [], true⟩, ⟨(some 23), (.iaddr 2 (.t 20) (.t 22)), none, [], true⟩, ⟨(some 24), (.load (some 2) (.t 23)), none, [], true⟩, ⟨(some 25), (.eq false (.struct [(0, (1, .int)), (1, (1, .bool))]) (.t 19) (.t 24)), none, [], true⟩]) (.cond (.t 25) (
  .seq (
  .region [⟨(some 26), (.mv (.t 0)), none, [], false⟩, ⟨(some 27), (.mv (.t 3)), none, [], false⟩, ⟨(some 28), (.slice 2 (.t 26) (some (.t 27)) none), none, [], false⟩, ⟨(some 4), (.mv (.t 28)), none, [], false⟩]) (
  .seq (
  .seq (
  .region [⟨(some 5), (.mv (.c (.int .i64 1))), none, [], false⟩]) (.block 2 (.loop (
  .seq (
  .seq (
  .region [⟨(some 29), (.mv (.t 5)), none, [], false⟩, ⟨(some 30), (.mv (.t 4)), none, [], false⟩, ⟨(some 31), (.lenSl (.t 30)), none, [], false⟩, ⟨(some 32), (.bin .lss (.t 29) (.t 31)), none, [], false⟩]) (.cond (.t 32) .skip (.exit 2))) (
  .seq (.block 3 (
  .seq (
  .region [⟨(some 35), (.mv (.t 4)), none, [], true⟩, ⟨(some 36), (.mv (.t 5)), none, [], true⟩, ⟨(some 37), (.iaddr 2 (.t 35) (.t 36)), none, [], true⟩, ⟨(some 38), (.load (some 2) (.t 37)), none, [], true⟩, ⟨(some 39), (.mv (.t 4)), none, [], true⟩, ⟨(some 40), (.mv (.t 5)), none, [], true⟩, ⟨(some 41), (.bin .sub (.t 40) (.c (.int .i64 1))), none, [], true⟩, ⟨(some 42), (.iaddr 2 (.t 39) (.t 41)), none, [], true⟩, ⟨(some 43), (.load (some 2) (.t 42)), none, [], true⟩, ⟨(some 44), (.eq true (.struct [(0, (1, .int)), (1, (1, .bool))]) (.t 38) (.t 43)), none, [], true⟩]) (.cond (.t 44) (
  .seq (
  .region [⟨(some 45), (.mv (.t 0)), none, [], false⟩, ⟨(some 46), (.mv (.t 3)), none, [], false⟩, ⟨(some 47), (.mv (.t 4)), none, [], false⟩, ⟨(some 48), (.mv (.t 5)), none, [], false⟩, ⟨(some 49), (.iaddr 2 (.t 47) (.t 48)), none, [], false⟩, ⟨(some 50), (.load (some 2) (.t 49)), none, [], false⟩, ⟨(some 51), (.iaddr 2 (.t 45) (.t 46)), none, [], false⟩, ⟨none, (.store 2 (.t 51) (.t 50)), none, [], false⟩]) (
  .region [⟨(some 52), (.mv (.t 3)), none, [], false⟩, ⟨(some 53), (.bin .add (.t 52) (.c (.int .i64 1))), none, [], false⟩, ⟨(some 3), (.mv (.t 53)), none, [], false⟩])) .skip))) (
  .region [⟨(some 33), (.mv (.t 5)), none, [], false⟩, ⟨(some 34), (.bin .add (.t 33) (.c (.int .i64 1))), none, [], false⟩, ⟨(some 5), (.mv (.t 34)), none, [], false⟩])))))) (
  .seq (
  .region [⟨(some 54), (.mv (.t 0)), none, [], false⟩, ⟨(some 55), (.mv (.t 3)), none, [], false⟩, ⟨(some 56), (.slice 2 (.t 54) (some (.t 55)) none), none, [], false⟩, ⟨none, (.clr 2 [(.int .i64 0), (.bool false)] (.t 56)), none, [], false⟩]) (
  .seq (
  .region [⟨(some 57), (.mv (.t 0)), none, [], false⟩, ⟨(some 58), (.mv (.t 3)), none, [], false⟩, ⟨(some 59), (.slice 2 (.t 57) none (some (.t 58))), none, [], false⟩, ⟨(some 2), (.mv (.t 59)), none, [], false⟩]) .ret)))) .skip))) (
  .region [⟨(some 14), (.mv (.t 3)), none, [], false⟩, ⟨(some 15), (.bin .add (.t 14) (.c (.int .i64 1))), none, [], false⟩, ⟨(some 3), (.mv (.t 15)), none, [], false⟩])))))) (
  .seq (
  .region [⟨(some 60), (.mv (.t 0)), none, [], false⟩, ⟨(some 2), (.mv (.t 60)), none, [], false⟩]) .ret))))⟩
theorem c46 : compFunc Tryz.prog GL [] Tryz.f46 = some l46 := by kernel_rfl
def l47 : LFunc := ⟨20, [(.tmp 4)],
  (
  .seq (
  .region [⟨(some 4), (.mv (.c (.int .i64 0))), none, [], false⟩]) (
  .seq (
  .region [⟨(some 7), (.mv (.t 0)), none, [], false⟩, ⟨(some 8), (.call (.c (.fn (.func 68) [] [])) [(.t 7)]), none, [], false⟩, ⟨(some 5), (.mv (.t 8)), none, [], false⟩]) (
  .seq (
  .region [⟨(some 9), (.mv (.t 1)), none, [], false⟩, ⟨(some 10), (.call (.c (.fn (.func 68) [] [])) [(.t 9)]), none, [], false⟩, ⟨(some 6), (.mv (.t 10)), none, [], false⟩]) (
  .seq (
  .seq (
  .region [⟨(some 11), (.mv (.t 5)), none, [], false⟩]) (.cond (.t 11) (
  .seq (
  .seq (
  .region [⟨(some 12), (.mv (.t 6)), none, [], false⟩]) (.cond (.t 12) (
  .seq (
  .region [⟨(some 4), (.mv (.c (.int .i64 0))), none, [], false⟩]) .ret) .skip)) (
  .seq (
  .region [⟨(some 4), (.mv (.c (.int .i64 (-1)))), none, [], false⟩]) .ret)) .skip)) (
  .seq (
  .seq (
  .region [⟨(some 13), (.mv (.t 6)), none, [], false⟩]) (.cond (.t 13) (
  .seq (
  .region [⟨(some 4), (.mv (.c (.int .i64 1))), none, [], false⟩]) .ret) .skip)) (
  .seq (
  .seq (
  .region [⟨(some 14), (.mv (.t 0)), none, [], false⟩, ⟨(some 15), (.mv (.t 1)), none, [], false⟩, ⟨(some 16), (.bin .lss (.t 14) (.t 15)), none, [], false⟩]) (.cond (.t 16) (
  .seq (
  .region [⟨(some 4), (.mv (.c (.int .i64 (-1)))), none, [], false⟩]) .ret) .skip)) (
  .seq (
  .seq (
  .region [⟨(some 17), (.mv (.t 0)), none, [], false⟩, ⟨(some 18), (.mv (.t 1)), none, [], false⟩, ⟨(some 19), (.bin .gtr (.t 17) (.t 18)), none, [], false⟩]) (.cond (.t 19) (
  .seq (
  .region [⟨(some 4), (.mv (.c (.int .i64 1))), none, [], false⟩]) .ret) .skip)) (
  .seq (
  .region [⟨(some 4), (.mv (.c (.int .i64 0))), none, [], false⟩]) .ret))))))))⟩
theorem c47 : compFunc Tryz.prog GL [] Tryz.f47 = some l47 := by kernel_rfl
def l68 : LFunc := ⟨6, [(.tmp 2)],
  (
  .seq (
  .region [⟨(some 2), (.mv (.c (.bool false))), none, [], false⟩]) (
  .seq (
  .region [⟨(some 3), (.mv (.t 0)), none, [], false⟩, ⟨(some 4), (.mv (.t 0)), none, [], false⟩, ⟨(some 5), (.bin .neq (.t 3) (.t 4)), none, [], false⟩, ⟨(some 2), (.mv (.t 5)), none, [], false⟩]) .ret))⟩
theorem c68 : compFunc Tryz.prog GL [] Tryz.f68 = some l68 := by kernel_rfl
end Go.Proofs.YtbdoggiabclkdaaGreatDoor
