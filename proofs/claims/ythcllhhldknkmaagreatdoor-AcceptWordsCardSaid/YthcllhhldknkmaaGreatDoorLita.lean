/- Plain forms of functions, by program. -/
import Derived.Test.YthcllhhldknkmaaGreatDoorProg
import Derived.Test.YthcllhhldknkmaaGreatDoorPvComp
import Derived.Test.YthcllhhldknkmaaGreatDoorGl
import Derived.KernelRfl
set_option linter.unusedSimpArgs false
set_option linter.unusedVariables false
namespace Go.Proofs.YthcllhhldknkmaaGreatDoor
open Go Go.Pv
set_option maxRecDepth 100000
def l3 : LFunc := ⟨72, [(.tmp 6)],
  (
  .seq (
  .region [⟨(some 3), (.box true (.t 0)), none, [], false⟩, ⟨(some 4), (.box true (.t 1)), none, [], false⟩, ⟨(some 5), (.box true (.t 2)), none, [], false⟩, ⟨(some 6), (.mv (.c (.bool false))), none, [], false⟩]) (
  .seq (
  .region [⟨(some 10), (.call (.c (.fn (.func 7) [] [])) []), none, [], false⟩, ⟨(some 7), (.mv (.t 10)), none, [], false⟩]) (
  .seq (
  .seq (
  .region [⟨(some 11), (.load (some 3) (.t 3)), none, [], false⟩, ⟨(some 12), (.load (some 2) (.t 4)), none, [], false⟩, ⟨(some 13), (.call (.c (.fn (.func 8) [] [])) [(.t 11), (.t 12)]), none, [], false⟩, ⟨(some 14), (.un .not (.t 13)), none, [], false⟩, ⟨(some 15), (.mv (.t 14)), none, [], false⟩, ⟨(some 16), (.faddr 0 (.t 5)), (some (15, false)), [], false⟩, ⟨(some 17), (.load none (.t 16)), (some (15, false)), [], false⟩, ⟨(some 18), (.lenSl (.t 17)), (some (15, false)), [], false⟩, ⟨(some 19), (.bin .gtr (.t 18) (.c (.int .i64 40))), (some (15, false)), [], false⟩, ⟨(some 20), (.pick (.t 15) (.c (.bool true)) (.t 19)), none, [], false⟩, ⟨(some 21), (.mv (.t 20)), none, [], false⟩, ⟨(some 22), (.faddr 1 (.t 5)), (some (21, false)), [], false⟩, ⟨(some 23), (.load none (.t 22)), (some (21, false)), [], false⟩, ⟨(some 24), (.lenSl (.t 23)), (some (21, false)), [], false⟩, ⟨(some 25), (.bin .gtr (.t 24) (.c (.int .i64 40))), (some (21, false)), [], false⟩, ⟨(some 26), (.pick (.t 21) (.c (.bool true)) (.t 25)), none, [], false⟩]) (.cond (.t 26) (
  .seq (
  .region [⟨(some 27), (.mv (.t 7)), none, [], false⟩, ⟨(some 6), (.mv (.t 27)), none, [], false⟩]) .ret) .skip)) (
  .seq (
  .region [⟨(some 29), (.load (some 3) (.t 3)), none, [], false⟩, ⟨(some 30), (.load (some 2) (.t 4)), none, [], false⟩, ⟨(some 31), (.call (.c (.fn (.func 9) [] [])) [(.t 29), (.t 30)]), none, [], false⟩, ⟨(some 28), (.mv (.t 31)), none, [], false⟩, ⟨(some 32), (.ext (.t 28) 0), none, [], false⟩, ⟨(some 33), (.ext (.t 28) 1), none, [], false⟩, ⟨(some 8), (.alloc [.nils, .nils]), none, [], false⟩, ⟨none, (.store 2 (.t 8) (.t 32)), none, [], false⟩, ⟨(some 9), (.mv (.t 33)), none, [], false⟩]) (
  .seq (
  .seq (
  .region [⟨(some 34), (.mv (.t 9)), none, [], false⟩, ⟨(some 35), (.load (some 3) (.t 3)), none, [], false⟩, ⟨(some 36), (.load (some 2) (.t 4)), none, [], false⟩, ⟨(some 37), (.call (.c (.fn (.func 10) [] [])) [(.t 35), (.t 36)]), none, [], false⟩, ⟨(some 38), (.eq true .bool (.t 34) (.t 37)), none, [], false⟩, ⟨(some 39), (.mv (.t 38)), none, [], false⟩, ⟨(some 40), (.mv (.t 9)), (some (39, false)), [], false⟩, ⟨(some 41), (.load (some 3) (.t 3)), (some (39, false)), [], false⟩, ⟨(some 42), (.load (some 2) (.t 4)), (some (39, false)), [], false⟩, ⟨(some 43), (.load (some 2) (.t 8)), (some (39, false)), [], false⟩, ⟨(some 44), (.call (.c (.fn (.func 11) [] [])) [(.t 41), (.t 42), (.t 43)]), (some (39, false)), [], false⟩, ⟨(some 45), (.eq true .bool (.t 40) (.t 44)), (some (39, false)), [], false⟩, ⟨(some 46), (.pick (.t 39) (.c (.bool true)) (.t 45)), none, [], false⟩, ⟨(some 47), (.mv (.t 46)), none, [], false⟩, ⟨(some 48), (.mv (.t 9)), (some (47, false)), [], false⟩, ⟨(some 49), (.un .not (.t 48)), (some (47, false)), [], false⟩, ⟨(some 50), (.mv (.t 49)), (some (47, false)), [], false⟩, ⟨(some 51), (.faddr 0 (.t 8)), (some (50, true)), [], false⟩, ⟨(some 52), (.load none (.t 51)), (some (50, true)), [], false⟩, ⟨(some 53), (.lenSl (.t 52)), (some (50, true)), [], false⟩, ⟨(some 54), (.faddr 1 (.t 8)), (some (50, true)), [], false⟩, ⟨(some 55), (.load none (.t 54)), (some (50, true)), [], false⟩, ⟨(some 56), (.lenSl (.t 55)), (some (50, true)), [], false⟩, ⟨(some 57), (.bin .add (.t 53) (.t 56)), (some (50, true)), [], false⟩, ⟨(some 58), (.bin .gtr (.t 57) (.c (.int .i64 0))), (some (50, true)), [], false⟩, ⟨(some 59), (.pick (.t 50) (.t 58) (.c (.bool false))), (some (47, false)), [], false⟩, ⟨(some 60), (.pick (.t 47) (.c (.bool true)) (.t 59)), none, [], false⟩]) (.cond (.t 60) (
  .seq (
  .region [⟨(some 6), (.mv (.c (.bool false))), none, [], false⟩]) .ret) .skip)) (
  .seq (
  .region [⟨(some 61), (.mv (.t 7)), none, [], false⟩, ⟨(some 62), (.mv (.t 61)), none, [], false⟩, ⟨(some 63), (.mv (.t 9)), (some (62, true)), [], false⟩, ⟨(some 64), (.mv (.t 63)), (some (62, true)), [], false⟩, ⟨(some 65), (.load (some 3) (.t 3)), (some (64, false)), [], false⟩, ⟨(some 66), (.load (some 2) (.t 4)), (some (64, false)), [], false⟩, ⟨(some 67), (.load (some 2) (.t 5)), (some (64, false)), [], false⟩, ⟨(some 68), (.call (.c (.fn (.func 11) [] [])) [(.t 65), (.t 66), (.t 67)]), (some (64, false)), [], false⟩, ⟨(some 69), (.un .not (.t 68)), (some (64, false)), [], false⟩, ⟨(some 70), (.pick (.t 64) (.c (.bool true)) (.t 69)), (some (62, true)), [], false⟩, ⟨(some 71), (.pick (.t 62) (.t 70) (.c (.bool false))), none, [], false⟩, ⟨(some 6), (.mv (.t 71)), none, [], false⟩]) .ret))))))⟩
theorem c3 : compFunc Tryz.prog GL [] Tryz.f3 = some l3 := by kernel_rfl
def l4 : LFunc := ⟨93, [(.tmp 12)],
  (
  .seq (
  .region [⟨(some 6), (.box true (.t 0)), none, [], false⟩, ⟨(some 7), (.box true (.t 1)), none, [], false⟩, ⟨(some 12), (.mv (.c (.bool false))), none, [], false⟩]) (
  .seq (
  .region [⟨(some 17), (.call (.c (.fn (.func 7) [] [])) []), none, [], false⟩, ⟨(some 13), (.mv (.t 17)), none, [], false⟩]) (
  .seq (
  .seq (
  .region [⟨(some 18), (.load (some 3) (.t 6)), none, [], false⟩, ⟨(some 19), (.load (some 2) (.t 7)), none, [], false⟩, ⟨(some 20), (.call (.c (.fn (.func 8) [] [])) [(.t 18), (.t 19)]), none, [], false⟩, ⟨(some 21), (.un .not (.t 20)), none, [], false⟩, ⟨(some 22), (.mv (.t 21)), none, [], false⟩, ⟨(some 23), (.load (some 3) (.t 6)), (some (22, false)), [], false⟩, ⟨(some 24), (.load (some 2) (.t 7)), (some (22, false)), [], false⟩, ⟨(some 25), (.call (.c (.fn (.func 12) [] [])) [(.t 23), (.t 24)]), (some (22, false)), [], false⟩, ⟨(some 26), (.un .not (.t 25)), (some (22, false)), [], false⟩, ⟨(some 27), (.pick (.t 22) (.c (.bool true)) (.t 26)), none, [], false⟩, ⟨(some 28), (.mv (.t 27)), none, [], false⟩, ⟨(some 29), (.faddr 2 (.t 6)), (some (28, false)), [], false⟩, ⟨(some 30), (.load none (.t 29)), (some (28, false)), [], false⟩, ⟨(some 31), (.lenSl (.t 30)), (some (28, false)), [], false⟩, ⟨(some 32), (.bin .eql (.t 31) (.c (.int .i64 0))), (some (28, false)), [], false⟩, ⟨(some 33), (.pick (.t 28) (.c (.bool true)) (.t 32)), none, [], false⟩]) (.cond (.t 33) (
  .seq (
  .region [⟨(some 34), (.mv (.t 13)), none, [], false⟩, ⟨(some 12), (.mv (.t 34)), none, [], false⟩]) .ret) .skip)) (
  .seq (
  .region [⟨(some 36), (.load (some 3) (.t 6)), none, [], false⟩, ⟨(some 37), (.load (some 2) (.t 7)), none, [], false⟩, ⟨(some 38), (.call (.c (.fn (.func 9) [] [])) [(.t 36), (.t 37)]), none, [], false⟩, ⟨(some 35), (.mv (.t 38)), none, [], false⟩, ⟨(some 39), (.ext (.t 35) 0), none, [], false⟩, ⟨(some 40), (.ext (.t 35) 1), none, [], false⟩, ⟨(some 14), (.alloc [.nils, .nils]), none, [], false⟩, ⟨none, (.store 2 (.t 14) (.t 39)), none, [], false⟩, ⟨(some 15), (.mv (.t 40)), none, [], false⟩]) (
  .seq (
  .region [⟨(some 41), (.load (some 3) (.t 6)), none, [], true⟩, ⟨(some 42), (.mv (.t 2)), none, [], true⟩, ⟨(some 43), (.convInt .i64 (.t 42)), none, [], true⟩, ⟨(some 44), (.faddr 2 (.t 6)), none, [], true⟩, ⟨(some 45), (.load none (.t 44)), none, [], true⟩, ⟨(some 46), (.lenSl (.t 45)), none, [], true⟩, ⟨(some 47), (.bin .rem (.t 43) (.t 46)), none, [], true⟩, ⟨(some 48), (.mv (.t 3)), none, [], true⟩, ⟨(some 49), (.convInt .i64 (.t 48)), none, [], true⟩, ⟨(some 50), (.faddr 0 (.t 6)), none, [], true⟩, ⟨(some 51), (.load none (.t 50)), none, [], true⟩, ⟨(some 52), (.bin .rem (.t 49) (.t 51)), none, [], true⟩, ⟨(some 53), (.mv (.t 4)), none, [], true⟩, ⟨(some 54), (.convInt .i64 (.t 53)), none, [], true⟩, ⟨(some 55), (.faddr 2 (.t 6)), none, [], true⟩, ⟨(some 56), (.load none (.t 55)), none, [], true⟩, ⟨(some 57), (.lenSl (.t 56)), none, [], true⟩, ⟨(some 58), (.bin .rem (.t 54) (.t 57)), none, [], true⟩, ⟨(some 59), (.mv (.t 5)), none, [], true⟩, ⟨(some 16), (.alloc [(.int .i64 0), .nils, .nils]), none, [(41, (none, (.load (some 3) (.t 6)))), (45, (none, (.load none (.t 44)))), (51, (none, (.load none (.t 50)))), (56, (none, (.load none (.t 55))))], true⟩, ⟨(some 60), (.call (.c (.fn (.func 13) [] [])) [(.t 41), (.t 47), (.t 52), (.t 58), (.t 59)]), none, [], true⟩, ⟨none, (.store 3 (.t 16) (.t 60)), none, [], true⟩]) (
  .seq (
  .seq (
  .region [⟨(some 61), (.load (some 3) (.t 16)), none, [], false⟩, ⟨(some 62), (.call (.c (.fn (.func 14) [] [])) [(.t 61)]), none, [], false⟩, ⟨(some 63), (.un .not (.t 62)), none, [], false⟩]) (.cond (.t 63) (
  .seq (
  .region [⟨(some 12), (.mv (.c (.bool false))), none, [], false⟩]) .ret) .skip)) (
  .seq (
  .region [⟨(some 64), (.mv (.t 13)), none, [], true⟩, ⟨(some 65), (.mv (.t 64)), none, [], true⟩, ⟨(some 66), (.mv (.t 15)), (some (65, true)), [], true⟩, ⟨(some 67), (.un .not (.t 66)), (some (65, true)), [], true⟩, ⟨(some 68), (.mv (.t 67)), (some (65, true)), [], true⟩, ⟨(some 69), (.load (some 3) (.t 16)), (some (68, false)), [], true⟩, ⟨(some 70), (.load (some 2) (.t 7)), (some (68, false)), [], true⟩, ⟨(some 71), (.call (.c (.fn (.func 10) [] [])) [(.t 69), (.t 70)]), (some (68, false)), [], true⟩, ⟨(some 72), (.mv (.t 71)), (some (68, false)), [], true⟩, ⟨(some 73), (.load (some 3) (.t 16)), (some (72, true)), [], true⟩, ⟨(some 74), (.load (some 2) (.t 7)), (some (72, true)), [], true⟩, ⟨(some 75), (.load (some 2) (.t 14)), (some (72, true)), [], true⟩, ⟨(some 76), (.call (.c (.fn (.func 11) [] [])) [(.t 73), (.t 74), (.t 75)]), (some (72, true)), [], true⟩, ⟨(some 77), (.pick (.t 72) (.t 76) (.c (.bool false))), (some (68, false)), [], true⟩, ⟨(some 78), (.mv (.t 77)), (some (68, false)), [], true⟩, ⟨(some 79), (.load (some 3) (.t 6)), (some (78, true)), [], true⟩, ⟨(some 81), (.load (some 2) (.t 7)), (some (78, true)), [], true⟩, ⟨(some 80), (.call (.c (.fn (.func 15) [] [])) [(.t 79)]), (some (78, true)), [(81, ((some (78, true)), (.load (some 2) (.t 7))))], true⟩, ⟨(some 82), (.call (.c (.fn (.func 10) [] [])) [(.t 80), (.t 81)]), (some (78, true)), [], true⟩, ⟨(some 83), (.pick (.t 78) (.t 82) (.c (.bool false))), (some (68, false)), [], true⟩, ⟨(some 84), (.mv (.t 83)), (some (68, false)), [], true⟩, ⟨(some 85), (.load (some 3) (.t 6)), (some (84, true)), [], true⟩, ⟨(some 87), (.load (some 2) (.t 7)), (some (84, true)), [], true⟩, ⟨(some 88), (.load (some 2) (.t 14)), (some (84, true)), [], true⟩, ⟨(some 86), (.call (.c (.fn (.func 15) [] [])) [(.t 85)]), (some (84, true)), [(87, ((some (84, true)), (.load (some 2) (.t 7)))), (88, ((some (84, true)), (.load (some 2) (.t 14))))], true⟩, ⟨(some 89), (.call (.c (.fn (.func 11) [] [])) [(.t 86), (.t 87), (.t 88)]), (some (84, true)), [], true⟩, ⟨(some 90), (.pick (.t 84) (.t 89) (.c (.bool false))), (some (68, false)), [], true⟩, ⟨(some 91), (.pick (.t 68) (.c (.bool true)) (.t 90)), (some (65, true)), [], true⟩, ⟨(some 92), (.pick (.t 65) (.t 91) (.c (.bool false))), none, [], true⟩, ⟨(some 12), (.mv (.t 92)), none, [], true⟩]) .ret)))))))⟩
theorem c4 : compFunc Tryz.prog GL [] Tryz.f4 = some l4 := by kernel_rfl
def l5 : LFunc := ⟨75, [(.tmp 6)],
  (
  .seq (
  .region [⟨(some 3), (.box true (.t 0)), none, [], false⟩, ⟨(some 4), (.box true (.t 1)), none, [], false⟩, ⟨(some 5), (.box true (.t 2)), none, [], false⟩, ⟨(some 6), (.mv (.c (.bool false))), none, [], false⟩]) (
  .seq (
  .region [⟨(some 12), (.call (.c (.fn (.func 7) [] [])) []), none, [], false⟩, ⟨(some 7), (.mv (.t 12)), none, [], false⟩]) (
  .seq (
  .seq (
  .region [⟨(some 13), (.load (some 3) (.t 3)), none, [], false⟩, ⟨(some 14), (.load (some 2) (.t 4)), none, [], false⟩, ⟨(some 15), (.call (.c (.fn (.func 8) [] [])) [(.t 13), (.t 14)]), none, [], false⟩, ⟨(some 16), (.un .not (.t 15)), none, [], false⟩, ⟨(some 17), (.mv (.t 16)), none, [], false⟩, ⟨(some 18), (.load (some 3) (.t 3)), (some (17, false)), [], false⟩, ⟨(some 19), (.load (some 2) (.t 5)), (some (17, false)), [], false⟩, ⟨(some 20), (.call (.c (.fn (.func 8) [] [])) [(.t 18), (.t 19)]), (some (17, false)), [], false⟩, ⟨(some 21), (.un .not (.t 20)), (some (17, false)), [], false⟩, ⟨(some 22), (.pick (.t 17) (.c (.bool true)) (.t 21)), none, [], false⟩, ⟨(some 23), (.mv (.t 22)), none, [], false⟩, ⟨(some 24), (.load (some 3) (.t 3)), (some (23, false)), [], false⟩, ⟨(some 25), (.load (some 2) (.t 4)), (some (23, false)), [], false⟩, ⟨(some 26), (.call (.c (.fn (.func 12) [] [])) [(.t 24), (.t 25)]), (some (23, false)), [], false⟩, ⟨(some 27), (.un .not (.t 26)), (some (23, false)), [], false⟩, ⟨(some 28), (.pick (.t 23) (.c (.bool true)) (.t 27)), none, [], false⟩, ⟨(some 29), (.mv (.t 28)), none, [], false⟩, ⟨(some 30), (.load (some 3) (.t 3)), (some (29, false)), [], false⟩, ⟨(some 31), (.load (some 2) (.t 5)), (some (29, false)), [], false⟩, ⟨(some 32), (.call (.c (.fn (.func 12) [] [])) [(.t 30), (.t 31)]), (some (29, false)), [], false⟩, ⟨(some 33), (.un .not (.t 32)), (some (29, false)), [], false⟩, ⟨(some 34), (.pick (.t 29) (.c (.bool true)) (.t 33)), none, [], false⟩, ⟨(some 35), (.mv (.t 34)), none, [], false⟩, ⟨(some 36), (.load (some 2) (.t 4)), (some (35, false)), [], false⟩, ⟨(some 37), (.load (some 2) (.t 5)), (some (35, false)), [], false⟩, ⟨(some 38), (.call (.c (.fn (.func 16) [] [])) [(.t 36), (.t 37)]), (some (35, false)), [], false⟩, ⟨(some 39), (.un .not (.t 38)), (some (35, false)), [], false⟩, ⟨(some 40), (.pick (.t 35) (.c (.bool true)) (.t 39)), none, [], false⟩]) (.cond (.t 40) (
  .seq (
  .region [⟨(some 41), (.mv (.t 7)), none, [], false⟩, ⟨(some 6), (.mv (.t 41)), none, [], false⟩]) .ret) .skip)) (
  .seq (
  .region [⟨(some 43), (.load (some 3) (.t 3)), none, [], false⟩, ⟨(some 44), (.load (some 2) (.t 4)), none, [], false⟩, ⟨(some 45), (.call (.c (.fn (.func 9) [] [])) [(.t 43), (.t 44)]), none, [], false⟩, ⟨(some 42), (.mv (.t 45)), none, [], false⟩, ⟨(some 46), (.ext (.t 42) 0), none, [], false⟩, ⟨(some 47), (.ext (.t 42) 1), none, [], false⟩, ⟨(some 8), (.alloc [.nils, .nils]), none, [], false⟩, ⟨none, (.store 2 (.t 8) (.t 46)), none, [], false⟩, ⟨(some 9), (.mv (.t 47)), none, [], false⟩]) (
  .seq (
  .region [⟨(some 49), (.load (some 3) (.t 3)), none, [], false⟩, ⟨(some 50), (.load (some 2) (.t 5)), none, [], false⟩, ⟨(some 51), (.call (.c (.fn (.func 9) [] [])) [(.t 49), (.t 50)]), none, [], false⟩, ⟨(some 48), (.mv (.t 51)), none, [], false⟩, ⟨(some 52), (.ext (.t 48) 0), none, [], false⟩, ⟨(some 53), (.ext (.t 48) 1), none, [], false⟩, ⟨(some 10), (.alloc [.nils, .nils]), none, [], false⟩, ⟨none, (.store 2 (.t 10) (.t 52)), none, [], false⟩, ⟨(some 11), (.mv (.t 53)), none, [], false⟩]) (
  .seq (
  .region [⟨(some 54), (.mv (.t 7)), none, [], false⟩, ⟨(some 55), (.mv (.t 54)), none, [], false⟩, ⟨(some 56), (.mv (.t 9)), (some (55, true)), [], false⟩, ⟨(some 57), (.mv (.t 11)), (some (55, true)), [], false⟩, ⟨(some 58), (.eq false .bool (.t 56) (.t 57)), (some (55, true)), [], false⟩, ⟨(some 59), (.pick (.t 55) (.t 58) (.c (.bool false))), none, [], false⟩, ⟨(some 60), (.mv (.t 59)), none, [], false⟩, ⟨(some 61), (.load (some 2) (.t 8)), (some (60, true)), [], false⟩, ⟨(some 62), (.load (some 2) (.t 10)), (some (60, true)), [], false⟩, ⟨(some 63), (.call (.c (.fn (.func 17) [] [])) [(.t 61), (.t 62)]), (some (60, true)), [], false⟩, ⟨(some 64), (.pick (.t 60) (.t 63) (.c (.bool false))), none, [], false⟩, ⟨(some 65), (.mv (.t 64)), none, [], false⟩, ⟨(some 66), (.mv (.t 9)), (some (65, true)), [], false⟩, ⟨(some 67), (.un .not (.t 66)), (some (65, true)), [], false⟩, ⟨(some 68), (.mv (.t 67)), (some (65, true)), [], false⟩, ⟨(some 69), (.load (some 3) (.t 3)), (some (68, false)), [], false⟩, ⟨(some 70), (.load (some 2) (.t 5)), (some (68, false)), [], false⟩, ⟨(some 71), (.load (some 2) (.t 8)), (some (68, false)), [], false⟩, ⟨(some 72), (.call (.c (.fn (.func 11) [] [])) [(.t 69), (.t 70), (.t 71)]), (some (68, false)), [], false⟩, ⟨(some 73), (.pick (.t 68) (.c (.bool true)) (.t 72)), (some (65, true)), [], false⟩, ⟨(some 74), (.pick (.t 65) (.t 73) (.c (.bool false))), none, [], false⟩, ⟨(some 6), (.mv (.t 74)), none, [], false⟩]) .ret))))))⟩
theorem c5 : compFunc Tryz.prog GL [] Tryz.f5 = some l5 := by kernel_rfl
def l8 : LFunc := ⟨8, [(.tmp 4)],
  (
  .seq (
  .region [⟨(some 2), (.box true (.t 0)), none, [], false⟩, ⟨(some 3), (.box true (.t 1)), none, [], false⟩, ⟨(some 4), (.mv (.c (.bool false))), none, [], false⟩]) (
  .seq (
  .region [⟨(some 5), (.load (some 3) (.t 2)), none, [], false⟩, ⟨(some 6), (.load (some 2) (.t 3)), none, [], false⟩, ⟨(some 7), (.call (.c (.fn (.func 18) [] [])) [(.t 5), (.t 6), (.c (.int .i64 12))]), none, [], false⟩, ⟨(some 4), (.mv (.t 7)), none, [], false⟩]) .ret))⟩
theorem c8 : compFunc Tryz.prog GL [] Tryz.f8 = some l8 := by kernel_rfl
def l9 : LFunc := ⟨53, [(.cell 4 (some 2)), (.tmp 5)],
  (
  .seq (
  .region [⟨(some 2), (.box true (.t 0)), none, [], false⟩, ⟨(some 3), (.box true (.t 1)), none, [], false⟩, ⟨(some 4), (.alloc [.nils, .nils]), none, [], false⟩, ⟨(some 5), (.mv (.c (.bool false))), none, [], false⟩]) (
  .seq (
  .seq (
  .region [⟨(some 11), (.load (some 3) (.t 2)), none, [], false⟩, ⟨(some 12), (.call (.c (.fn (.func 30) [] [])) [(.t 11)]), none, [], false⟩, ⟨(some 13), (.un .not (.t 12)), none, [], false⟩, ⟨(some 14), (.mv (.t 13)), none, [], false⟩, ⟨(some 15), (.faddr 0 (.t 2)), (some (14, false)), [], false⟩, ⟨(some 16), (.load none (.t 15)), (some (14, false)), [], false⟩, ⟨(some 17), (.load (some 2) (.t 3)), (some (14, false)), [], false⟩, ⟨(some 18), (.call (.c (.fn (.func 29) [] [])) [(.t 16), (.t 17)]), (some (14, false)), [], false⟩, ⟨(some 19), (.un .not (.t 18)), (some (14, false)), [], false⟩, ⟨(some 20), (.pick (.t 14) (.c (.bool true)) (.t 19)), none, [], false⟩]) (.cond (.t 20) (
  .seq (
  .region [⟨(some 21), (.build [.nils, .nils] []), none, [], false⟩, ⟨none, (.store 2 (.t 4) (.t 21)), none, [], false⟩, ⟨(some 5), (.mv (.c (.bool false))), none, [], false⟩]) .ret) .skip)) (
  .seq (
  .region [⟨(some 22), (.load (some 3) (.t 2)), none, [], false⟩, ⟨(some 23), (.load (some 2) (.t 3)), none, [], false⟩, ⟨(some 24), (.call (.c (.fn (.func 31) [] [])) [(.t 22), (.t 23)]), none, [], false⟩, ⟨(some 6), (.alloc [(.int .i64 0), .nils, .nils, .nils, (.int .i64 0)]), none, [], false⟩, ⟨none, (.store 5 (.t 6) (.t 24)), none, [], false⟩]) (
  .seq (
  .region [⟨(some 25), (.load (some 5) (.t 6)), none, [], true⟩, ⟨(some 26), (.load (some 5) (.t 6)), none, [], true⟩, ⟨(some 7), (.alloc [.nilm, .nils, .nils]), none, [(25, (none, (.load (some 5) (.t 6)))), (26, (none, (.load (some 5) (.t 6))))], true⟩, ⟨(some 27), (.call (.c (.fn (.func 33) [] [])) [(.t 26)]), none, [(25, (none, (.load (some 5) (.t 6))))], true⟩, ⟨(some 28), (.call (.c (.fn (.func 32) [] [])) [(.t 25), (.t 27)]), none, [], true⟩, ⟨none, (.store 3 (.t 7) (.t 28)), none, [], true⟩]) (
  .seq (
  .region [⟨(some 30), (.load (some 5) (.t 6)), none, [], false⟩, ⟨(some 31), (.load (some 3) (.t 7)), none, [], false⟩, ⟨(some 32), (.call (.c (.fn (.func 34) [] [])) [(.t 30), (.t 31)]), none, [], false⟩, ⟨(some 29), (.mv (.t 32)), none, [], false⟩, ⟨(some 33), (.ext (.t 29) 0), none, [], false⟩, ⟨(some 34), (.ext (.t 29) 1), none, [], false⟩, ⟨(some 35), (.ext (.t 29) 2), none, [], false⟩, ⟨(some 8), (.alloc [(.int .i64 0), (.int .i64 0)]), none, [], false⟩, ⟨(some 9), (.alloc [(.int .i64 0), (.int .i64 0)]), none, [], false⟩, ⟨none, (.store 2 (.t 8) (.t 33)), none, [], false⟩, ⟨none, (.store 2 (.t 9) (.t 34)), none, [], false⟩, ⟨(some 10), (.mv (.t 35)), none, [], false⟩]) (
  .seq (
  .seq (
  .region [⟨(some 36), (.mv (.t 10)), none, [], false⟩, ⟨(some 37), (.un .not (.t 36)), none, [], false⟩]) (.cond (.t 37) (
  .seq (
  .region [⟨(some 38), (.build [.nils, .nils] []), none, [], false⟩, ⟨none, (.store 2 (.t 4) (.t 38)), none, [], false⟩, ⟨(some 5), (.mv (.c (.bool false))), none, [], false⟩]) .ret) .skip)) (
  .seq (
  .region [⟨(some 39), (.load (some 3) (.t 7)), none, [], true⟩, ⟨(some 40), (.load (some 2) (.t 8)), none, [], true⟩, ⟨(some 42), (.faddr 1 (.t 8)), none, [], true⟩, ⟨(some 43), (.load none (.t 42)), none, [], true⟩, ⟨(some 44), (.bslice 1 1 [(.int .i64 0)] [(0, (1, (.t 43)))]), none, [(39, (none, (.load (some 3) (.t 7)))), (40, (none, (.load (some 2) (.t 8)))), (43, (none, (.load none (.t 42))))], true⟩, ⟨(some 45), (.load (some 5) (.t 6)), none, [], true⟩, ⟨(some 46), (.load (some 2) (.t 9)), none, [], true⟩, ⟨(some 47), (.bslice 2 1 [(.int .i64 0), (.int .i64 0)] [(0, (2, (.t 46)))]), none, [(39, (none, (.load (some 3) (.t 7)))), (40, (none, (.load (some 2) (.t 8)))), (43, (none, (.load none (.t 42)))), (45, (none, (.load (some 5) (.t 6)))), (46, (none, (.load (some 2) (.t 9))))], true⟩, ⟨(some 49), (.load (some 2) (.t 8)), none, [], true⟩, ⟨(some 41), (.call (.c (.fn (.func 35) [] [])) [(.t 39), (.t 40)]), none, [(43, (none, (.load none (.t 42)))), (45, (none, (.load (some 5) (.t 6)))), (46, (none, (.load (some 2) (.t 9)))), (49, (none, (.load (some 2) (.t 8))))], true⟩, ⟨(some 48), (.call (.c (.fn (.func 32) [] [])) [(.t 45), (.t 47)]), none, [(43, (none, (.load none (.t 42)))), (49, (none, (.load (some 2) (.t 8))))], true⟩, ⟨(some 50), (.call (.c (.fn (.func 35) [] [])) [(.t 48), (.t 49)]), none, [(43, (none, (.load none (.t 42))))], true⟩, ⟨(some 51), (.append 1 8 (.t 44) (.t 50)), none, [], true⟩, ⟨(some 52), (.build [.nils, .nils] [(0, (1, (.t 41))), (1, (1, (.t 51)))]), none, [], true⟩, ⟨none, (.store 2 (.t 4) (.t 52)), none, [], true⟩, ⟨(some 5), (.mv (.c (.bool true))), none, [], true⟩]) .ret)))))))⟩
theorem c9 : compFunc Tryz.prog GL [] Tryz.f9 = some l9 := by kernel_rfl
def l11 : LFunc := ⟨102, [(.tmp 6)],
  (
  .seq (
  .region [⟨(some 3), (.box true (.t 0)), none, [], false⟩, ⟨(some 4), (.box true (.t 1)), none, [], false⟩, ⟨(some 5), (.box true (.t 2)), none, [], false⟩, ⟨(some 6), (.mv (.c (.bool false))), none, [], false⟩]) (
  .seq (
  .seq (
  .region [⟨(some 15), (.load (some 3) (.t 3)), none, [], false⟩, ⟨(some 16), (.call (.c (.fn (.func 30) [] [])) [(.t 15)]), none, [], false⟩, ⟨(some 17), (.un .not (.t 16)), none, [], false⟩, ⟨(some 18), (.mv (.t 17)), none, [], false⟩, ⟨(some 19), (.faddr 0 (.t 3)), (some (18, false)), [], false⟩, ⟨(some 20), (.load none (.t 19)), (some (18, false)), [], false⟩, ⟨(some 21), (.load (some 2) (.t 4)), (some (18, false)), [], false⟩, ⟨(some 22), (.call (.c (.fn (.func 29) [] [])) [(.t 20), (.t 21)]), (some (18, false)), [], false⟩, ⟨(some 23), (.un .not (.t 22)), (some (18, false)), [], false⟩, ⟨(some 24), (.pick (.t 18) (.c (.bool true)) (.t 23)), none, [], false⟩, ⟨(some 25), (.mv (.t 24)), none, [], false⟩, ⟨(some 26), (.faddr 1 (.t 5)), (some (25, false)), [], false⟩, ⟨(some 27), (.load none (.t 26)), (some (25, false)), [], false⟩, ⟨(some 28), (.lenSl (.t 27)), (some (25, false)), [], false⟩, ⟨(some 29), (.bin .eql (.t 28) (.c (.int .i64 0))), (some (25, false)), [], false⟩, ⟨(some 30), (.pick (.t 25) (.c (.bool true)) (.t 29)), none, [], false⟩]) (.cond (.t 30) (
  .seq (
  .region [⟨(some 6), (.mv (.c (.bool false))), none, [], false⟩]) .ret) .skip)) (
  .seq (
  .region [⟨(some 31), (.mkfn (.func 36) [] [(.t 5)]), none, [], false⟩, ⟨(some 7), (.alloc [.nilf]), none, [], false⟩, ⟨none, (.store 1 (.t 7) (.t 31)), none, [], false⟩]) (
  .seq (
  .seq (
  .region [⟨(some 32), (.faddr 1 (.t 3)), none, [], true⟩, ⟨(some 33), (.load none (.t 32)), none, [], true⟩, ⟨(some 34), (.load none (.t 7)), none, [], true⟩, ⟨(some 35), (.call (.t 34) [(.c (.int .i64 0))]), none, [(33, (none, (.load none (.t 32))))], true⟩, ⟨(some 36), (.call (.c (.fn (.func 38) [] [])) [(.t 33), (.t 35)]), none, [], true⟩, ⟨(some 37), (.un .not (.t 36)), none, [], true⟩]) (.cond (.t 37) (
  .seq (
  .region [⟨(some 6), (.mv (.c (.bool false))), none, [], false⟩]) .ret) .skip)) (
  .seq (
  .region [⟨(some 38), (.faddr 0 (.t 5)), none, [], false⟩, ⟨(some 39), (.load none (.t 38)), none, [], false⟩, ⟨(some 40), (.lenSl (.t 39)), none, [], false⟩, ⟨(some 41), (.faddr 0 (.t 4)), none, [], false⟩, ⟨(some 42), (.load none (.t 41)), none, [], false⟩, ⟨(some 43), (.lenSl (.t 42)), none, [], false⟩, ⟨(some 44), (.minmax true [(.t 40), (.t 43)]), none, [], false⟩, ⟨(some 8), (.mv (.t 44)), none, [], false⟩]) (
  .seq (
  .region [⟨(some 45), (.faddr 1 (.t 5)), none, [], true⟩, ⟨(some 46), (.load none (.t 45)), none, [], true⟩, ⟨(some 47), (.lenSl (.t 46)), none, [], true⟩, ⟨(some 48), (.faddr 1 (.t 5)), none, [], true⟩, ⟨(some 49), (.load none (.t 48)), none, [], true⟩, ⟨(some 50), (.lenSl (.t 49)), none, [], true⟩, ⟨(some 51), (.faddr 1 (.t 4)), none, [], true⟩, ⟨(some 52), (.load none (.t 51)), none, [], true⟩, ⟨(some 53), (.lenSl (.t 52)), none, [], true⟩, ⟨(some 56), (.faddr 1 (.t 4)), none, [], true⟩, ⟨(some 57), (.load none (.t 56)), none, [], true⟩, ⟨(some 58), (.lenSl (.t 57)), none, [], true⟩, ⟨(some 54), (.call (.c (.fn (.func 39) [] [])) [(.t 50), (.t 53)]), none, [(46, (none, (.load none (.t 45)))), (57, (none, (.load none (.t 56))))], true⟩, ⟨(some 55), (.bin .quo (.t 47) (.t 54)), none, [], true⟩, ⟨(some 59), (.bin .mul (.t 55) (.t 58)), none, [], true⟩, ⟨(some 9), (.mv (.t 59)), none, [], true⟩]) (
  .seq (
  .region [⟨(some 10), (.mv (.c (.bool false))), none, [], false⟩]) (
  .seq (
  .seq (
  .region [⟨(some 60), (.mv (.t 8)), none, [], false⟩, ⟨(some 61), (.mv (.t 9)), none, [], false⟩, ⟨(some 62), (.bin .add (.t 60) (.t 61)), none, [], false⟩, ⟨(some 63), (.mv (.c (.int .i64 0))), none, [], false⟩]) (.block 0 (.loop (
  .seq (
  .region [⟨(some 64), (.bin .lss (.t 63) (.t 62)), none, [], false⟩]) (
  .seq (.cond (.t 64) .skip (.exit 0)) (
  .seq (.block 1 (
  .seq (
  .region [⟨(some 65), (.mv (.t 63)), none, [], false⟩, ⟨(some 11), (.alloc [(.int .i64 0)]), none, [], false⟩, ⟨none, (.store 1 (.t 11) (.t 65)), none, [], false⟩]) (
  .seq (
  .region [⟨(some 66), (.faddr 2 (.t 3)), none, [], true⟩, ⟨(some 67), (.load none (.t 66)), none, [], true⟩, ⟨(some 68), (.load none (.t 7)), none, [], true⟩, ⟨(some 69), (.load none (.t 11)), none, [], true⟩, ⟨(some 73), (.faddr 0 (.t 4)), none, [], true⟩, ⟨(some 74), (.load none (.t 73)), none, [], true⟩, ⟨(some 75), (.faddr 1 (.t 4)), none, [], true⟩, ⟨(some 76), (.load none (.t 75)), none, [], true⟩, ⟨(some 77), (.load none (.t 11)), none, [], true⟩, ⟨(some 12), (.alloc [.nils]), none, [(67, (none, (.load none (.t 66)))), (68, (none, (.load none (.t 7)))), (69, (none, (.load none (.t 11)))), (74, (none, (.load none (.t 73)))), (76, (none, (.load none (.t 75)))), (77, (none, (.load none (.t 11))))], true⟩, ⟨(some 70), (.call (.t 68) [(.t 69)]), none, [(67, (none, (.load none (.t 66)))), (74, (none, (.load none (.t 73)))), (76, (none, (.load none (.t 75)))), (77, (none, (.load none (.t 11))))], true⟩, ⟨(some 71), (.iaddr 1 (.t 67) (.t 70)), none, [], true⟩, ⟨(some 72), (.load none (.t 71)), none, [], true⟩, ⟨(some 78), (.call (.c (.fn (.func 37) [] [])) [(.t 74), (.t 76), (.t 77)]), none, [(67, (none, (.load none (.t 66)))), (72, (none, (.load none (.t 71))))], true⟩, ⟨(some 79), (.iaddr 1 (.t 72) (.t 78)), none, [], true⟩, ⟨(some 80), (.load none (.t 79)), none, [], true⟩, ⟨none, (.store 1 (.t 12) (.t 80)), none, [], true⟩]) (
  .seq (
  .region [⟨(some 81), (.mkfn (.func 40) [] [(.t 12), (.t 7), (.t 11)]), none, [], false⟩, ⟨(some 13), (.mv (.t 81)), none, [], false⟩]) (
  .seq (
  .region [⟨(some 82), (.mv (.t 13)), none, [], false⟩, ⟨(some 83), (.call (.t 82) [(.c (.bool true))]), none, [], false⟩, ⟨(some 14), (.mv (.t 83)), none, [], false⟩]) (
  .seq (
  .seq (
  .region [⟨(some 84), (.mv (.t 14)), none, [], false⟩, ⟨(some 85), (.un .not (.t 84)), none, [], false⟩, ⟨(some 86), (.mv (.t 85)), none, [], false⟩, ⟨(some 87), (.mv (.t 13)), (some (86, true)), [], false⟩, ⟨(some 88), (.call (.t 87) [(.c (.bool false))]), (some (86, true)), [], false⟩, ⟨(some 89), (.un .not (.t 88)), (some (86, true)), [], false⟩, ⟨(some 90), (.pick (.t 86) (.t 89) (.c (.bool false))), none, [], false⟩]) (.cond (.t 90) (
  .seq (
  .region [⟨(some 6), (.mv (.c (.bool false))), none, [], false⟩]) .ret) .skip)) (
  .region [⟨(some 91), (.mv (.t 10)), none, [], false⟩, ⟨(some 92), (.mv (.t 91)), none, [], false⟩, ⟨(some 93), (.mv (.t 14)), (some (92, false)), [], false⟩, ⟨(some 94), (.mv (.t 93)), (some (92, false)), [], false⟩, ⟨(some 95), (.load none (.t 11)), (some (94, true)), [], false⟩, ⟨(some 96), (.mv (.t 8)), (some (94, true)), [], false⟩, ⟨(some 97), (.bin .geq (.t 95) (.t 96)), (some (94, true)), [], false⟩, ⟨(some 98), (.pick (.t 94) (.t 97) (.c (.bool false))), (some (92, false)), [], false⟩, ⟨(some 99), (.pick (.t 92) (.c (.bool true)) (.t 98)), none, [], false⟩, ⟨(some 10), (.mv (.t 99)), none, [], false⟩]))))))) (
  .region [⟨(some 100), (.bin .add (.t 63) (.c (.int .i64 1))), none, [], false⟩, ⟨(some 63), (.mv (.t 100)), none, [], false⟩]))))))) (
  .seq (
  .region [⟨(some 101), (.mv (.t 10)), none, [], false⟩, ⟨(some 6), (.mv (.t 101)), none, [], false⟩]) .ret)))))))))⟩
theorem c11 : compFunc Tryz.prog GL [] Tryz.f11 = some l11 := by kernel_rfl
def l12 : LFunc := ⟨13, [(.tmp 4)],
  (
  .seq (
  .region [⟨(some 2), (.box true (.t 0)), none, [], false⟩, ⟨(some 3), (.box true (.t 1)), none, [], false⟩, ⟨(some 4), (.mv (.c (.bool false))), none, [], false⟩]) (
  .seq (
  .region [⟨(some 5), (.load (some 3) (.t 2)), none, [], false⟩, ⟨(some 6), (.call (.c (.fn (.func 14) [] [])) [(.t 5)]), none, [], false⟩, ⟨(some 7), (.mv (.t 6)), none, [], false⟩, ⟨(some 8), (.faddr 0 (.t 2)), (some (7, true)), [], false⟩, ⟨(some 9), (.load none (.t 8)), (some (7, true)), [], false⟩, ⟨(some 10), (.load (some 2) (.t 3)), (some (7, true)), [], false⟩, ⟨(some 11), (.call (.c (.fn (.func 42) [] [])) [(.t 9), (.t 10)]), (some (7, true)), [], false⟩, ⟨(some 12), (.pick (.t 7) (.t 11) (.c (.bool false))), none, [], false⟩, ⟨(some 4), (.mv (.t 12)), none, [], false⟩]) .ret))⟩
theorem c12 : compFunc Tryz.prog GL [] Tryz.f12 = some l12 := by kernel_rfl
def l14 : LFunc := ⟨134, [(.tmp 2)],
  (
  .seq (
  .region [⟨(some 1), (.box true (.t 0)), none, [], false⟩, ⟨(some 2), (.mv (.c (.bool false))), none, [], false⟩]) (
  .seq (
  .seq (
  .region [⟨(some 8), (.faddr 0 (.t 1)), none, [], false⟩, ⟨(some 9), (.load none (.t 8)), none, [], false⟩, ⟨(some 10), (.bin .lss (.t 9) (.c (.int .i64 1))), none, [], false⟩, ⟨(some 11), (.mv (.t 10)), none, [], false⟩, ⟨(some 12), (.faddr 0 (.t 1)), (some (11, false)), [], false⟩, ⟨(some 13), (.load none (.t 12)), (some (11, false)), [], false⟩, ⟨(some 14), (.bin .gtr (.t 13) (.c (.int .i64 64))), (some (11, false)), [], false⟩, ⟨(some 15), (.pick (.t 11) (.c (.bool true)) (.t 14)), none, [], false⟩, ⟨(some 16), (.mv (.t 15)), none, [], false⟩, ⟨(some 17), (.faddr 2 (.t 1)), (some (16, false)), [], false⟩, ⟨(some 18), (.load none (.t 17)), (some (16, false)), [], false⟩, ⟨(some 19), (.lenSl (.t 18)), (some (16, false)), [], false⟩, ⟨(some 20), (.bin .gtr (.t 19) (.c (.int .i64 3000))), (some (16, false)), [], false⟩, ⟨(some 21), (.pick (.t 16) (.c (.bool true)) (.t 20)), none, [], false⟩]) (.cond (.t 21) (
  .seq (
  .region [⟨(some 2), (.mv (.c (.bool false))), none, [], false⟩]) .ret) .skip)) (
  .seq (
  .seq (
  .region [⟨(some 3), (.mv (.c (.int .i64 0))), none, [], false⟩]) (.block 0 (.loop (
  .seq (
  .seq (
  .region [⟨(some 22), (.mv (.t 3)), none, [], false⟩, ⟨(some 23), (.faddr 1 (.t 1)), none, [], false⟩, ⟨(some 24), (.load none (.t 23)), none, [], false⟩, ⟨(some 25), (.lenSl (.t 24)), none, [], false⟩, ⟨(some 26), (.bin .lss (.t 22) (.t 25)), none, [], false⟩]) (.cond (.t 26) .skip (.exit 0))) (
  .seq (.block 1 (
  .seq (
  .region [⟨(some 29), (.faddr 1 (.t 1)), none, [], true⟩, ⟨(some 30), (.load none (.t 29)), none, [], true⟩, ⟨(some 31), (.mv (.t 3)), none, [], true⟩, ⟨(some 32), (.iaddr 1 (.t 30) (.t 31)), none, [], true⟩, ⟨(some 33), (.load none (.t 32)), none, [], true⟩, ⟨(some 34), (.bin .lss (.t 33) (.c (.int .i64 0))), none, [], true⟩, ⟨(some 35), (.mv (.t 34)), none, [], true⟩, ⟨(some 36), (.faddr 1 (.t 1)), (some (35, false)), [], true⟩, ⟨(some 37), (.load none (.t 36)), (some (35, false)), [], true⟩, ⟨(some 38), (.mv (.t 3)), (some (35, false)), [], true⟩, ⟨(some 39), (.iaddr 1 (.t 37) (.t 38)), (some (35, false)), [], true⟩, ⟨(some 40), (.load none (.t 39)), (some (35, false)), [], true⟩, ⟨(some 41), (.faddr 2 (.t 1)), (some (35, false)), [], true⟩, ⟨(some 42), (.load none (.t 41)), (some (35, false)), [], true⟩, ⟨(some 43), (.lenSl (.t 42)), (some (35, false)), [], true⟩, ⟨(some 44), (.bin .geq (.t 40) (.t 43)), (some (35, false)), [], true⟩, ⟨(some 45), (.pick (.t 35) (.c (.bool true)) (.t 44)), none, [], true⟩, ⟨(some 46), (.mv (.t 45)), none, [], true⟩, ⟨(some 47), (.mv (.t 3)), (some (46, false)), [], true⟩, ⟨(some 48), (.bin .gtr (.t 47) (.c (.int .i64 0))), (some (46, false)), [], true⟩, ⟨(some 49), (.mv (.t 48)), (some (46, false)), [], true⟩, ⟨(some 50), (.faddr 1 (.t 1)), (some (49, true)), [], true⟩, ⟨(some 51), (.load none (.t 50)), (some (49, true)), [], true⟩, ⟨(some 52), (.mv (.t 3)), (some (49, true)), [], true⟩, ⟨(some 53), (.bin .sub (.t 52) (.c (.int .i64 1))), (some (49, true)), [], true⟩, ⟨(some 54), (.iaddr 1 (.t 51) (.t 53)), (some (49, true)), [], true⟩, ⟨(some 55), (.load none (.t 54)), (some (49, true)), [], true⟩, ⟨(some 56), (.faddr 1 (.t 1)), (some (49, true)), [], true⟩, ⟨(some 57), (.load none (.t 56)), (some (49, true)), [], true⟩, ⟨(some 58), (.mv (.t 3)), (some (49, true)), [], true⟩, ⟨(some 59), (.iaddr 1 (.t 57) (.t 58)), (some (49, true)), [], true⟩, ⟨(some 60), (.load none (.t 59)), (some (49, true)), [], true⟩, ⟨(some 61), (.bin .geq (.t 55) (.t 60)), (some (49, true)), [], true⟩, ⟨(some 62), (.pick (.t 49) (.t 61) (.c (.bool false))), (some (46, false)), [], true⟩, ⟨(some 63), (.pick (.t 46) (.c (.bool true)) (.t 62)), none, [], true⟩]) (.cond (.t 63) (
  .seq (
  .region [⟨(some 2), (.mv (.c (.bool false))), none, [], false⟩]) .ret) .skip))) (
  .region [⟨(some 27), (.mv (.t 3)), none, [], false⟩, ⟨(some 28), (.bin .add (.t 27) (.c (.int .i64 1))), none, [], false⟩, ⟨(some 3), (.mv (.t 28)), none, [], false⟩])))))) (
  .seq (
  .seq (
  .region [⟨(some 4), (.mv (.c (.int .i64 0))), none, [], false⟩]) (.block 2 (.loop (
  .seq (
  .seq (
  .region [⟨(some 64), (.mv (.t 4)), none, [], false⟩, ⟨(some 65), (.faddr 2 (.t 1)), none, [], false⟩, ⟨(some 66), (.load none (.t 65)), none, [], false⟩, ⟨(some 67), (.lenSl (.t 66)), none, [], false⟩, ⟨(some 68), (.bin .lss (.t 64) (.t 67)), none, [], false⟩]) (.cond (.t 68) .skip (.exit 2))) (
  .seq (.block 3 (
  .seq (
  .seq (
  .region [⟨(some 71), (.faddr 2 (.t 1)), none, [], true⟩, ⟨(some 72), (.load none (.t 71)), none, [], true⟩, ⟨(some 73), (.mv (.t 4)), none, [], true⟩, ⟨(some 74), (.iaddr 1 (.t 72) (.t 73)), none, [], true⟩, ⟨(some 75), (.load none (.t 74)), none, [], true⟩, ⟨(some 76), (.lenSl (.t 75)), none, [], true⟩, ⟨(some 77), (.faddr 0 (.t 1)), none, [], true⟩, ⟨(some 78), (.load none (.t 77)), none, [], true⟩, ⟨(some 79), (.bin .neq (.t 76) (.t 78)), none, [], true⟩]) (.cond (.t 79) (
  .seq (
  .region [⟨(some 2), (.mv (.c (.bool false))), none, [], false⟩]) .ret) .skip)) (
  .seq (
  .region [⟨(some 5), (.mv (.c (.int .i64 0))), none, [], false⟩]) (.block 4 (.loop (
  .seq (
  .seq (
  .region [⟨(some 80), (.mv (.t 5)), none, [], false⟩, ⟨(some 81), (.faddr 0 (.t 1)), none, [], false⟩, ⟨(some 82), (.load none (.t 81)), none, [], false⟩, ⟨(some 83), (.bin .lss (.t 80) (.t 82)), none, [], false⟩]) (.cond (.t 83) .skip (.exit 4))) (
  .seq (.block 5 (
  .seq (
  .region [⟨(some 86), (.faddr 2 (.t 1)), none, [], false⟩, ⟨(some 87), (.load none (.t 86)), none, [], false⟩, ⟨(some 88), (.mv (.t 4)), none, [], false⟩, ⟨(some 89), (.iaddr 1 (.t 87) (.t 88)), none, [], false⟩, ⟨(some 90), (.load none (.t 89)), none, [], false⟩, ⟨(some 91), (.mv (.t 5)), none, [], false⟩, ⟨(some 92), (.iaddr 1 (.t 90) (.t 91)), none, [], false⟩, ⟨(some 93), (.load none (.t 92)), none, [], false⟩, ⟨(some 6), (.mv (.t 93)), none, [], false⟩]) (
  .seq (
  .region [⟨(some 7), (.mv (.c (.int .i64 0))), none, [], false⟩]) (.block 6 (.loop (
  .seq (
  .seq (
  .region [⟨(some 94), (.mv (.t 7)), none, [], false⟩, ⟨(some 95), (.mv (.t 6)), none, [], false⟩, ⟨(some 96), (.lenSl (.t 95)), none, [], false⟩, ⟨(some 97), (.bin .lss (.t 94) (.t 96)), none, [], false⟩]) (.cond (.t 97) .skip (.exit 6))) (
  .seq (.block 7 (
  .seq (
  .region [⟨(some 100), (.mv (.t 6)), none, [], true⟩, ⟨(some 101), (.mv (.t 7)), none, [], true⟩, ⟨(some 102), (.iaddr 2 (.t 100) (.t 101)), none, [], true⟩, ⟨(some 103), (.faddr 0 (.t 102)), none, [], true⟩, ⟨(some 104), (.load none (.t 103)), none, [], true⟩, ⟨(some 105), (.bin .lss (.t 104) (.c (.int .i64 0))), none, [], true⟩, ⟨(some 106), (.mv (.t 105)), none, [], true⟩, ⟨(some 107), (.mv (.t 6)), (some (106, false)), [], true⟩, ⟨(some 108), (.mv (.t 7)), (some (106, false)), [], true⟩, ⟨(some 109), (.iaddr 2 (.t 107) (.t 108)), (some (106, false)), [], true⟩, ⟨(some 110), (.faddr 0 (.t 109)), (some (106, false)), [], true⟩, ⟨(some 111), (.load none (.t 110)), (some (106, false)), [], true⟩, ⟨(some 112), (.faddr 2 (.t 1)), (some (106, false)), [], true⟩, ⟨(some 113), (.load none (.t 112)), (some (106, false)), [], true⟩, ⟨(some 114), (.lenSl (.t 113)), (some (106, false)), [], true⟩, ⟨(some 115), (.bin .geq (.t 111) (.t 114)), (some (106, false)), [], true⟩, ⟨(some 116), (.pick (.t 106) (.c (.bool true)) (.t 115)), none, [], true⟩, ⟨(some 117), (.mv (.t 116)), none, [], true⟩, ⟨(some 118), (.mv (.t 7)), (some (117, false)), [], true⟩, ⟨(some 119), (.bin .gtr (.t 118) (.c (.int .i64 0))), (some (117, false)), [], true⟩, ⟨(some 120), (.mv (.t 119)), (some (117, false)), [], true⟩, ⟨(some 121), (.mv (.t 6)), (some (120, true)), [], true⟩, ⟨(some 122), (.mv (.t 7)), (some (120, true)), [], true⟩, ⟨(some 123), (.bin .sub (.t 122) (.c (.int .i64 1))), (some (120, true)), [], true⟩, ⟨(some 124), (.iaddr 2 (.t 121) (.t 123)), (some (120, true)), [], true⟩, ⟨(some 125), (.load (some 2) (.t 124)), (some (120, true)), [], true⟩, ⟨(some 126), (.mv (.t 6)), (some (120, true)), [], true⟩, ⟨(some 127), (.mv (.t 7)), (some (120, true)), [], true⟩, ⟨(some 128), (.iaddr 2 (.t 126) (.t 127)), (some (120, true)), [], true⟩, ⟨(some 129), (.load (some 2) (.t 128)), (some (120, true)), [], true⟩, ⟨(some 130), (.call (.c (.fn (.func 44) [] [])) [(.t 125), (.t 129)]), (some (120, true)), [], true⟩, ⟨(some 131), (.un .not (.t 130)), (some (120, true)), [], true⟩, ⟨(some 132), (.pick (.t 120) (.t 131) (.c (.bool false))), (some (117, false)), [], true⟩, ⟨(some 133), (.pick (.t 117) (.c (.bool true)) (.t 132)), none, [], true⟩]) (.cond (.t 133) (
  .seq (
  .region [⟨(some 2), (.mv (.c (.bool false))), none, [], false⟩]) .ret) .skip))) (
  .region [⟨(some 98), (.mv (.t 7)), none, [], false⟩, ⟨(some 99), (.bin .add (.t 98) (.c (.int .i64 1))), none, [], false⟩, ⟨(some 7), (.mv (.t 99)), none, [], false⟩])))))))) (
  .region [⟨(some 84), (.mv (.t 5)), none, [], false⟩, ⟨(some 85), (.bin .add (.t 84) (.c (.int .i64 1))), none, [], false⟩, ⟨(some 5), (.mv (.t 85)), none, [], false⟩])))))))) (
  .region [⟨(some 69), (.mv (.t 4)), none, [], false⟩, ⟨(some 70), (.bin .add (.t 69) (.c (.int .i64 1))), none, [], false⟩, ⟨(some 4), (.mv (.t 70)), none, [], false⟩])))))) (
  .seq (
  .region [⟨(some 2), (.mv (.c (.bool true))), none, [], false⟩]) .ret)))))⟩
theorem c14 : compFunc Tryz.prog GL [] Tryz.f14 = some l14 := by kernel_rfl
def l16 : LFunc := ⟨29, [(.tmp 4)],
  (
  .seq (
  .region [⟨(some 2), (.box false (.t 0)), none, [], false⟩, ⟨(some 3), (.box false (.t 1)), none, [], false⟩, ⟨(some 4), (.mv (.c (.bool false))), none, [], false⟩]) (
  .seq (
  .seq (
  .region [⟨(some 5), (.load (some 2) (.t 2)), none, [], false⟩, ⟨(some 6), (.call (.c (.fn (.func 45) [] [])) [(.t 5)]), none, [], false⟩, ⟨(some 7), (.un .not (.t 6)), none, [], false⟩, ⟨(some 8), (.mv (.t 7)), none, [], false⟩, ⟨(some 9), (.load (some 2) (.t 3)), (some (8, false)), [], false⟩, ⟨(some 10), (.call (.c (.fn (.func 45) [] [])) [(.t 9)]), (some (8, false)), [], false⟩, ⟨(some 11), (.un .not (.t 10)), (some (8, false)), [], false⟩, ⟨(some 12), (.pick (.t 8) (.c (.bool true)) (.t 11)), none, [], false⟩]) (.cond (.t 12) (
  .seq (
  .region [⟨(some 4), (.mv (.c (.bool false))), none, [], false⟩]) .ret) .skip)) (
  .seq (
  .region [⟨(some 13), (.load (some 2) (.t 2)), none, [], true⟩, ⟨(some 15), (.load (some 2) (.t 3)), none, [], true⟩, ⟨(some 14), (.call (.c (.fn (.func 46) [] [])) [(.t 13)]), none, [(15, (none, (.load (some 2) (.t 3))))], true⟩, ⟨(some 16), (.call (.c (.fn (.func 46) [] [])) [(.t 15)]), none, [], true⟩, ⟨none, (.store 2 (.t 2) (.t 14)), none, [], true⟩, ⟨none, (.store 2 (.t 3) (.t 16)), none, [], true⟩]) (
  .seq (
  .region [⟨(some 17), (.faddr 0 (.t 2)), none, [], false⟩, ⟨(some 18), (.load none (.t 17)), none, [], false⟩, ⟨(some 19), (.faddr 0 (.t 3)), none, [], false⟩, ⟨(some 20), (.load none (.t 19)), none, [], false⟩, ⟨(some 21), (.call (.c (.fn (.func 47) [] [])) [(.t 18), (.t 20)]), none, [], false⟩, ⟨(some 22), (.mv (.t 21)), none, [], false⟩, ⟨(some 23), (.faddr 1 (.t 2)), (some (22, true)), [], false⟩, ⟨(some 24), (.load none (.t 23)), (some (22, true)), [], false⟩, ⟨(some 25), (.faddr 1 (.t 3)), (some (22, true)), [], false⟩, ⟨(some 26), (.load none (.t 25)), (some (22, true)), [], false⟩, ⟨(some 27), (.call (.c (.fn (.func 47) [] [])) [(.t 24), (.t 26)]), (some (22, true)), [], false⟩, ⟨(some 28), (.pick (.t 22) (.t 27) (.c (.bool false))), none, [], false⟩, ⟨(some 4), (.mv (.t 28)), none, [], false⟩]) .ret))))⟩
theorem c16 : compFunc Tryz.prog GL [2, 3] Tryz.f16 = some l16 := by kernel_rfl
def l17 : LFunc := ⟨17, [(.tmp 4)],
  (
  .seq (
  .region [⟨(some 2), (.box true (.t 0)), none, [], false⟩, ⟨(some 3), (.box true (.t 1)), none, [], false⟩, ⟨(some 4), (.mv (.c (.bool false))), none, [], false⟩]) (
  .seq (
  .region [⟨(some 5), (.faddr 0 (.t 2)), none, [], false⟩, ⟨(some 6), (.load none (.t 5)), none, [], false⟩, ⟨(some 7), (.faddr 0 (.t 3)), none, [], false⟩, ⟨(some 8), (.load none (.t 7)), none, [], false⟩, ⟨(some 9), (.call (.c (.fn (.func 48) [] [])) [(.t 6), (.t 8)]), none, [], false⟩, ⟨(some 10), (.mv (.t 9)), none, [], false⟩, ⟨(some 11), (.faddr 1 (.t 2)), (some (10, true)), [], false⟩, ⟨(some 12), (.load none (.t 11)), (some (10, true)), [], false⟩, ⟨(some 13), (.faddr 1 (.t 3)), (some (10, true)), [], false⟩, ⟨(some 14), (.load none (.t 13)), (some (10, true)), [], false⟩, ⟨(some 15), (.call (.c (.fn (.func 48) [] [])) [(.t 12), (.t 14)]), (some (10, true)), [], false⟩, ⟨(some 16), (.pick (.t 10) (.t 15) (.c (.bool false))), none, [], false⟩, ⟨(some 4), (.mv (.t 16)), none, [], false⟩]) .ret))⟩
theorem c17 : compFunc Tryz.prog GL [] Tryz.f17 = some l17 := by kernel_rfl
def l18 : LFunc := ⟨76, [(.tmp 6)],
  (
  .seq (
  .region [⟨(some 3), (.box true (.t 0)), none, [], false⟩, ⟨(some 4), (.box true (.t 1)), none, [], false⟩, ⟨(some 6), (.mv (.c (.bool false))), none, [], false⟩]) (
  .seq (
  .seq (
  .region [⟨(some 9), (.faddr 2 (.t 3)), none, [], false⟩, ⟨(some 10), (.load none (.t 9)), none, [], false⟩, ⟨(some 11), (.lenSl (.t 10)), none, [], false⟩, ⟨(some 12), (.mv (.t 2)), none, [], false⟩, ⟨(some 13), (.bin .gtr (.t 11) (.t 12)), none, [], false⟩, ⟨(some 14), (.mv (.t 13)), none, [], false⟩, ⟨(some 15), (.faddr 1 (.t 3)), (some (14, false)), [], false⟩, ⟨(some 16), (.load none (.t 15)), (some (14, false)), [], false⟩, ⟨(some 17), (.lenSl (.t 16)), (some (14, false)), [], false⟩, ⟨(some 18), (.bin .gtr (.t 17) (.c (.int .i64 60))), (some (14, false)), [], false⟩, ⟨(some 19), (.pick (.t 14) (.c (.bool true)) (.t 18)), none, [], false⟩, ⟨(some 20), (.mv (.t 19)), none, [], false⟩, ⟨(some 21), (.faddr 0 (.t 3)), (some (20, false)), [], false⟩, ⟨(some 22), (.load none (.t 21)), (some (20, false)), [], false⟩, ⟨(some 23), (.bin .gtr (.t 22) (.c (.int .i64 8))), (some (20, false)), [], false⟩, ⟨(some 24), (.mv (.t 23)), (some (20, false)), [], false⟩, ⟨(some 25), (.faddr 0 (.t 3)), (some (24, true)), [], false⟩, ⟨(some 26), (.load none (.t 25)), (some (24, true)), [], false⟩, ⟨(some 27), (.bin .leq (.t 26) (.c (.int .i64 64))), (some (24, true)), [], false⟩, ⟨(some 28), (.pick (.t 24) (.t 27) (.c (.bool false))), (some (20, false)), [], false⟩, ⟨(some 29), (.pick (.t 20) (.c (.bool true)) (.t 28)), none, [], false⟩, ⟨(some 30), (.mv (.t 29)), none, [], false⟩, ⟨(some 31), (.faddr 0 (.t 4)), (some (30, false)), [], false⟩, ⟨(some 32), (.load none (.t 31)), (some (30, false)), [], false⟩, ⟨(some 33), (.lenSl (.t 32)), (some (30, false)), [], false⟩, ⟨(some 34), (.bin .gtr (.t 33) (.c (.int .i64 12))), (some (30, false)), [], false⟩, ⟨(some 35), (.pick (.t 30) (.c (.bool true)) (.t 34)), none, [], false⟩, ⟨(some 36), (.mv (.t 35)), none, [], false⟩, ⟨(some 37), (.faddr 1 (.t 4)), (some (36, false)), [], false⟩, ⟨(some 38), (.load none (.t 37)), (some (36, false)), [], false⟩, ⟨(some 39), (.lenSl (.t 38)), (some (36, false)), [], false⟩, ⟨(some 40), (.bin .gtr (.t 39) (.c (.int .i64 12))), (some (36, false)), [], false⟩, ⟨(some 41), (.pick (.t 36) (.c (.bool true)) (.t 40)), none, [], false⟩]) (.cond (.t 41) (
  .seq (
  .region [⟨(some 6), (.mv (.c (.bool false))), none, [], false⟩]) .ret) .skip)) (
  .seq (
  .seq (
  .region [⟨(some 7), (.mv (.c (.int .i64 0))), none, [], false⟩]) (.block 0 (.loop (
  .seq (
  .seq (
  .region [⟨(some 42), (.mv (.t 7)), none, [], false⟩, ⟨(some 43), (.faddr 2 (.t 3)), none, [], false⟩, ⟨(some 44), (.load none (.t 43)), none, [], false⟩, ⟨(some 45), (.lenSl (.t 44)), none, [], false⟩, ⟨(some 46), (.bin .lss (.t 42) (.t 45)), none, [], false⟩]) (.cond (.t 46) .skip (.exit 0))) (
  .seq (.block 1 (
  .seq (
  .seq (
  .region [⟨(some 49), (.faddr 2 (.t 3)), none, [], false⟩, ⟨(some 50), (.load none (.t 49)), none, [], false⟩, ⟨(some 51), (.mv (.t 7)), none, [], false⟩, ⟨(some 52), (.iaddr 1 (.t 50) (.t 51)), none, [], false⟩, ⟨(some 53), (.load none (.t 52)), none, [], false⟩, ⟨(some 54), (.lenSl (.t 53)), none, [], false⟩, ⟨(some 55), (.bin .gtr (.t 54) (.c (.int .i64 64))), none, [], false⟩]) (.cond (.t 55) (
  .seq (
  .region [⟨(some 6), (.mv (.c (.bool false))), none, [], false⟩]) .ret) .skip)) (
  .seq (
  .region [⟨(some 8), (.mv (.c (.int .i64 0))), none, [], false⟩]) (.block 2 (.loop (
  .seq (
  .seq (
  .region [⟨(some 56), (.mv (.t 8)), none, [], false⟩, ⟨(some 57), (.faddr 2 (.t 3)), none, [], false⟩, ⟨(some 58), (.load none (.t 57)), none, [], false⟩, ⟨(some 59), (.mv (.t 7)), none, [], false⟩, ⟨(some 60), (.iaddr 1 (.t 58) (.t 59)), none, [], false⟩, ⟨(some 61), (.load none (.t 60)), none, [], false⟩, ⟨(some 62), (.lenSl (.t 61)), none, [], false⟩, ⟨(some 63), (.bin .lss (.t 56) (.t 62)), none, [], false⟩]) (.cond (.t 63) .skip (.exit 2))) (
  .seq (.block 3 (
  .seq (
  .region [⟨(some 66), (.faddr 2 (.t 3)), none, [], false⟩, ⟨(some 67), (.load none (.t 66)), none, [], false⟩, ⟨(some 68), (.mv (.t 7)), none, [], false⟩, ⟨(some 69), (.iaddr 1 (.t 67) (.t 68)), none, [], false⟩, ⟨(some 70), (.load none (.t 69)), none, [], false⟩, ⟨(some 71), (.mv (.t 8)), none, [], false⟩, ⟨(some 72), (.iaddr 1 (.t 70) (.t 71)), none, [], false⟩, ⟨(some 73), (.load none (.t 72)), none, [], false⟩, ⟨(some 74), (.lenSl (.t 73)), none, [], false⟩, ⟨(some 75), (.bin .gtr (.t 74) (.c (.int .i64 60))), none, [], false⟩]) (.cond (.t 75) (
  .seq (
  .region [⟨(some 6), (.mv (.c (.bool false))), none, [], false⟩]) .ret) .skip))) (
  .region [⟨(some 64), (.mv (.t 8)), none, [], false⟩, ⟨(some 65), (.bin .add (.t 64) (.c (.int .i64 1))), none, [], false⟩, ⟨(some 8), (.mv (.t 65)), none, [], false⟩])))))))) (
  .region [⟨(some 47), (.mv (.t 7)), none, [], false⟩, ⟨(some 48), (.bin .add (.t 47) (.c (.int .i64 1))), none, [], false⟩, ⟨(some 7), (.mv (.t 48)), none, [], false⟩])))))) (
  .seq (
  .region [⟨(some 6), (.mv (.c (.bool true))), none, [], false⟩]) .ret))))⟩
theorem c18 : compFunc Tryz.prog GL [] Tryz.f18 = some l18 := by kernel_rfl
def l29 : LFunc := ⟨19, [(.tmp 4)],
  (
  .seq (
  .region [⟨(some 3), (.box true (.t 1)), none, [], false⟩, ⟨(some 4), (.mv (.c (.bool false))), none, [], false⟩]) (
  .seq (
  .region [⟨(some 5), (.load (some 2) (.t 3)), none, [], false⟩, ⟨(some 6), (.call (.c (.fn (.func 45) [] [])) [(.t 5)]), none, [], false⟩, ⟨(some 7), (.mv (.t 6)), none, [], false⟩, ⟨(some 8), (.faddr 0 (.t 3)), (some (7, true)), [], false⟩, ⟨(some 9), (.load none (.t 8)), (some (7, true)), [], false⟩, ⟨(some 10), (.mv (.t 0)), (some (7, true)), [], false⟩, ⟨(some 11), (.call (.c (.fn (.func 67) [] [])) [(.t 9), (.t 10)]), (some (7, true)), [], false⟩, ⟨(some 12), (.pick (.t 7) (.t 11) (.c (.bool false))), none, [], false⟩, ⟨(some 13), (.mv (.t 12)), none, [], false⟩, ⟨(some 14), (.faddr 1 (.t 3)), (some (13, true)), [], false⟩, ⟨(some 15), (.load none (.t 14)), (some (13, true)), [], false⟩, ⟨(some 16), (.mv (.t 0)), (some (13, true)), [], false⟩, ⟨(some 17), (.call (.c (.fn (.func 67) [] [])) [(.t 15), (.t 16)]), (some (13, true)), [], false⟩, ⟨(some 18), (.pick (.t 13) (.t 17) (.c (.bool false))), none, [], false⟩, ⟨(some 4), (.mv (.t 18)), none, [], false⟩]) .ret))⟩
theorem c29 : compFunc Tryz.prog GL [] Tryz.f29 = some l29 := by kernel_rfl
def l30 : LFunc := ⟨101, [(.tmp 2)],
  (
  .seq (
  .region [⟨(some 1), (.box true (.t 0)), none, [], false⟩, ⟨(some 2), (.mv (.c (.bool false))), none, [], false⟩]) (
  .seq (
  .seq (
  .region [⟨(some 12), (.faddr 0 (.t 1)), none, [], false⟩, ⟨(some 13), (.load none (.t 12)), none, [], false⟩, ⟨(some 14), (.bin .lss (.t 13) (.c (.int .i64 1))), none, [], false⟩, ⟨(some 15), (.mv (.t 14)), none, [], false⟩, ⟨(some 16), (.faddr 0 (.t 1)), (some (15, false)), [], false⟩, ⟨(some 17), (.load none (.t 16)), (some (15, false)), [], false⟩, ⟨(some 18), (.bin .gtr (.t 17) (.c (.int .i64 64))), (some (15, false)), [], false⟩, ⟨(some 19), (.pick (.t 15) (.c (.bool true)) (.t 18)), none, [], false⟩, ⟨(some 20), (.mv (.t 19)), none, [], false⟩, ⟨(some 21), (.faddr 2 (.t 1)), (some (20, false)), [], false⟩, ⟨(some 22), (.load none (.t 21)), (some (20, false)), [], false⟩, ⟨(some 23), (.lenSl (.t 22)), (some (20, false)), [], false⟩, ⟨(some 24), (.bin .gtr (.t 23) (.c (.int .i64 3000))), (some (20, false)), [], false⟩, ⟨(some 25), (.pick (.t 20) (.c (.bool true)) (.t 24)), none, [], false⟩]) (.cond (.t 25) (
  .seq (
  .region [⟨(some 2), (.mv (.c (.bool false))), none, [], false⟩]) .ret) .skip)) (
  .seq (
  .region [⟨(some 26), (.mkfn (.func 68) [] [(.t 1)]), none, [], false⟩, ⟨(some 3), (.mv (.t 26)), none, [], false⟩]) (
  .seq (
  .seq (
  .region [⟨(some 27), (.faddr 1 (.t 1)), none, [], false⟩, ⟨(some 28), (.load none (.t 27)), none, [], false⟩, ⟨(some 29), (.lenSl (.t 28)), none, [], false⟩, ⟨(some 30), (.mv (.c (.int .i64 0))), none, [], false⟩]) (.block 0 (.loop (
  .seq (
  .region [⟨(some 31), (.bin .lss (.t 30) (.t 29)), none, [], false⟩]) (
  .seq (.cond (.t 31) .skip (.exit 0)) (
  .seq (.block 1 (
  .seq (
  .region [⟨(some 32), (.mv (.t 30)), none, [], false⟩, ⟨(some 33), (.iaddr 1 (.t 28) (.t 30)), none, [], false⟩, ⟨(some 34), (.load none (.t 33)), none, [], false⟩, ⟨(some 4), (.mv (.t 32)), none, [], false⟩, ⟨(some 5), (.mv (.t 34)), none, [], false⟩]) (
  .seq (
  .region [⟨(some 35), (.mv (.t 3)), none, [], false⟩, ⟨(some 36), (.mv (.t 5)), none, [], false⟩, ⟨(some 37), (.call (.t 35) [(.t 36)]), none, [], false⟩, ⟨(some 38), (.un .not (.t 37)), none, [], false⟩, ⟨(some 39), (.mv (.t 38)), none, [], false⟩, ⟨(some 40), (.mv (.t 4)), (some (39, false)), [], false⟩, ⟨(some 41), (.bin .gtr (.t 40) (.c (.int .i64 0))), (some (39, false)), [], false⟩, ⟨(some 42), (.mv (.t 41)), (some (39, false)), [], false⟩, ⟨(some 43), (.faddr 1 (.t 1)), (some (42, true)), [], false⟩, ⟨(some 44), (.load none (.t 43)), (some (42, true)), [], false⟩, ⟨(some 45), (.mv (.t 4)), (some (42, true)), [], false⟩, ⟨(some 46), (.bin .sub (.t 45) (.c (.int .i64 1))), (some (42, true)), [], false⟩, ⟨(some 47), (.iaddr 1 (.t 44) (.t 46)), (some (42, true)), [], false⟩, ⟨(some 48), (.load none (.t 47)), (some (42, true)), [], false⟩, ⟨(some 49), (.mv (.t 5)), (some (42, true)), [], false⟩, ⟨(some 50), (.bin .geq (.t 48) (.t 49)), (some (42, true)), [], false⟩, ⟨(some 51), (.pick (.t 42) (.t 50) (.c (.bool false))), (some (39, false)), [], false⟩, ⟨(some 52), (.pick (.t 39) (.c (.bool true)) (.t 51)), none, [], false⟩]) (.cond (.t 52) (
  .seq (
  .region [⟨(some 2), (.mv (.c (.bool false))), none, [], false⟩]) .ret) .skip)))) (
  .region [⟨(some 53), (.bin .add (.t 30) (.c (.int .i64 1))), none, [], false⟩, ⟨(some 30), (.mv (.t 53)), none, [], false⟩]))))))) (
  .seq (
  .seq (
  .region [⟨(some 54), (.faddr 2 (.t 1)), none, [], false⟩, ⟨(some 55), (.load none (.t 54)), none, [], false⟩, ⟨(some 56), (.lenSl (.t 55)), none, [], false⟩, ⟨(some 57), (.mv (.c (.int .i64 0))), none, [], false⟩]) (.block 2 (.loop (
  .seq (
  .region [⟨(some 58), (.bin .lss (.t 57) (.t 56)), none, [], false⟩]) (
  .seq (.cond (.t 58) .skip (.exit 2)) (
  .seq (.block 3 (
  .seq (
  .region [⟨(some 59), (.iaddr 1 (.t 55) (.t 57)), none, [], false⟩, ⟨(some 60), (.load none (.t 59)), none, [], false⟩, ⟨(some 7), (.mv (.t 60)), none, [], false⟩]) (
  .seq (
  .seq (
  .region [⟨(some 61), (.mv (.t 7)), none, [], false⟩, ⟨(some 62), (.lenSl (.t 61)), none, [], false⟩, ⟨(some 63), (.faddr 0 (.t 1)), none, [], false⟩, ⟨(some 64), (.load none (.t 63)), none, [], false⟩, ⟨(some 65), (.bin .neq (.t 62) (.t 64)), none, [], false⟩]) (.cond (.t 65) (
  .seq (
  .region [⟨(some 2), (.mv (.c (.bool false))), none, [], false⟩]) .ret) .skip)) (
  .seq (
  .region [⟨(some 66), (.mv (.t 7)), none, [], false⟩, ⟨(some 67), (.lenSl (.t 66)), none, [], false⟩, ⟨(some 68), (.mv (.c (.int .i64 0))), none, [], false⟩]) (.block 4 (.loop (
  .seq (
  .region [⟨(some 69), (.bin .lss (.t 68) (.t 67)), none, [], false⟩]) (
  .seq (.cond (.t 69) .skip (.exit 4)) (
  .seq (.block 5 (
  .seq (
  .region [⟨(some 70), (.iaddr 1 (.t 66) (.t 68)), none, [], false⟩, ⟨(some 71), (.load none (.t 70)), none, [], false⟩, ⟨(some 9), (.mv (.t 71)), none, [], false⟩]) (
  .seq (
  .region [⟨(some 72), (.mv (.t 9)), none, [], false⟩, ⟨(some 73), (.lenSl (.t 72)), none, [], false⟩, ⟨(some 74), (.mv (.c (.int .i64 0))), none, [], false⟩]) (.block 6 (.loop (
  .seq (
  .region [⟨(some 75), (.bin .lss (.t 74) (.t 73)), none, [], false⟩]) (
  .seq (.cond (.t 75) .skip (.exit 6)) (
  .seq (.block 7 (
  .seq (
  .region [⟨(some 76), (.mv (.t 74)), none, [], false⟩, ⟨(some 77), (.iaddr 2 (.t 72) (.t 74)), none, [], false⟩, ⟨(some 78), (.load (some 2) (.t 77)), none, [], false⟩, ⟨(some 11), (.alloc [(.int .i64 0), (.bool false)]), none, [], false⟩, ⟨(some 10), (.mv (.t 76)), none, [], false⟩, ⟨none, (.store 2 (.t 11) (.t 78)), none, [], false⟩]) (
  .seq (
  .region [⟨(some 79), (.mv (.t 3)), none, [], true⟩, ⟨(some 80), (.faddr 0 (.t 11)), none, [], true⟩, ⟨(some 81), (.load none (.t 80)), none, [], true⟩, ⟨(some 82), (.call (.t 79) [(.t 81)]), none, [], true⟩, ⟨(some 83), (.un .not (.t 82)), none, [], true⟩, ⟨(some 84), (.mv (.t 83)), none, [], true⟩, ⟨(some 85), (.mv (.t 10)), (some (84, false)), [], true⟩, ⟨(some 86), (.bin .gtr (.t 85) (.c (.int .i64 0))), (some (84, false)), [], true⟩, ⟨(some 87), (.mv (.t 86)), (some (84, false)), [], true⟩, ⟨(some 88), (.mv (.t 9)), (some (87, true)), [], true⟩, ⟨(some 89), (.mv (.t 10)), (some (87, true)), [], true⟩, ⟨(some 90), (.bin .sub (.t 89) (.c (.int .i64 1))), (some (87, true)), [], true⟩, ⟨(some 91), (.iaddr 2 (.t 88) (.t 90)), (some (87, true)), [], true⟩, ⟨(some 92), (.load (some 2) (.t 91)), (some (87, true)), [], true⟩, ⟨(some 93), (.load (some 2) (.t 11)), (some (87, true)), [], true⟩, ⟨(some 94), (.call (.c (.fn (.func 69) [] [])) [(.t 92), (.t 93)]), (some (87, true)), [], true⟩, ⟨(some 95), (.bin .geq (.t 94) (.c (.int .i64 0))), (some (87, true)), [], true⟩, ⟨(some 96), (.pick (.t 87) (.t 95) (.c (.bool false))), (some (84, false)), [], true⟩, ⟨(some 97), (.pick (.t 84) (.c (.bool true)) (.t 96)), none, [], true⟩]) (.cond (.t 97) (
  .seq (
  .region [⟨(some 2), (.mv (.c (.bool false))), none, [], false⟩]) .ret) .skip)))) (
  .region [⟨(some 98), (.bin .add (.t 74) (.c (.int .i64 1))), none, [], false⟩, ⟨(some 74), (.mv (.t 98)), none, [], false⟩]))))))))) (
  .region [⟨(some 99), (.bin .add (.t 68) (.c (.int .i64 1))), none, [], false⟩, ⟨(some 68), (.mv (.t 99)), none, [], false⟩])))))))))) (
  .region [⟨(some 100), (.bin .add (.t 57) (.c (.int .i64 1))), none, [], false⟩, ⟨(some 57), (.mv (.t 100)), none, [], false⟩]))))))) (
  .seq (
  .region [⟨(some 2), (.mv (.c (.bool true))), none, [], false⟩]) .ret))))))⟩
theorem c30 : compFunc Tryz.prog GL [] Tryz.f30 = some l30 := by kernel_rfl
def l31 : LFunc := ⟨19, [(.cell 4 (some 5))],
  (
  .seq (
  .region [⟨(some 2), (.box true (.t 0)), none, [], false⟩, ⟨(some 3), (.box true (.t 1)), none, [], false⟩, ⟨(some 4), (.alloc [(.int .i64 0), .nils, .nils, .nils, (.int .i64 0)]), none, [], false⟩]) (
  .seq (
  .region [⟨(some 6), (.load (some 2) (.t 3)), none, [], false⟩, ⟨(some 7), (.call (.c (.fn (.func 70) [] [])) [(.t 6)]), none, [], false⟩, ⟨(some 5), (.alloc [.nils, .nils]), none, [], false⟩, ⟨none, (.store 2 (.t 5) (.t 7)), none, [], false⟩]) (
  .seq (
  .region [⟨(some 8), (.load (some 3) (.t 2)), none, [], true⟩, ⟨(some 9), (.faddr 0 (.t 5)), none, [], true⟩, ⟨(some 10), (.load none (.t 9)), none, [], true⟩, ⟨(some 11), (.faddr 1 (.t 5)), none, [], true⟩, ⟨(some 12), (.load none (.t 11)), none, [], true⟩, ⟨(some 13), (.bslice 1 2 [.nils] [(0, (1, (.t 10))), (1, (1, (.t 12)))]), none, [(8, (none, (.load (some 3) (.t 2)))), (10, (none, (.load none (.t 9)))), (12, (none, (.load none (.t 11))))], true⟩, ⟨(some 15), (.faddr 0 (.t 5)), none, [], true⟩, ⟨(some 16), (.load none (.t 15)), none, [], true⟩, ⟨(some 17), (.lenSl (.t 16)), none, [], true⟩, ⟨(some 14), (.call (.c (.fn (.func 71) [] [])) [(.t 13)]), none, [(8, (none, (.load (some 3) (.t 2)))), (16, (none, (.load none (.t 15))))], true⟩, ⟨(some 18), (.build [(.int .i64 0), .nils, .nils, .nils, (.int .i64 0)] [(0, (3, (.t 8))), (3, (1, (.t 14))), (4, (1, (.t 17)))]), none, [], true⟩, ⟨none, (.store 5 (.t 4) (.t 18)), none, [], true⟩]) .ret)))⟩
theorem c31 : compFunc Tryz.prog GL [] Tryz.f31 = some l31 := by kernel_rfl
def l32 : LFunc := ⟨55, [(.cell 4 (some 3))],
  (
  .seq (
  .region [⟨(some 2), (.box true (.t 0)), none, [], false⟩, ⟨(some 4), (.alloc [.nilm, .nils, .nils]), none, [], false⟩]) (
  .seq (
  .region [⟨(some 13), (.mkmap none), none, [], false⟩, ⟨(some 14), (.build [.nilm, .nils, .nils] [(0, (1, (.t 13)))]), none, [], false⟩, ⟨(some 5), (.alloc [.nilm, .nils, .nils]), none, [], false⟩, ⟨none, (.store 3 (.t 5) (.t 14)), none, [], false⟩]) (
  .seq (
  .region [⟨(some 15), (.mkfn (.func 72) [] [(.t 5)]), none, [], false⟩, ⟨(some 6), (.mv (.t 15)), none, [], false⟩]) (
  .seq (
  .seq (
  .region [⟨(some 16), (.mv (.t 1)), none, [], false⟩, ⟨(some 17), (.lenSl (.t 16)), none, [], false⟩, ⟨(some 18), (.mv (.c (.int .i64 0))), none, [], false⟩]) (.block 0 (.loop (
  .seq (
  .region [⟨(some 19), (.bin .lss (.t 18) (.t 17)), none, [], false⟩]) (
  .seq (.cond (.t 19) .skip (.exit 0)) (
  .seq (.block 1 (
  .seq (
  .region [⟨(some 20), (.iaddr 2 (.t 16) (.t 18)), none, [], false⟩, ⟨(some 21), (.load (some 2) (.t 20)), none, [], false⟩, ⟨(some 8), (.alloc [(.int .i64 0), (.int .i64 0)]), none, [], false⟩, ⟨none, (.store 2 (.t 8) (.t 21)), none, [], false⟩]) (
  .region [⟨(some 22), (.mv (.t 6)), none, [], false⟩, ⟨(some 23), (.load (some 2) (.t 8)), none, [], false⟩, ⟨(some 24), (.call (.t 22) [(.t 23), (.c (.int .i64 (-1)))]), none, [], false⟩]))) (
  .region [⟨(some 25), (.bin .add (.t 18) (.c (.int .i64 1))), none, [], false⟩, ⟨(some 18), (.mv (.t 25)), none, [], false⟩]))))))) (
  .seq (
  .seq (
  .region [⟨(some 9), (.mv (.c (.int .i64 0))), none, [], false⟩]) (.block 2 (.loop (
  .seq (
  .seq (
  .region [⟨(some 26), (.mv (.t 9)), none, [], false⟩, ⟨(some 27), (.faddr 1 (.t 5)), none, [], false⟩, ⟨(some 28), (.load none (.t 27)), none, [], false⟩, ⟨(some 29), (.lenSl (.t 28)), none, [], false⟩, ⟨(some 30), (.bin .lss (.t 26) (.t 29)), none, [], false⟩]) (.cond (.t 30) .skip (.exit 2))) (
  .seq (.block 3 (
  .seq (
  .region [⟨(some 33), (.faddr 1 (.t 5)), none, [], false⟩, ⟨(some 34), (.load none (.t 33)), none, [], false⟩, ⟨(some 35), (.mv (.t 9)), none, [], false⟩, ⟨(some 36), (.iaddr 2 (.t 34) (.t 35)), none, [], false⟩, ⟨(some 37), (.load (some 2) (.t 36)), none, [], false⟩, ⟨(some 10), (.alloc [(.int .i64 0), (.int .i64 0)]), none, [], false⟩, ⟨none, (.store 2 (.t 10) (.t 37)), none, [], false⟩]) (
  .seq (
  .region [⟨(some 38), (.load (some 5) (.t 2)), none, [], false⟩, ⟨(some 39), (.load (some 2) (.t 10)), none, [], false⟩, ⟨(some 40), (.call (.c (.fn (.func 73) [] [])) [(.t 38), (.t 39)]), none, [], false⟩, ⟨(some 41), (.lenSl (.t 40)), none, [], false⟩, ⟨(some 42), (.mv (.c (.int .i64 0))), none, [], false⟩]) (.block 4 (.loop (
  .seq (
  .region [⟨(some 43), (.bin .lss (.t 42) (.t 41)), none, [], false⟩]) (
  .seq (.cond (.t 43) .skip (.exit 4)) (
  .seq (.block 5 (
  .seq (
  .region [⟨(some 44), (.iaddr 2 (.t 40) (.t 42)), none, [], false⟩, ⟨(some 45), (.load (some 2) (.t 44)), none, [], false⟩, ⟨(some 12), (.alloc [(.int .i64 0), (.bool false)]), none, [], false⟩, ⟨none, (.store 2 (.t 12) (.t 45)), none, [], false⟩]) (
  .region [⟨(some 46), (.mv (.t 6)), none, [], false⟩, ⟨(some 47), (.load (some 5) (.t 2)), none, [], false⟩, ⟨(some 48), (.load (some 2) (.t 10)), none, [], false⟩, ⟨(some 49), (.load (some 2) (.t 12)), none, [], false⟩, ⟨(some 50), (.call (.c (.fn (.func 74) [] [])) [(.t 47), (.t 48), (.t 49)]), none, [], false⟩, ⟨(some 51), (.mv (.t 9)), none, [], false⟩, ⟨(some 52), (.call (.t 46) [(.t 50), (.t 51)]), none, [], false⟩]))) (
  .region [⟨(some 53), (.bin .add (.t 42) (.c (.int .i64 1))), none, [], false⟩, ⟨(some 42), (.mv (.t 53)), none, [], false⟩]))))))))) (
  .region [⟨(some 31), (.mv (.t 9)), none, [], false⟩, ⟨(some 32), (.bin .add (.t 31) (.c (.int .i64 1))), none, [], false⟩, ⟨(some 9), (.mv (.t 32)), none, [], false⟩])))))) (
  .seq (
  .region [⟨(some 54), (.load (some 3) (.t 5)), none, [], false⟩, ⟨none, (.store 3 (.t 4) (.t 54)), none, [], false⟩]) .ret))))))⟩
theorem c32 : compFunc Tryz.prog GL [] Tryz.f32 = some l32 := by kernel_rfl
def l33 : LFunc := ⟨21, [(.tmp 2)],
  (
  .seq (
  .region [⟨(some 1), (.box true (.t 0)), none, [], false⟩, ⟨(some 2), (.mv (.c .nils)), none, [], false⟩]) (
  .seq (
  .region [⟨(some 3), (.mv (.c .nils)), none, [], false⟩]) (
  .seq (
  .seq (
  .region [⟨(some 6), (.faddr 0 (.t 1)), none, [], false⟩, ⟨(some 7), (.faddr 1 (.t 6)), none, [], false⟩, ⟨(some 8), (.load none (.t 7)), none, [], false⟩, ⟨(some 9), (.lenSl (.t 8)), none, [], false⟩, ⟨(some 10), (.mv (.c (.int .i64 0))), none, [], false⟩]) (.block 0 (.loop (
  .seq (
  .region [⟨(some 11), (.bin .lss (.t 10) (.t 9)), none, [], false⟩]) (
  .seq (.cond (.t 11) .skip (.exit 0)) (
  .seq (.block 1 (
  .seq (
  .region [⟨(some 12), (.iaddr 1 (.t 8) (.t 10)), none, [], false⟩, ⟨(some 13), (.load none (.t 12)), none, [], false⟩, ⟨(some 5), (.mv (.t 13)), none, [], false⟩]) (
  .region [⟨(some 14), (.mv (.t 3)), none, [], false⟩, ⟨(some 15), (.mv (.t 5)), none, [], false⟩, ⟨(some 16), (.build [(.int .i64 0), (.int .i64 0)] [(1, (1, (.t 15)))]), none, [], false⟩, ⟨(some 17), (.bslice 2 1 [(.int .i64 0), (.int .i64 0)] [(0, (2, (.t 16)))]), none, [], false⟩, ⟨(some 18), (.append 2 16 (.t 14) (.t 17)), none, [], false⟩, ⟨(some 3), (.mv (.t 18)), none, [], false⟩]))) (
  .region [⟨(some 19), (.bin .add (.t 10) (.c (.int .i64 1))), none, [], false⟩, ⟨(some 10), (.mv (.t 19)), none, [], false⟩]))))))) (
  .seq (
  .region [⟨(some 20), (.mv (.t 3)), none, [], false⟩, ⟨(some 2), (.mv (.t 20)), none, [], false⟩]) .ret))))⟩
theorem c33 : compFunc Tryz.prog GL [] Tryz.f33 = some l33 := by kernel_rfl
def l34 : LFunc := ⟨102, [(.cell 4 (some 2)), (.cell 5 (some 2)), (.tmp 6)],
  (
  .seq (
  .region [⟨(some 2), (.box true (.t 0)), none, [], false⟩, ⟨(some 3), (.box false (.t 1)), none, [], false⟩, ⟨(some 4), (.alloc [(.int .i64 0), (.int .i64 0)]), none, [], false⟩, ⟨(some 5), (.alloc [(.int .i64 0), (.int .i64 0)]), none, [], false⟩, ⟨(some 6), (.mv (.c (.bool false))), none, [], false⟩]) (
  .seq (
  .region [⟨(some 17), (.faddr 1 (.t 3)), none, [], false⟩, ⟨(some 18), (.load none (.t 17)), none, [], false⟩, ⟨(some 19), (.lenSl (.t 18)), none, [], false⟩, ⟨(some 20), (.mkslice 1 24 [.nils] (.t 19) (.t 19)), none, [], false⟩, ⟨(some 7), (.mv (.t 20)), none, [], false⟩]) (
  .seq (
  .seq (
  .region [⟨(some 21), (.faddr 1 (.t 3)), none, [], false⟩, ⟨(some 22), (.load none (.t 21)), none, [], false⟩, ⟨(some 23), (.lenSl (.t 22)), none, [], false⟩, ⟨(some 24), (.mv (.c (.int .i64 0))), none, [], false⟩]) (.block 0 (.loop (
  .seq (
  .region [⟨(some 25), (.bin .lss (.t 24) (.t 23)), none, [], false⟩]) (
  .seq (.cond (.t 25) .skip (.exit 0)) (
  .seq (.block 1 (
  .seq (
  .region [⟨(some 26), (.mv (.t 24)), none, [], false⟩, ⟨(some 27), (.iaddr 2 (.t 22) (.t 24)), none, [], false⟩, ⟨(some 28), (.load (some 2) (.t 27)), none, [], false⟩, ⟨(some 9), (.alloc [(.int .i64 0), (.int .i64 0)]), none, [], false⟩, ⟨(some 8), (.mv (.t 26)), none, [], false⟩, ⟨none, (.store 2 (.t 9) (.t 28)), none, [], false⟩]) (
  .seq (
  .region [⟨(some 29), (.load (some 5) (.t 2)), none, [], false⟩, ⟨(some 30), (.load (some 2) (.t 9)), none, [], false⟩, ⟨(some 31), (.call (.c (.fn (.func 73) [] [])) [(.t 29), (.t 30)]), none, [], false⟩, ⟨(some 32), (.lenSl (.t 31)), none, [], false⟩, ⟨(some 33), (.mv (.c (.int .i64 0))), none, [], false⟩]) (.block 2 (.loop (
  .seq (
  .region [⟨(some 34), (.bin .lss (.t 33) (.t 32)), none, [], false⟩]) (
  .seq (.cond (.t 34) .skip (.exit 2)) (
  .seq (.block 3 (
  .seq (
  .region [⟨(some 35), (.iaddr 2 (.t 31) (.t 33)), none, [], false⟩, ⟨(some 36), (.load (some 2) (.t 35)), none, [], false⟩, ⟨(some 11), (.alloc [(.int .i64 0), (.bool false)]), none, [], false⟩, ⟨none, (.store 2 (.t 11) (.t 36)), none, [], false⟩]) (
  .region [⟨(some 37), (.mv (.t 7)), none, [], true⟩, ⟨(some 38), (.mv (.t 8)), none, [], true⟩, ⟨(some 39), (.mv (.t 7)), none, [], true⟩, ⟨(some 40), (.mv (.t 8)), none, [], true⟩, ⟨(some 41), (.iaddr 1 (.t 39) (.t 40)), none, [], true⟩, ⟨(some 42), (.load none (.t 41)), none, [], true⟩, ⟨(some 43), (.faddr 0 (.t 3)), none, [], true⟩, ⟨(some 44), (.load none (.t 43)), none, [], true⟩, ⟨(some 45), (.load (some 5) (.t 2)), none, [], true⟩, ⟨(some 46), (.load (some 2) (.t 9)), none, [], true⟩, ⟨(some 47), (.load (some 2) (.t 11)), none, [], true⟩, ⟨(some 48), (.call (.c (.fn (.func 74) [] [])) [(.t 45), (.t 46), (.t 47)]), none, [(42, (none, (.load none (.t 41)))), (44, (none, (.load none (.t 43))))], true⟩, ⟨(some 49), (.mlook (.st [(0, (1, .int)), (1, (1, .int))]) (.int .i64 0) false (.t 44) (.t 48)), none, [], true⟩, ⟨(some 50), (.bslice 1 1 [(.int .i64 0)] [(0, (1, (.t 49)))]), none, [(42, (none, (.load none (.t 41)))), (44, (none, (.load none (.t 43)))), (45, (none, (.load (some 5) (.t 2)))), (46, (none, (.load (some 2) (.t 9)))), (47, (none, (.load (some 2) (.t 11)))), (49, (none, (.mlook (.st [(0, (1, .int)), (1, (1, .int))]) (.int .i64 0) false (.t 44) (.t 48))))], true⟩, ⟨(some 51), (.append 1 8 (.t 42) (.t 50)), none, [], true⟩, ⟨(some 52), (.iaddr 1 (.t 37) (.t 38)), none, [], true⟩, ⟨none, (.store 1 (.t 52) (.t 51)), none, [], true⟩]))) (
  .region [⟨(some 53), (.bin .add (.t 33) (.c (.int .i64 1))), none, [], false⟩, ⟨(some 33), (.mv (.t 53)), none, [], false⟩]))))))))) (
  .region [⟨(some 54), (.bin .add (.t 24) (.c (.int .i64 1))), none, [], false⟩, ⟨(some 24), (.mv (.t 54)), none, [], false⟩]))))))) (
  .seq (
  .region [⟨(some 55), (.mv (.t 7)), none, [], false⟩, ⟨(some 56), (.call (.c (.fn (.func 75) [] [])) [(.t 55)]), none, [], false⟩, ⟨(some 12), (.mv (.t 56)), none, [], false⟩]) (
  .seq (
  .seq (
  .region [⟨(some 57), (.faddr 1 (.t 3)), none, [], false⟩, ⟨(some 58), (.load none (.t 57)), none, [], false⟩, ⟨(some 59), (.lenSl (.t 58)), none, [], false⟩, ⟨(some 60), (.mv (.c (.int .i64 0))), none, [], false⟩]) (.block 4 (.loop (
  .seq (
  .region [⟨(some 61), (.bin .lss (.t 60) (.t 59)), none, [], false⟩]) (
  .seq (.cond (.t 61) .skip (.exit 4)) (
  .seq (.block 5 (
  .seq (
  .region [⟨(some 62), (.mv (.t 60)), none, [], false⟩, ⟨(some 63), (.iaddr 2 (.t 58) (.t 60)), none, [], false⟩, ⟨(some 64), (.load (some 2) (.t 63)), none, [], false⟩, ⟨(some 14), (.alloc [(.int .i64 0), (.int .i64 0)]), none, [], false⟩, ⟨(some 13), (.mv (.t 62)), none, [], false⟩, ⟨none, (.store 2 (.t 14) (.t 64)), none, [], false⟩]) (
  .seq (
  .region [⟨(some 65), (.load (some 5) (.t 2)), none, [], false⟩, ⟨(some 66), (.load (some 2) (.t 14)), none, [], false⟩, ⟨(some 67), (.call (.c (.fn (.func 73) [] [])) [(.t 65), (.t 66)]), none, [], false⟩, ⟨(some 68), (.lenSl (.t 67)), none, [], false⟩, ⟨(some 69), (.mv (.c (.int .i64 0))), none, [], false⟩]) (.block 6 (.loop (
  .seq (
  .region [⟨(some 70), (.bin .lss (.t 69) (.t 68)), none, [], false⟩]) (
  .seq (.cond (.t 70) .skip (.exit 6)) (
  .seq (.block 7 (
  .seq (
  .region [⟨(some 71), (.mv (.t 69)), none, [], false⟩, ⟨(some 72), (.iaddr 2 (.t 67) (.t 69)), none, [], false⟩, ⟨(some 73), (.load (some 2) (.t 72)), none, [], false⟩, ⟨(some 16), (.alloc [(.int .i64 0), (.bool false)]), none, [], false⟩, ⟨(some 15), (.mv (.t 71)), none, [], false⟩, ⟨none, (.store 2 (.t 16) (.t 73)), none, [], false⟩]) (
  .seq (
  .region [⟨(some 74), (.faddr 1 (.t 16)), none, [], true⟩, ⟨(some 75), (.load none (.t 74)), none, [], true⟩, ⟨(some 76), (.mv (.t 75)), none, [], true⟩, ⟨(some 77), (.mv (.t 12)), (some (76, true)), [], true⟩, ⟨(some 78), (.mv (.t 7)), (some (76, true)), [], true⟩, ⟨(some 79), (.mv (.t 13)), (some (76, true)), [], true⟩, ⟨(some 80), (.iaddr 1 (.t 78) (.t 79)), (some (76, true)), [], true⟩, ⟨(some 81), (.load none (.t 80)), (some (76, true)), [], true⟩, ⟨(some 82), (.mv (.t 15)), (some (76, true)), [], true⟩, ⟨(some 83), (.iaddr 1 (.t 81) (.t 82)), (some (76, true)), [], true⟩, ⟨(some 84), (.load none (.t 83)), (some (76, true)), [], true⟩, ⟨(some 85), (.iaddr 1 (.t 77) (.t 84)), (some (76, true)), [], true⟩, ⟨(some 86), (.load none (.t 85)), (some (76, true)), [], true⟩, ⟨(some 87), (.mv (.t 12)), (some (76, true)), [], true⟩, ⟨(some 88), (.mv (.t 13)), (some (76, true)), [], true⟩, ⟨(some 89), (.iaddr 1 (.t 87) (.t 88)), (some (76, true)), [], true⟩, ⟨(some 90), (.load none (.t 89)), (some (76, true)), [], true⟩, ⟨(some 91), (.bin .eql (.t 86) (.t 90)), (some (76, true)), [], true⟩, ⟨(some 92), (.pick (.t 76) (.t 91) (.c (.bool false))), none, [], true⟩]) (.cond (.t 92) (
  .seq (
  .region [⟨(some 93), (.load (some 2) (.t 14)), none, [], true⟩, ⟨(some 94), (.load (some 5) (.t 2)), none, [], true⟩, ⟨(some 95), (.load (some 2) (.t 14)), none, [], true⟩, ⟨(some 96), (.load (some 2) (.t 16)), none, [], true⟩, ⟨(some 97), (.call (.c (.fn (.func 74) [] [])) [(.t 94), (.t 95), (.t 96)]), none, [(93, (none, (.load (some 2) (.t 14))))], true⟩, ⟨none, (.store 2 (.t 4) (.t 93)), none, [], true⟩, ⟨none, (.store 2 (.t 5) (.t 97)), none, [], true⟩, ⟨(some 6), (.mv (.c (.bool true))), none, [], true⟩]) .ret) .skip)))) (
  .region [⟨(some 98), (.bin .add (.t 69) (.c (.int .i64 1))), none, [], false⟩, ⟨(some 69), (.mv (.t 98)), none, [], false⟩]))))))))) (
  .region [⟨(some 99), (.bin .add (.t 60) (.c (.int .i64 1))), none, [], false⟩, ⟨(some 60), (.mv (.t 99)), none, [], false⟩]))))))) (
  .seq (
  .region [⟨(some 100), (.build [(.int .i64 0), (.int .i64 0)] []), none, [], false⟩, ⟨(some 101), (.build [(.int .i64 0), (.int .i64 0)] []), none, [], false⟩, ⟨none, (.store 2 (.t 4) (.t 100)), none, [], false⟩, ⟨none, (.store 2 (.t 5) (.t 101)), none, [], false⟩, ⟨(some 6), (.mv (.c (.bool false))), none, [], false⟩]) .ret))))))⟩
theorem c34 : compFunc Tryz.prog GL [3] Tryz.f34 = some l34 := by kernel_rfl
def l35 : LFunc := ⟨58, [(.tmp 4)],
  (
  .seq (
  .region [⟨(some 2), (.box false (.t 0)), none, [], false⟩, ⟨(some 3), (.box true (.t 1)), none, [], false⟩, ⟨(some 4), (.mv (.c .nils)), none, [], false⟩]) (
  .seq (
  .region [⟨(some 5), (.mv (.c .nils)), none, [], false⟩]) (
  .seq (
  .seq (
  .region [⟨(some 9), (.faddr 2 (.t 2)), none, [], true⟩, ⟨(some 10), (.load none (.t 9)), none, [], true⟩, ⟨(some 11), (.faddr 0 (.t 2)), none, [], true⟩, ⟨(some 12), (.load none (.t 11)), none, [], true⟩, ⟨(some 13), (.load (some 2) (.t 3)), none, [], true⟩, ⟨(some 14), (.mlook (.st [(0, (1, .int)), (1, (1, .int))]) (.int .i64 0) false (.t 12) (.t 13)), none, [], true⟩, ⟨(some 15), (.iaddr 1 (.t 10) (.t 14)), none, [], true⟩, ⟨(some 16), (.load none (.t 15)), none, [], true⟩, ⟨(some 6), (.mv (.t 16)), none, [], true⟩]) (.block 0 (.loop (
  .seq (
  .seq (
  .region [⟨(some 17), (.mv (.t 6)), none, [], false⟩, ⟨(some 18), (.bin .geq (.t 17) (.c (.int .i64 0))), none, [], false⟩]) (.cond (.t 18) .skip (.exit 0))) (
  .seq (.block 1 (
  .region [⟨(some 24), (.mv (.t 5)), none, [], false⟩, ⟨(some 25), (.faddr 1 (.t 2)), none, [], false⟩, ⟨(some 26), (.load none (.t 25)), none, [], false⟩, ⟨(some 27), (.mv (.t 6)), none, [], false⟩, ⟨(some 28), (.iaddr 2 (.t 26) (.t 27)), none, [], false⟩, ⟨(some 29), (.faddr 1 (.t 28)), none, [], false⟩, ⟨(some 30), (.load none (.t 29)), none, [], false⟩, ⟨(some 31), (.bslice 1 1 [(.int .i64 0)] [(0, (1, (.t 30)))]), none, [], false⟩, ⟨(some 32), (.append 1 8 (.t 24) (.t 31)), none, [], false⟩, ⟨(some 5), (.mv (.t 32)), none, [], false⟩])) (
  .region [⟨(some 19), (.faddr 2 (.t 2)), none, [], false⟩, ⟨(some 20), (.load none (.t 19)), none, [], false⟩, ⟨(some 21), (.mv (.t 6)), none, [], false⟩, ⟨(some 22), (.iaddr 1 (.t 20) (.t 21)), none, [], false⟩, ⟨(some 23), (.load none (.t 22)), none, [], false⟩, ⟨(some 6), (.mv (.t 23)), none, [], false⟩])))))) (
  .seq (
  .seq (
  .region [⟨(some 33), (.mv (.t 5)), none, [], false⟩, ⟨(some 34), (.lenSl (.t 33)), none, [], false⟩, ⟨(some 35), (.bin .sub (.t 34) (.c (.int .i64 1))), none, [], false⟩, ⟨(some 7), (.mv (.c (.int .i64 0))), none, [], false⟩, ⟨(some 8), (.mv (.t 35)), none, [], false⟩]) (.block 2 (.loop (
  .seq (
  .seq (
  .region [⟨(some 36), (.mv (.t 7)), none, [], false⟩, ⟨(some 37), (.mv (.t 8)), none, [], false⟩, ⟨(some 38), (.bin .lss (.t 36) (.t 37)), none, [], false⟩]) (.cond (.t 38) .skip (.exit 2))) (
  .seq (.block 3 (
  .region [⟨(some 43), (.mv (.t 5)), none, [], true⟩, ⟨(some 44), (.mv (.t 7)), none, [], true⟩, ⟨(some 45), (.mv (.t 5)), none, [], true⟩, ⟨(some 46), (.mv (.t 8)), none, [], true⟩, ⟨(some 47), (.mv (.t 5)), none, [], true⟩, ⟨(some 48), (.mv (.t 8)), none, [], true⟩, ⟨(some 49), (.iaddr 1 (.t 47) (.t 48)), none, [], true⟩, ⟨(some 50), (.load none (.t 49)), none, [], true⟩, ⟨(some 51), (.mv (.t 5)), none, [], true⟩, ⟨(some 52), (.mv (.t 7)), none, [], true⟩, ⟨(some 53), (.iaddr 1 (.t 51) (.t 52)), none, [], true⟩, ⟨(some 54), (.load none (.t 53)), none, [], true⟩, ⟨(some 55), (.iaddr 1 (.t 43) (.t 44)), none, [], true⟩, ⟨none, (.store 1 (.t 55) (.t 50)), none, [], true⟩, ⟨(some 56), (.iaddr 1 (.t 45) (.t 46)), none, [], true⟩, ⟨none, (.store 1 (.t 56) (.t 54)), none, [], true⟩])) (
  .region [⟨(some 39), (.mv (.t 7)), none, [], false⟩, ⟨(some 40), (.bin .add (.t 39) (.c (.int .i64 1))), none, [], false⟩, ⟨(some 41), (.mv (.t 8)), none, [], false⟩, ⟨(some 42), (.bin .sub (.t 41) (.c (.int .i64 1))), none, [], false⟩, ⟨(some 7), (.mv (.t 40)), none, [], false⟩, ⟨(some 8), (.mv (.t 42)), none, [], false⟩])))))) (
  .seq (
  .region [⟨(some 57), (.mv (.t 5)), none, [], false⟩, ⟨(some 4), (.mv (.t 57)), none, [], false⟩]) .ret)))))⟩
theorem c35 : compFunc Tryz.prog GL [2] Tryz.f35 = some l35 := by kernel_rfl
def l36 : LFunc := ⟨10, [(.tmp 3)],
  (
  .seq (
  .region [⟨(some 3), (.mv (.c (.int .i64 0))), none, [], false⟩]) (
  .seq (
  .region [⟨(some 4), (.faddr 0 (.t 1)), none, [], false⟩, ⟨(some 5), (.load none (.t 4)), none, [], false⟩, ⟨(some 6), (.faddr 1 (.t 1)), none, [], false⟩, ⟨(some 7), (.load none (.t 6)), none, [], false⟩, ⟨(some 8), (.mv (.t 0)), none, [], false⟩, ⟨(some 9), (.call (.c (.fn (.func 37) [] [])) [(.t 5), (.t 7), (.t 8)]), none, [], false⟩, ⟨(some 3), (.mv (.t 9)), none, [], false⟩]) .ret))⟩
theorem c36 : compFunc Tryz.prog GL [] Tryz.f36 = some l36 := by kernel_rfl
def l37 : LFunc := ⟨25, [(.tmp 6)],
  (
  .seq (
  .region [⟨(some 6), (.mv (.c (.int .i64 0))), none, [], false⟩]) (
  .seq (
  .seq (
  .region [⟨(some 7), (.mv (.t 2)), none, [], false⟩, ⟨(some 8), (.mv (.t 0)), none, [], false⟩, ⟨(some 9), (.lenSl (.t 8)), none, [], false⟩, ⟨(some 10), (.bin .lss (.t 7) (.t 9)), none, [], false⟩]) (.cond (.t 10) (
  .seq (
  .region [⟨(some 11), (.mv (.t 0)), none, [], false⟩, ⟨(some 12), (.mv (.t 2)), none, [], false⟩, ⟨(some 13), (.iaddr 1 (.t 11) (.t 12)), none, [], false⟩, ⟨(some 14), (.load none (.t 13)), none, [], false⟩, ⟨(some 6), (.mv (.t 14)), none, [], false⟩]) .ret) .skip)) (
  .seq (
  .region [⟨(some 15), (.mv (.t 1)), none, [], false⟩, ⟨(some 16), (.mv (.t 2)), none, [], false⟩, ⟨(some 17), (.mv (.t 0)), none, [], false⟩, ⟨(some 18), (.lenSl (.t 17)), none, [], false⟩, ⟨(some 19), (.bin .sub (.t 16) (.t 18)), none, [], false⟩, ⟨(some 20), (.mv (.t 1)), none, [], false⟩, ⟨(some 21), (.lenSl (.t 20)), none, [], false⟩, ⟨(some 22), (.bin .rem (.t 19) (.t 21)), none, [], false⟩, ⟨(some 23), (.iaddr 1 (.t 15) (.t 22)), none, [], false⟩, ⟨(some 24), (.load none (.t 23)), none, [], false⟩, ⟨(some 6), (.mv (.t 24)), none, [], false⟩]) .ret)))⟩
theorem c37 : compFunc Tryz.prog GL [] Tryz.f37 = some l37 := by kernel_rfl
def l38 : LFunc := ⟨9, [(.tmp 4)],
  (
  .seq (
  .region [⟨(some 4), (.mv (.c (.bool false))), none, [], false⟩]) (
  .seq (
  .region [⟨(some 5), (.mv (.t 0)), none, [], false⟩, ⟨(some 6), (.mv (.t 1)), none, [], false⟩, ⟨(some 7), (.call (.c (.fn (.func 76) [] [])) [(.t 5), (.t 6)]), none, [], false⟩, ⟨(some 8), (.bin .geq (.t 7) (.c (.int .i64 0))), none, [], false⟩, ⟨(some 4), (.mv (.t 8)), none, [], false⟩]) .ret))⟩
theorem c38 : compFunc Tryz.prog GL [] Tryz.f38 = some l38 := by kernel_rfl
def l39 : LFunc := ⟨12, [(.tmp 4)],
  (
  .seq (
  .region [⟨(some 4), (.mv (.c (.int .i64 0))), none, [], false⟩]) (
  .seq (.block 0 (.loop (
  .seq (
  .seq (
  .region [⟨(some 5), (.mv (.t 1)), none, [], false⟩, ⟨(some 6), (.bin .gtr (.t 5) (.c (.int .i64 0))), none, [], false⟩]) (.cond (.t 6) .skip (.exit 0))) (.block 1 (
  .region [⟨(some 7), (.mv (.t 1)), none, [], true⟩, ⟨(some 8), (.mv (.t 0)), none, [], true⟩, ⟨(some 9), (.mv (.t 1)), none, [], true⟩, ⟨(some 10), (.bin .rem (.t 8) (.t 9)), none, [], true⟩, ⟨(some 0), (.mv (.t 7)), none, [], true⟩, ⟨(some 1), (.mv (.t 10)), none, [], true⟩]))))) (
  .seq (
  .region [⟨(some 11), (.mv (.t 0)), none, [], false⟩, ⟨(some 4), (.mv (.t 11)), none, [], false⟩]) .ret)))⟩
theorem c39 : compFunc Tryz.prog GL [] Tryz.f39 = some l39 := by kernel_rfl
def l40 : LFunc := ⟨14, [(.tmp 5)],
  (
  .seq (
  .region [⟨(some 5), (.mv (.c (.bool false))), none, [], false⟩]) (
  .seq (
  .region [⟨(some 6), (.load none (.t 1)), none, [], true⟩, ⟨(some 7), (.load none (.t 2)), none, [], true⟩, ⟨(some 8), (.load none (.t 3)), none, [], true⟩, ⟨(some 9), (.bin .add (.t 8) (.c (.int .i64 1))), none, [], true⟩, ⟨(some 11), (.mv (.t 0)), none, [], true⟩, ⟨(some 10), (.call (.t 7) [(.t 9)]), none, [(6, (none, (.load none (.t 1))))], true⟩, ⟨(some 12), (.build [(.int .i64 0), (.bool false)] [(0, (1, (.t 10))), (1, (1, (.t 11)))]), none, [], true⟩, ⟨(some 13), (.call (.c (.fn (.func 41) [] [])) [(.t 6), (.t 12)]), none, [], true⟩, ⟨(some 5), (.mv (.t 13)), none, [], true⟩]) .ret))⟩
theorem c40 : compFunc Tryz.prog GL [] Tryz.f40 = some l40 := by kernel_rfl
def l41 : LFunc := ⟨9, [(.tmp 4)],
  (
  .seq (
  .region [⟨(some 3), (.box true (.t 1)), none, [], false⟩, ⟨(some 4), (.mv (.c (.bool false))), none, [], false⟩]) (
  .seq (
  .region [⟨(some 5), (.mv (.t 0)), none, [], false⟩, ⟨(some 6), (.load (some 2) (.t 3)), none, [], false⟩, ⟨(some 7), (.call (.c (.fn (.func 77) [] [])) [(.t 5), (.t 6)]), none, [], false⟩, ⟨(some 8), (.bin .geq (.t 7) (.c (.int .i64 0))), none, [], false⟩, ⟨(some 4), (.mv (.t 8)), none, [], false⟩]) .ret))⟩
theorem c41 : compFunc Tryz.prog GL [] Tryz.f41 = some l41 := by kernel_rfl
def l42 : LFunc := ⟨37, [(.tmp 4)],
  (
  .seq (
  .region [⟨(some 3), (.box true (.t 1)), none, [], false⟩, ⟨(some 4), (.mv (.c (.bool false))), none, [], false⟩]) (
  .seq (
  .seq (
  .region [⟨(some 5), (.mv (.c (.int .i64 0))), none, [], false⟩]) (.block 0 (.loop (
  .seq (
  .seq (
  .region [⟨(some 7), (.mv (.t 5)), none, [], false⟩, ⟨(some 8), (.faddr 0 (.t 3)), none, [], false⟩, ⟨(some 9), (.load none (.t 8)), none, [], false⟩, ⟨(some 10), (.lenSl (.t 9)), none, [], false⟩, ⟨(some 11), (.bin .lss (.t 7) (.t 10)), none, [], false⟩]) (.cond (.t 11) .skip (.exit 0))) (
  .seq (.block 1 (
  .seq (
  .region [⟨(some 14), (.faddr 0 (.t 3)), none, [], false⟩, ⟨(some 15), (.load none (.t 14)), none, [], false⟩, ⟨(some 16), (.mv (.t 5)), none, [], false⟩, ⟨(some 17), (.iaddr 1 (.t 15) (.t 16)), none, [], false⟩, ⟨(some 18), (.load none (.t 17)), none, [], false⟩, ⟨(some 19), (.mv (.t 0)), none, [], false⟩, ⟨(some 20), (.bin .geq (.t 18) (.t 19)), none, [], false⟩]) (.cond (.t 20) (
  .seq (
  .region [⟨(some 4), (.mv (.c (.bool false))), none, [], false⟩]) .ret) .skip))) (
  .region [⟨(some 12), (.mv (.t 5)), none, [], false⟩, ⟨(some 13), (.bin .add (.t 12) (.c (.int .i64 1))), none, [], false⟩, ⟨(some 5), (.mv (.t 13)), none, [], false⟩])))))) (
  .seq (
  .seq (
  .region [⟨(some 6), (.mv (.c (.int .i64 0))), none, [], false⟩]) (.block 2 (.loop (
  .seq (
  .seq (
  .region [⟨(some 21), (.mv (.t 6)), none, [], false⟩, ⟨(some 22), (.faddr 1 (.t 3)), none, [], false⟩, ⟨(some 23), (.load none (.t 22)), none, [], false⟩, ⟨(some 24), (.lenSl (.t 23)), none, [], false⟩, ⟨(some 25), (.bin .lss (.t 21) (.t 24)), none, [], false⟩]) (.cond (.t 25) .skip (.exit 2))) (
  .seq (.block 3 (
  .seq (
  .region [⟨(some 28), (.faddr 1 (.t 3)), none, [], false⟩, ⟨(some 29), (.load none (.t 28)), none, [], false⟩, ⟨(some 30), (.mv (.t 6)), none, [], false⟩, ⟨(some 31), (.iaddr 1 (.t 29) (.t 30)), none, [], false⟩, ⟨(some 32), (.load none (.t 31)), none, [], false⟩, ⟨(some 33), (.mv (.t 0)), none, [], false⟩, ⟨(some 34), (.bin .geq (.t 32) (.t 33)), none, [], false⟩]) (.cond (.t 34) (
  .seq (
  .region [⟨(some 4), (.mv (.c (.bool false))), none, [], false⟩]) .ret) .skip))) (
  .region [⟨(some 26), (.mv (.t 6)), none, [], false⟩, ⟨(some 27), (.bin .add (.t 26) (.c (.int .i64 1))), none, [], false⟩, ⟨(some 6), (.mv (.t 27)), none, [], false⟩])))))) (
  .seq (
  .region [⟨(some 35), (.load (some 2) (.t 3)), none, [], false⟩, ⟨(some 36), (.call (.c (.fn (.func 78) [] [])) [(.t 35)]), none, [], false⟩, ⟨(some 4), (.mv (.t 36)), none, [], false⟩]) .ret))))⟩
theorem c42 : compFunc Tryz.prog GL [] Tryz.f42 = some l42 := by kernel_rfl
def l44 : LFunc := ⟨26, [(.tmp 4)],
  (
  .seq (
  .region [⟨(some 2), (.box true (.t 0)), none, [], false⟩, ⟨(some 3), (.box true (.t 1)), none, [], false⟩, ⟨(some 4), (.mv (.c (.bool false))), none, [], false⟩]) (
  .seq (
  .region [⟨(some 5), (.faddr 0 (.t 2)), none, [], false⟩, ⟨(some 6), (.load none (.t 5)), none, [], false⟩, ⟨(some 7), (.faddr 0 (.t 3)), none, [], false⟩, ⟨(some 8), (.load none (.t 7)), none, [], false⟩, ⟨(some 9), (.bin .lss (.t 6) (.t 8)), none, [], false⟩, ⟨(some 10), (.mv (.t 9)), none, [], false⟩, ⟨(some 11), (.faddr 0 (.t 2)), (some (10, false)), [], false⟩, ⟨(some 12), (.load none (.t 11)), (some (10, false)), [], false⟩, ⟨(some 13), (.faddr 0 (.t 3)), (some (10, false)), [], false⟩, ⟨(some 14), (.load none (.t 13)), (some (10, false)), [], false⟩, ⟨(some 15), (.bin .eql (.t 12) (.t 14)), (some (10, false)), [], false⟩, ⟨(some 16), (.mv (.t 15)), (some (10, false)), [], false⟩, ⟨(some 17), (.faddr 1 (.t 2)), (some (16, true)), [], false⟩, ⟨(some 18), (.load none (.t 17)), (some (16, true)), [], false⟩, ⟨(some 19), (.un .not (.t 18)), (some (16, true)), [], false⟩, ⟨(some 20), (.pick (.t 16) (.t 19) (.c (.bool false))), (some (10, false)), [], false⟩, ⟨(some 21), (.mv (.t 20)), (some (10, false)), [], false⟩, ⟨(some 22), (.faddr 1 (.t 3)), (some (21, true)), [], false⟩, ⟨(some 23), (.load none (.t 22)), (some (21, true)), [], false⟩, ⟨(some 24), (.pick (.t 21) (.t 23) (.c (.bool false))), (some (10, false)), [], false⟩, ⟨(some 25), (.pick (.t 10) (.c (.bool true)) (.t 24)), none, [], false⟩, ⟨(some 4), (.mv (.t 25)), none, [], false⟩]) .ret))⟩
theorem c44 : compFunc Tryz.prog GL [] Tryz.f44 = some l44 := by kernel_rfl
def l45 : LFunc := ⟨27, [(.tmp 2)],
  (
  .seq (
  .region [⟨(some 1), (.box true (.t 0)), none, [], false⟩, ⟨(some 2), (.mv (.c (.bool false))), none, [], false⟩]) (
  .seq (
  .seq (
  .region [⟨(some 3), (.faddr 0 (.t 1)), none, [], false⟩, ⟨(some 4), (.load none (.t 3)), none, [], false⟩, ⟨(some 5), (.lenSl (.t 4)), none, [], false⟩, ⟨(some 6), (.bin .gtr (.t 5) (.c (.int .i64 60))), none, [], false⟩, ⟨(some 7), (.mv (.t 6)), none, [], false⟩, ⟨(some 8), (.faddr 1 (.t 1)), (some (7, false)), [], false⟩, ⟨(some 9), (.load none (.t 8)), (some (7, false)), [], false⟩, ⟨(some 10), (.lenSl (.t 9)), (some (7, false)), [], false⟩, ⟨(some 11), (.bin .lss (.t 10) (.c (.int .i64 1))), (some (7, false)), [], false⟩, ⟨(some 12), (.pick (.t 7) (.c (.bool true)) (.t 11)), none, [], false⟩, ⟨(some 13), (.mv (.t 12)), none, [], false⟩, ⟨(some 14), (.faddr 1 (.t 1)), (some (13, false)), [], false⟩, ⟨(some 15), (.load none (.t 14)), (some (13, false)), [], false⟩, ⟨(some 16), (.lenSl (.t 15)), (some (13, false)), [], false⟩, ⟨(some 17), (.bin .gtr (.t 16) (.c (.int .i64 40))), (some (13, false)), [], false⟩, ⟨(some 18), (.pick (.t 13) (.c (.bool true)) (.t 17)), none, [], false⟩]) (.cond (.t 18) (
  .seq (
  .region [⟨(some 2), (.mv (.c (.bool false))), none, [], false⟩]) .ret) .skip)) (
  .seq (
  .region [⟨(some 19), (.faddr 0 (.t 1)), none, [], false⟩, ⟨(some 20), (.load none (.t 19)), none, [], false⟩, ⟨(some 21), (.call (.c (.fn (.func 67) [] [])) [(.t 20), (.c (.int .i64 64))]), none, [], false⟩, ⟨(some 22), (.mv (.t 21)), none, [], false⟩, ⟨(some 23), (.faddr 1 (.t 1)), (some (22, true)), [], false⟩, ⟨(some 24), (.load none (.t 23)), (some (22, true)), [], false⟩, ⟨(some 25), (.call (.c (.fn (.func 67) [] [])) [(.t 24), (.c (.int .i64 64))]), (some (22, true)), [], false⟩, ⟨(some 26), (.pick (.t 22) (.t 25) (.c (.bool false))), none, [], false⟩, ⟨(some 2), (.mv (.t 26)), none, [], false⟩]) .ret)))⟩
theorem c45 : compFunc Tryz.prog GL [] Tryz.f45 = some l45 := by kernel_rfl
def l46 : LFunc := ⟨55, [(.cell 2 (some 2))],
  (
  .seq (
  .region [⟨(some 1), (.box true (.t 0)), none, [], false⟩, ⟨(some 2), (.alloc [.nils, .nils]), none, [], false⟩]) (
  .seq (
  .region [⟨(some 7), (.faddr 1 (.t 1)), none, [], true⟩, ⟨(some 8), (.load none (.t 7)), none, [], true⟩, ⟨(some 9), (.faddr 1 (.t 1)), none, [], true⟩, ⟨(some 10), (.load none (.t 9)), none, [], true⟩, ⟨(some 11), (.call (.c (.fn (.func 79) [] [])) [(.t 10)]), none, [(8, (none, (.load none (.t 7))))], true⟩, ⟨(some 12), (.slice 1 (.t 8) none (some (.t 11))), none, [], true⟩, ⟨(some 3), (.mv (.t 12)), none, [], true⟩]) (
  .seq (
  .region [⟨(some 13), (.mv (.t 3)), none, [], false⟩, ⟨(some 14), (.lenSl (.t 13)), none, [], false⟩, ⟨(some 4), (.mv (.t 14)), none, [], false⟩]) (
  .seq (
  .region [⟨(some 15), (.faddr 0 (.t 1)), none, [], false⟩, ⟨(some 16), (.load none (.t 15)), none, [], false⟩, ⟨(some 17), (.lenSl (.t 16)), none, [], false⟩, ⟨(some 5), (.mv (.t 17)), none, [], false⟩, ⟨(some 6), (.mv (.c (.int .i64 0))), none, [], false⟩]) (
  .seq (.block 0 (.loop (
  .seq (
  .seq (
  .region [⟨(some 18), (.mv (.t 5)), none, [], true⟩, ⟨(some 19), (.bin .gtr (.t 18) (.c (.int .i64 0))), none, [], true⟩, ⟨(some 20), (.mv (.t 19)), none, [], true⟩, ⟨(some 21), (.faddr 0 (.t 1)), (some (20, true)), [], true⟩, ⟨(some 22), (.load none (.t 21)), (some (20, true)), [], true⟩, ⟨(some 23), (.mv (.t 5)), (some (20, true)), [], true⟩, ⟨(some 24), (.bin .sub (.t 23) (.c (.int .i64 1))), (some (20, true)), [], true⟩, ⟨(some 25), (.iaddr 1 (.t 22) (.t 24)), (some (20, true)), [], true⟩, ⟨(some 26), (.load none (.t 25)), (some (20, true)), [], true⟩, ⟨(some 27), (.mv (.t 3)), (some (20, true)), [], true⟩, ⟨(some 28), (.mv (.t 4)), (some (20, true)), [], true⟩, ⟨(some 29), (.bin .sub (.t 28) (.c (.int .i64 1))), (some (20, true)), [], true⟩, ⟨(some 30), (.mv (.t 6)), (some (20, true)), [], true⟩, ⟨(some 31), (.bin .sub (.t 29) (.t 30)), (some (20, true)), [], true⟩, ⟨(some 32), (.iaddr 1 (.t 27) (.t 31)), (some (20, true)), [], true⟩, ⟨(some 33), (.load none (.t 32)), (some (20, true)), [], true⟩, ⟨(some 34), (.bin .eql (.t 26) (.t 33)), (some (20, true)), [], true⟩, ⟨(some 35), (.pick (.t 20) (.t 34) (.c (.bool false))), none, [], true⟩]) (.cond (.t 35) .skip (.exit 0))) (.block 1 (
  .seq (
  .region [⟨(some 36), (.mv (.t 5)), none, [], false⟩, ⟨(some 37), (.bin .sub (.t 36) (.c (.int .i64 1))), none, [], false⟩, ⟨(some 5), (.mv (.t 37)), none, [], false⟩]) (
  .region [⟨(some 38), (.mv (.t 6)), none, [], false⟩, ⟨(some 39), (.bin .add (.t 38) (.c (.int .i64 1))), none, [], false⟩, ⟨(some 40), (.mv (.t 4)), none, [], false⟩, ⟨(some 41), (.bin .rem (.t 39) (.t 40)), none, [], false⟩, ⟨(some 6), (.mv (.t 41)), none, [], false⟩])))))) (
  .seq (
  .region [⟨(some 42), (.faddr 0 (.t 1)), none, [], true⟩, ⟨(some 43), (.load none (.t 42)), none, [], true⟩, ⟨(some 44), (.mv (.t 5)), none, [], true⟩, ⟨(some 45), (.slice 1 (.t 43) none (some (.t 44))), none, [], true⟩, ⟨(some 47), (.mv (.t 3)), none, [], true⟩, ⟨(some 48), (.mv (.t 4)), none, [], true⟩, ⟨(some 49), (.mv (.t 6)), none, [], true⟩, ⟨(some 50), (.bin .sub (.t 48) (.t 49)), none, [], true⟩, ⟨(some 51), (.mv (.t 4)), none, [], true⟩, ⟨(some 52), (.bin .rem (.t 50) (.t 51)), none, [], true⟩, ⟨(some 46), (.call (.c (.fn (.func 80) [] [])) [(.t 45)]), none, [], true⟩, ⟨(some 53), (.call (.c (.fn (.func 81) [] [])) [(.t 47), (.t 52)]), none, [], true⟩, ⟨(some 54), (.build [.nils, .nils] [(0, (1, (.t 46))), (1, (1, (.t 53)))]), none, [], true⟩, ⟨none, (.store 2 (.t 2) (.t 54)), none, [], true⟩]) .ret))))))⟩
theorem c46 : compFunc Tryz.prog GL [] Tryz.f46 = some l46 := by kernel_rfl
def l47 : LFunc := ⟨26, [(.tmp 4)],
  (
  .seq (
  .region [⟨(some 4), (.mv (.c (.bool false))), none, [], false⟩]) (
  .seq (
  .seq (
  .region [⟨(some 6), (.mv (.t 0)), none, [], false⟩, ⟨(some 7), (.lenSl (.t 6)), none, [], false⟩, ⟨(some 8), (.mv (.t 1)), none, [], false⟩, ⟨(some 9), (.lenSl (.t 8)), none, [], false⟩, ⟨(some 10), (.bin .neq (.t 7) (.t 9)), none, [], false⟩]) (.cond (.t 10) (
  .seq (
  .region [⟨(some 4), (.mv (.c (.bool false))), none, [], false⟩]) .ret) .skip)) (
  .seq (
  .seq (
  .region [⟨(some 11), (.mv (.t 0)), none, [], false⟩, ⟨(some 12), (.lenSl (.t 11)), none, [], false⟩, ⟨(some 13), (.mv (.c (.int .i64 0))), none, [], false⟩]) (.block 0 (.loop (
  .seq (
  .region [⟨(some 14), (.bin .lss (.t 13) (.t 12)), none, [], false⟩]) (
  .seq (.cond (.t 14) .skip (.exit 0)) (
  .seq (.block 1 (
  .seq (
  .region [⟨(some 15), (.mv (.t 13)), none, [], false⟩, ⟨(some 5), (.mv (.t 15)), none, [], false⟩]) (
  .seq (
  .region [⟨(some 16), (.mv (.t 0)), none, [], true⟩, ⟨(some 17), (.mv (.t 5)), none, [], true⟩, ⟨(some 18), (.iaddr 1 (.t 16) (.t 17)), none, [], true⟩, ⟨(some 19), (.load none (.t 18)), none, [], true⟩, ⟨(some 20), (.mv (.t 1)), none, [], true⟩, ⟨(some 21), (.mv (.t 5)), none, [], true⟩, ⟨(some 22), (.iaddr 1 (.t 20) (.t 21)), none, [], true⟩, ⟨(some 23), (.load none (.t 22)), none, [], true⟩, ⟨(some 24), (.bin .neq (.t 19) (.t 23)), none, [], true⟩]) (.cond (.t 24) (
  .seq (
  .region [⟨(some 4), (.mv (.c (.bool false))), none, [], false⟩]) .ret) .skip)))) (
  .region [⟨(some 25), (.bin .add (.t 13) (.c (.int .i64 1))), none, [], false⟩, ⟨(some 13), (.mv (.t 25)), none, [], false⟩]))))))) (
  .seq (
  .region [⟨(some 4), (.mv (.c (.bool true))), none, [], false⟩]) .ret))))⟩
theorem c47 : compFunc Tryz.prog GL [] Tryz.f47 = some l47 := by kernel_rfl
def l48 : LFunc := ⟨26, [(.tmp 4)],
  (
  .seq (
  .region [⟨(some 4), (.mv (.c (.bool false))), none, [], false⟩]) (
  .seq (
  .seq (
  .region [⟨(some 6), (.mv (.t 0)), none, [], false⟩, ⟨(some 7), (.lenSl (.t 6)), none, [], false⟩, ⟨(some 8), (.mv (.t 1)), none, [], false⟩, ⟨(some 9), (.lenSl (.t 8)), none, [], false⟩, ⟨(some 10), (.bin .neq (.t 7) (.t 9)), none, [], false⟩]) (.cond (.t 10) (
  .seq (
  .region [⟨(some 4), (.mv (.c (.bool false))), none, [], false⟩]) .ret) .skip)) (
  .seq (
  .seq (
  .region [⟨(some 5), (.mv (.c (.int .i64 0))), none, [], false⟩]) (.block 0 (.loop (
  .seq (
  .seq (
  .region [⟨(some 11), (.mv (.t 5)), none, [], false⟩, ⟨(some 12), (.mv (.t 0)), none, [], false⟩, ⟨(some 13), (.lenSl (.t 12)), none, [], false⟩, ⟨(some 14), (.bin .lss (.t 11) (.t 13)), none, [], false⟩]) (.cond (.t 14) .skip (.exit 0))) (
  .seq (.block 1 (
  .seq (
  .region [⟨(some 17), (.mv (.t 0)), none, [], true⟩, ⟨(some 18), (.mv (.t 5)), none, [], true⟩, ⟨(some 19), (.iaddr 1 (.t 17) (.t 18)), none, [], true⟩, ⟨(some 20), (.load none (.t 19)), none, [], true⟩, ⟨(some 21), (.mv (.t 1)), none, [], true⟩, ⟨(some 22), (.mv (.t 5)), none, [], true⟩, ⟨(some 23), (.iaddr 1 (.t 21) (.t 22)), none, [], true⟩, ⟨(some 24), (.load none (.t 23)), none, [], true⟩, ⟨(some 25), (.bin .neq (.t 20) (.t 24)), none, [], true⟩]) (.cond (.t 25) (
  .seq (
  .region [⟨(some 4), (.mv (.c (.bool false))), none, [], false⟩]) .ret) .skip))) (
  .region [⟨(some 15), (.mv (.t 5)), none, [], false⟩, ⟨(some 16), (.bin .add (.t 15) (.c (.int .i64 1))), none, [], false⟩, ⟨(some 5), (.mv (.t 16)), none, [], false⟩])))))) (
  .seq (
  .region [⟨(some 4), (.mv (.c (.bool true))), none, [], false⟩]) .ret))))⟩
theorem c48 : compFunc Tryz.prog GL [] Tryz.f48 = some l48 := by kernel_rfl
def l67 : LFunc := ⟨21, [(.tmp 4)],
  (
  .seq (
  .region [⟨(some 4), (.mv (.c (.bool false))), none, [], false⟩]) (
  .seq (
  .seq (
  .region [⟨(some 7), (.mv (.t 0)), none, [], false⟩, ⟨(some 8), (.lenSl (.t 7)), none, [], false⟩, ⟨(some 9), (.mv (.c (.int .i64 0))), none, [], false⟩]) (.block 0 (.loop (
  .seq (
  .region [⟨(some 10), (.bin .lss (.t 9) (.t 8)), none, [], false⟩]) (
  .seq (.cond (.t 10) .skip (.exit 0)) (
  .seq (.block 1 (
  .seq (
  .region [⟨(some 11), (.iaddr 1 (.t 7) (.t 9)), none, [], false⟩, ⟨(some 12), (.load none (.t 11)), none, [], false⟩, ⟨(some 6), (.mv (.t 12)), none, [], false⟩]) (
  .seq (
  .region [⟨(some 13), (.mv (.t 6)), none, [], false⟩, ⟨(some 14), (.bin .lss (.t 13) (.c (.int .i64 0))), none, [], false⟩, ⟨(some 15), (.mv (.t 14)), none, [], false⟩, ⟨(some 16), (.mv (.t 6)), (some (15, false)), [], false⟩, ⟨(some 17), (.mv (.t 1)), (some (15, false)), [], false⟩, ⟨(some 18), (.bin .geq (.t 16) (.t 17)), (some (15, false)), [], false⟩, ⟨(some 19), (.pick (.t 15) (.c (.bool true)) (.t 18)), none, [], false⟩]) (.cond (.t 19) (
  .seq (
  .region [⟨(some 4), (.mv (.c (.bool false))), none, [], false⟩]) .ret) .skip)))) (
  .region [⟨(some 20), (.bin .add (.t 9) (.c (.int .i64 1))), none, [], false⟩, ⟨(some 9), (.mv (.t 20)), none, [], false⟩]))))))) (
  .seq (
  .region [⟨(some 4), (.mv (.c (.bool true))), none, [], false⟩]) .ret)))⟩
theorem c67 : compFunc Tryz.prog GL [] Tryz.f67 = some l67 := by kernel_rfl
def l68 : LFunc := ⟨13, [(.tmp 3)],
  (
  .seq (
  .region [⟨(some 3), (.mv (.c (.bool false))), none, [], false⟩]) (
  .seq (
  .region [⟨(some 4), (.mv (.t 0)), none, [], false⟩, ⟨(some 5), (.bin .geq (.t 4) (.c (.int .i64 0))), none, [], false⟩, ⟨(some 6), (.mv (.t 5)), none, [], false⟩, ⟨(some 7), (.mv (.t 0)), (some (6, true)), [], false⟩, ⟨(some 8), (.faddr 2 (.t 1)), (some (6, true)), [], false⟩, ⟨(some 9), (.load none (.t 8)), (some (6, true)), [], false⟩, ⟨(some 10), (.lenSl (.t 9)), (some (6, true)), [], false⟩, ⟨(some 11), (.bin .lss (.t 7) (.t 10)), (some (6, true)), [], false⟩, ⟨(some 12), (.pick (.t 6) (.t 11) (.c (.bool false))), none, [], false⟩, ⟨(some 3), (.mv (.t 12)), none, [], false⟩]) .ret))⟩
theorem c68 : compFunc Tryz.prog GL [] Tryz.f68 = some l68 := by kernel_rfl
def l69 : LFunc := ⟨23, [(.tmp 4)],
  (
  .seq (
  .region [⟨(some 2), (.box true (.t 0)), none, [], false⟩, ⟨(some 3), (.box true (.t 1)), none, [], false⟩, ⟨(some 4), (.mv (.c (.int .i64 0))), none, [], false⟩]) (
  .seq (
  .seq (
  .region [⟨(some 6), (.faddr 0 (.t 2)), none, [], false⟩, ⟨(some 7), (.load none (.t 6)), none, [], false⟩, ⟨(some 8), (.faddr 0 (.t 3)), none, [], false⟩, ⟨(some 9), (.load none (.t 8)), none, [], false⟩, ⟨(some 10), (.call (.c (.fn (.func 105) [] [])) [(.t 7), (.t 9)]), none, [], false⟩, ⟨(some 5), (.mv (.t 10)), none, [], false⟩]) (
  .seq (
  .region [⟨(some 11), (.mv (.t 5)), none, [], false⟩, ⟨(some 12), (.bin .neq (.t 11) (.c (.int .i64 0))), none, [], false⟩, ⟨(some 13), (.mv (.t 12)), none, [], false⟩, ⟨(some 14), (.faddr 1 (.t 2)), (some (13, false)), [], false⟩, ⟨(some 15), (.load none (.t 14)), (some (13, false)), [], false⟩, ⟨(some 16), (.faddr 1 (.t 3)), (some (13, false)), [], false⟩, ⟨(some 17), (.load none (.t 16)), (some (13, false)), [], false⟩, ⟨(some 18), (.eq false .bool (.t 15) (.t 17)), (some (13, false)), [], false⟩, ⟨(some 19), (.pick (.t 13) (.c (.bool true)) (.t 18)), none, [], false⟩]) (.cond (.t 19) (
  .seq (
  .region [⟨(some 20), (.mv (.t 5)), none, [], false⟩, ⟨(some 4), (.mv (.t 20)), none, [], false⟩]) .ret) .skip))) (
  .seq (
  .seq (
  .region [⟨(some 21), (.faddr 1 (.t 3)), none, [], false⟩, ⟨(some 22), (.load none (.t 21)), none, [], false⟩]) (.cond (.t 22) (
  .seq (
  .region [⟨(some 4), (.mv (.c (.int .i64 (-1)))), none, [], false⟩]) .ret) .skip)) (
  .seq (
  .region [⟨(some 4), (.mv (.c (.int .i64 1))), none, [], false⟩]) .ret))))⟩
theorem c69 : compFunc Tryz.prog GL [] Tryz.f69 = some l69 := by kernel_rfl
def l70 : LFunc := ⟨9, [(.cell 2 (some 2))],
  (
  .seq (
  .region [⟨(some 1), (.box true (.t 0)), none, [], false⟩, ⟨(some 2), (.alloc [.nils, .nils]), none, [], false⟩]) (
  .seq (
  .seq (
  .region [⟨(some 3), (.load (some 2) (.t 1)), none, [], false⟩, ⟨(some 4), (.call (.c (.fn (.func 45) [] [])) [(.t 3)]), none, [], false⟩, ⟨(some 5), (.un .not (.t 4)), none, [], false⟩]) (.cond (.t 5) (
  .seq (
  .region [⟨(some 6), (.build [.nils, .nils] []), none, [], false⟩, ⟨none, (.store 2 (.t 2) (.t 6)), none, [], false⟩]) .ret) .skip)) (
  .seq (
  .region [⟨(some 7), (.load (some 2) (.t 1)), none, [], false⟩, ⟨(some 8), (.call (.c (.fn (.func 46) [] [])) [(.t 7)]), none, [], false⟩, ⟨none, (.store 2 (.t 2) (.t 8)), none, [], false⟩]) .ret)))⟩
theorem c70 : compFunc Tryz.prog GL [] Tryz.f70 = some l70 := by kernel_rfl
def l71 : LFunc := ⟨36, [(.tmp 2)],
  (
  .seq (
  .region [⟨(some 2), (.mv (.c .nils)), none, [], false⟩]) (
  .seq (
  .region [⟨(some 3), (.mv (.c (.int .i64 0))), none, [], false⟩]) (
  .seq (
  .seq (
  .region [⟨(some 9), (.mv (.t 0)), none, [], false⟩, ⟨(some 10), (.lenSl (.t 9)), none, [], false⟩, ⟨(some 11), (.mv (.c (.int .i64 0))), none, [], false⟩]) (.block 0 (.loop (
  .seq (
  .region [⟨(some 12), (.bin .lss (.t 11) (.t 10)), none, [], false⟩]) (
  .seq (.cond (.t 12) .skip (.exit 0)) (
  .seq (.block 1 (
  .seq (
  .region [⟨(some 13), (.iaddr 1 (.t 9) (.t 11)), none, [], false⟩, ⟨(some 14), (.load none (.t 13)), none, [], false⟩, ⟨(some 5), (.mv (.t 14)), none, [], false⟩]) (
  .seq (
  .region [⟨(some 15), (.mv (.t 3)), none, [], false⟩, ⟨(some 16), (.mv (.t 5)), none, [], false⟩, ⟨(some 17), (.lenSl (.t 16)), none, [], false⟩, ⟨(some 18), (.bin .add (.t 15) (.t 17)), none, [], false⟩, ⟨(some 3), (.mv (.t 18)), none, [], false⟩]) (
  .seq (
  .region [⟨(some 19), (.mv (.t 3)), none, [], false⟩, ⟨(some 20), (.bin .lss (.t 19) (.c (.int .i64 0))), none, [], false⟩]) (.cond (.t 20) .bad .skip))))) (
  .region [⟨(some 22), (.bin .add (.t 11) (.c (.int .i64 1))), none, [], false⟩, ⟨(some 11), (.mv (.t 22)), none, [], false⟩]))))))) (
  .seq (
  .region [⟨(some 23), (.mv (.t 3)), none, [], false⟩, ⟨(some 24), (.call (.c (.fn (.func 106) [] [])) [(.c .nils), (.t 23)]), none, [], false⟩, ⟨(some 6), (.mv (.t 24)), none, [], false⟩]) (
  .seq (
  .seq (
  .region [⟨(some 25), (.mv (.t 0)), none, [], false⟩, ⟨(some 26), (.lenSl (.t 25)), none, [], false⟩, ⟨(some 27), (.mv (.c (.int .i64 0))), none, [], false⟩]) (.block 2 (.loop (
  .seq (
  .region [⟨(some 28), (.bin .lss (.t 27) (.t 26)), none, [], false⟩]) (
  .seq (.cond (.t 28) .skip (.exit 2)) (
  .seq (.block 3 (
  .seq (
  .region [⟨(some 29), (.iaddr 1 (.t 25) (.t 27)), none, [], false⟩, ⟨(some 30), (.load none (.t 29)), none, [], false⟩, ⟨(some 8), (.mv (.t 30)), none, [], false⟩]) (
  .region [⟨(some 31), (.mv (.t 6)), none, [], false⟩, ⟨(some 32), (.mv (.t 8)), none, [], false⟩, ⟨(some 33), (.append 1 8 (.t 31) (.t 32)), none, [], false⟩, ⟨(some 6), (.mv (.t 33)), none, [], false⟩]))) (
  .region [⟨(some 34), (.bin .add (.t 27) (.c (.int .i64 1))), none, [], false⟩, ⟨(some 27), (.mv (.t 34)), none, [], false⟩]))))))) (
  .seq (
  .region [⟨(some 35), (.mv (.t 6)), none, [], false⟩, ⟨(some 2), (.mv (.t 35)), none, [], false⟩]) .ret))))))⟩
theorem c71 : compFunc Tryz.prog GL [] Tryz.f71 = some l71 := by kernel_rfl
def l72 : LFunc := ⟨34, [],
  (
  .seq (
  .region [⟨(some 3), (.box true (.t 0)), none, [], false⟩]) (
  .seq (
  .region [⟨(some 8), (.faddr 0 (.t 2)), none, [], false⟩, ⟨(some 9), (.load none (.t 8)), none, [], false⟩, ⟨(some 10), (.load (some 2) (.t 3)), none, [], false⟩, ⟨(some 11), (.mlook (.st [(0, (1, .int)), (1, (1, .int))]) (.int .i64 0) true (.t 9) (.t 10)), none, [], false⟩, ⟨(some 7), (.mv (.t 11)), none, [], false⟩, ⟨(some 12), (.ext (.t 7) 0), none, [], false⟩, ⟨(some 13), (.ext (.t 7) 1), none, [], false⟩, ⟨(some 5), (.mv (.t 12)), none, [], false⟩, ⟨(some 6), (.mv (.t 13)), none, [], false⟩]) (
  .seq (
  .region [⟨(some 14), (.mv (.t 6)), none, [], false⟩, ⟨(some 15), (.un .not (.t 14)), none, [], false⟩]) (.cond (.t 15) (
  .seq (
  .region [⟨(some 16), (.faddr 0 (.t 2)), none, [], false⟩, ⟨(some 17), (.load none (.t 16)), none, [], false⟩, ⟨(some 18), (.load (some 2) (.t 3)), none, [], false⟩, ⟨(some 19), (.faddr 1 (.t 2)), none, [], false⟩, ⟨(some 20), (.load none (.t 19)), none, [], false⟩, ⟨(some 21), (.lenSl (.t 20)), none, [], false⟩, ⟨none, (.mupd (.st [(0, (1, .int)), (1, (1, .int))]) (.t 17) (.t 18) (.t 21)), none, [], false⟩]) (
  .seq (
  .region [⟨(some 22), (.faddr 1 (.t 2)), none, [], false⟩, ⟨(some 23), (.load none (.t 22)), none, [], false⟩, ⟨(some 24), (.load (some 2) (.t 3)), none, [], false⟩, ⟨(some 25), (.bslice 2 1 [(.int .i64 0), (.int .i64 0)] [(0, (2, (.t 24)))]), none, [], false⟩, ⟨(some 26), (.append 2 16 (.t 23) (.t 25)), none, [], false⟩, ⟨(some 27), (.faddr 1 (.t 2)), none, [], false⟩, ⟨none, (.store 1 (.t 27) (.t 26)), none, [], false⟩]) (
  .region [⟨(some 28), (.faddr 2 (.t 2)), none, [], false⟩, ⟨(some 29), (.load none (.t 28)), none, [], false⟩, ⟨(some 30), (.mv (.t 1)), none, [], false⟩, ⟨(some 31), (.bslice 1 1 [(.int .i64 0)] [(0, (1, (.t 30)))]), none, [], false⟩, ⟨(some 32), (.append 1 8 (.t 29) (.t 31)), none, [], false⟩, ⟨(some 33), (.faddr 2 (.t 2)), none, [], false⟩, ⟨none, (.store 1 (.t 33) (.t 32)), none, [], false⟩]))) .skip))))⟩
theorem c72 : compFunc Tryz.prog GL [] Tryz.f72 = some l72 := by kernel_rfl
def l73 : LFunc := ⟨20, [(.tmp 4)],
  (
  .seq (
  .region [⟨(some 2), (.box true (.t 0)), none, [], false⟩, ⟨(some 3), (.box true (.t 1)), none, [], false⟩, ⟨(some 4), (.mv (.c .nils)), none, [], false⟩]) (
  .seq (
  .region [⟨(some 5), (.faddr 0 (.t 2)), none, [], true⟩, ⟨(some 6), (.faddr 2 (.t 5)), none, [], true⟩, ⟨(some 7), (.load none (.t 6)), none, [], true⟩, ⟨(some 8), (.faddr 1 (.t 3)), none, [], true⟩, ⟨(some 9), (.load none (.t 8)), none, [], true⟩, ⟨(some 10), (.iaddr 1 (.t 7) (.t 9)), none, [], true⟩, ⟨(some 11), (.load none (.t 10)), none, [], true⟩, ⟨(some 12), (.faddr 3 (.t 2)), none, [], true⟩, ⟨(some 13), (.load none (.t 12)), none, [], true⟩, ⟨(some 14), (.faddr 0 (.t 3)), none, [], true⟩, ⟨(some 15), (.load none (.t 14)), none, [], true⟩, ⟨(some 16), (.iaddr 1 (.t 13) (.t 15)), none, [], true⟩, ⟨(some 17), (.load none (.t 16)), none, [], true⟩, ⟨(some 18), (.iaddr 1 (.t 11) (.t 17)), none, [], true⟩, ⟨(some 19), (.load none (.t 18)), none, [], true⟩, ⟨(some 4), (.mv (.t 19)), none, [], true⟩]) .ret))⟩
theorem c73 : compFunc Tryz.prog GL [] Tryz.f73 = some l73 := by kernel_rfl
def l74 : LFunc := ⟨22, [(.cell 6 (some 2))],
  (
  .seq (
  .region [⟨(some 3), (.box true (.t 0)), none, [], false⟩, ⟨(some 4), (.box true (.t 1)), none, [], false⟩, ⟨(some 5), (.box true (.t 2)), none, [], false⟩, ⟨(some 6), (.alloc [(.int .i64 0), (.int .i64 0)]), none, [], false⟩]) (
  .seq (
  .region [⟨(some 8), (.faddr 0 (.t 4)), none, [], false⟩, ⟨(some 9), (.load none (.t 8)), none, [], false⟩, ⟨(some 10), (.bin .add (.t 9) (.c (.int .i64 1))), none, [], false⟩, ⟨(some 7), (.mv (.t 10)), none, [], false⟩]) (
  .seq (
  .seq (
  .region [⟨(some 11), (.mv (.t 7)), none, [], false⟩, ⟨(some 12), (.faddr 3 (.t 3)), none, [], false⟩, ⟨(some 13), (.load none (.t 12)), none, [], false⟩, ⟨(some 14), (.lenSl (.t 13)), none, [], false⟩, ⟨(some 15), (.bin .eql (.t 11) (.t 14)), none, [], false⟩]) (.cond (.t 15) (
  .region [⟨(some 16), (.faddr 4 (.t 3)), none, [], false⟩, ⟨(some 17), (.load none (.t 16)), none, [], false⟩, ⟨(some 7), (.mv (.t 17)), none, [], false⟩]) .skip)) (
  .seq (
  .region [⟨(some 18), (.mv (.t 7)), none, [], false⟩, ⟨(some 19), (.faddr 0 (.t 5)), none, [], false⟩, ⟨(some 20), (.load none (.t 19)), none, [], false⟩, ⟨(some 21), (.build [(.int .i64 0), (.int .i64 0)] [(0, (1, (.t 18))), (1, (1, (.t 20)))]), none, [], false⟩, ⟨none, (.store 2 (.t 6) (.t 21)), none, [], false⟩]) .ret))))⟩
theorem c74 : compFunc Tryz.prog GL [] Tryz.f74 = some l74 := by kernel_rfl
def l75 : LFunc := ⟨157, [(.tmp 2)],
  (
  .seq (
  .region [⟨(some 2), (.mv (.c .nils)), none, [], false⟩]) (
  .seq (
  .region [⟨(some 14), (.mv (.t 0)), none, [], false⟩, ⟨(some 15), (.lenSl (.t 14)), none, [], false⟩, ⟨(some 16), (.mkslice 1 8 [(.int .i64 0)] (.t 15) (.t 15)), none, [], false⟩, ⟨(some 3), (.mv (.t 16)), none, [], false⟩]) (
  .seq (
  .region [⟨(some 17), (.mv (.t 0)), none, [], false⟩, ⟨(some 18), (.lenSl (.t 17)), none, [], false⟩, ⟨(some 19), (.mkslice 1 8 [(.int .i64 0)] (.t 18) (.t 18)), none, [], false⟩, ⟨(some 4), (.mv (.t 19)), none, [], false⟩]) (
  .seq (
  .region [⟨(some 20), (.mv (.t 0)), none, [], false⟩, ⟨(some 21), (.lenSl (.t 20)), none, [], false⟩, ⟨(some 22), (.mkslice 1 8 [(.int .i64 0)] (.t 21) (.t 21)), none, [], false⟩, ⟨(some 5), (.mv (.t 22)), none, [], false⟩]) (
  .seq (
  .region [⟨(some 23), (.mv (.t 0)), none, [], false⟩, ⟨(some 24), (.lenSl (.t 23)), none, [], false⟩, ⟨(some 25), (.mkslice 1 8 [(.int .i64 0)] (.t 24) (.t 24)), none, [], false⟩, ⟨(some 6), (.mv (.t 25)), none, [], false⟩]) (
  .seq (
  .region [⟨(some 7), (.mv (.c .nils)), none, [], false⟩, ⟨(some 8), (.mv (.c .nils)), none, [], false⟩]) (
  .seq (
  .region [⟨(some 9), (.mv (.c (.int .i64 0))), none, [], false⟩]) (
  .seq (
  .seq (
  .region [⟨(some 26), (.mv (.t 0)), none, [], false⟩, ⟨(some 27), (.lenSl (.t 26)), none, [], false⟩, ⟨(some 28), (.mv (.c (.int .i64 0))), none, [], false⟩]) (.block 0 (.loop (
  .seq (
  .region [⟨(some 29), (.bin .lss (.t 28) (.t 27)), none, [], false⟩]) (
  .seq (.cond (.t 29) .skip (.exit 0)) (
  .seq (.block 1 (
  .seq (
  .region [⟨(some 30), (.mv (.t 28)), none, [], false⟩, ⟨(some 10), (.mv (.t 30)), none, [], false⟩]) (.scope (
  .seq (
  .seq (
  .region [⟨(some 31), (.mv (.t 4)), none, [], false⟩, ⟨(some 32), (.mv (.t 10)), none, [], false⟩, ⟨(some 33), (.iaddr 1 (.t 31) (.t 32)), none, [], false⟩, ⟨(some 34), (.load none (.t 33)), none, [], false⟩, ⟨(some 35), (.bin .eql (.t 34) (.c (.int .i64 0))), none, [], false⟩]) (.cond (.t 35) (
  .region [⟨(some 36), (.mv (.t 8)), none, [], false⟩, ⟨(some 37), (.mv (.t 10)), none, [], false⟩, ⟨(some 38), (.bslice 1 1 [(.int .i64 0)] [(0, (1, (.t 37)))]), none, [], false⟩, ⟨(some 39), (.append 1 8 (.t 36) (.t 38)), none, [], false⟩, ⟨(some 8), (.mv (.t 39)), none, [], false⟩]) .skip)) (
  .seq .skip (.block 2 (.loop (
  .seq (
  .seq (
  .region [⟨(some 40), (.mv (.t 8)), none, [], false⟩, ⟨(some 41), (.lenSl (.t 40)), none, [], false⟩, ⟨(some 42), (.bin .gtr (.t 41) (.c (.int .i64 0))), none, [], false⟩]) (.cond (.t 42) .skip (.exit 2))) (.block 3 (
  .seq (
  .region [⟨(some 43), (.mv (.t 8)), none, [], false⟩, ⟨(some 44), (.mv (.t 8)), none, [], false⟩, ⟨(some 45), (.lenSl (.t 44)), none, [], false⟩, ⟨(some 46), (.bin .sub (.t 45) (.c (.int .i64 1))), none, [], false⟩, ⟨(some 47), (.iaddr 1 (.t 43) (.t 46)), none, [], false⟩, ⟨(some 48), (.load none (.t 47)), none, [], false⟩, ⟨(some 11), (.mv (.t 48)), none, [], false⟩]) (
  .seq (
  .seq (
  .region [⟨(some 49), (.mv (.t 4)), none, [], false⟩, ⟨(some 50), (.mv (.t 11)), none, [], false⟩, ⟨(some 51), (.iaddr 1 (.t 49) (.t 50)), none, [], false⟩, ⟨(some 52), (.load none (.t 51)), none, [], false⟩, ⟨(some 53), (.bin .eql (.t 52) (.c (.int .i64 0))), none, [], false⟩]) (.cond (.t 53) (
  .seq (
  .region [⟨(some 54), (.mv (.t 9)), none, [], false⟩, ⟨(some 55), (.bin .add (.t 54) (.c (.int .i64 1))), none, [], false⟩, ⟨(some 9), (.mv (.t 55)), none, [], false⟩]) (
  .seq (
  .region [⟨(some 56), (.mv (.t 4)), none, [], false⟩, ⟨(some 57), (.mv (.t 11)), none, [], false⟩, ⟨(some 58), (.mv (.t 5)), none, [], false⟩, ⟨(some 59), (.mv (.t 11)), none, [], false⟩, ⟨(some 60), (.mv (.t 9)), none, [], false⟩, ⟨(some 61), (.mv (.t 9)), none, [], false⟩, ⟨(some 62), (.iaddr 1 (.t 56) (.t 57)), none, [], false⟩, ⟨none, (.store 1 (.t 62) (.t 60)), none, [], false⟩, ⟨(some 63), (.iaddr 1 (.t 58) (.t 59)), none, [], false⟩, ⟨none, (.store 1 (.t 63) (.t 61)), none, [], false⟩]) (
  .region [⟨(some 64), (.mv (.t 7)), none, [], false⟩, ⟨(some 65), (.mv (.t 11)), none, [], false⟩, ⟨(some 66), (.bslice 1 1 [(.int .i64 0)] [(0, (1, (.t 65)))]), none, [], false⟩, ⟨(some 67), (.append 1 8 (.t 64) (.t 66)), none, [], false⟩, ⟨(some 7), (.mv (.t 67)), none, [], false⟩]))) .skip)) (
  .seq (.block 4 (.loop (
  .seq (
  .seq (
  .region [⟨(some 68), (.mv (.t 6)), none, [], true⟩, ⟨(some 69), (.mv (.t 11)), none, [], true⟩, ⟨(some 70), (.iaddr 1 (.t 68) (.t 69)), none, [], true⟩, ⟨(some 71), (.load none (.t 70)), none, [], true⟩, ⟨(some 72), (.mv (.t 0)), none, [], true⟩, ⟨(some 73), (.mv (.t 11)), none, [], true⟩, ⟨(some 74), (.iaddr 1 (.t 72) (.t 73)), none, [], true⟩, ⟨(some 75), (.load none (.t 74)), none, [], true⟩, ⟨(some 76), (.lenSl (.t 75)), none, [], true⟩, ⟨(some 77), (.bin .lss (.t 71) (.t 76)), none, [], true⟩]) (.cond (.t 77) .skip (.exit 4))) (.block 5 (
  .seq (
  .region [⟨(some 78), (.mv (.t 0)), none, [], true⟩, ⟨(some 79), (.mv (.t 11)), none, [], true⟩, ⟨(some 80), (.iaddr 1 (.t 78) (.t 79)), none, [], true⟩, ⟨(some 81), (.load none (.t 80)), none, [], true⟩, ⟨(some 82), (.mv (.t 6)), none, [], true⟩, ⟨(some 83), (.mv (.t 11)), none, [], true⟩, ⟨(some 84), (.iaddr 1 (.t 82) (.t 83)), none, [], true⟩, ⟨(some 85), (.load none (.t 84)), none, [], true⟩, ⟨(some 86), (.iaddr 1 (.t 81) (.t 85)), none, [], true⟩, ⟨(some 87), (.load none (.t 86)), none, [], true⟩, ⟨(some 12), (.mv (.t 87)), none, [], true⟩]) (
  .seq (
  .seq (
  .region [⟨(some 88), (.mv (.t 4)), none, [], false⟩, ⟨(some 89), (.mv (.t 12)), none, [], false⟩, ⟨(some 90), (.iaddr 1 (.t 88) (.t 89)), none, [], false⟩, ⟨(some 91), (.load none (.t 90)), none, [], false⟩, ⟨(some 92), (.bin .eql (.t 91) (.c (.int .i64 0))), none, [], false⟩]) (.cond (.t 92) (
  .seq (
  .region [⟨(some 93), (.mv (.t 8)), none, [], false⟩, ⟨(some 94), (.mv (.t 12)), none, [], false⟩, ⟨(some 95), (.bslice 1 1 [(.int .i64 0)] [(0, (1, (.t 94)))]), none, [], false⟩, ⟨(some 96), (.append 1 8 (.t 93) (.t 95)), none, [], false⟩, ⟨(some 8), (.mv (.t 96)), none, [], false⟩]) (.exit 3)) .skip)) (
  .seq (
  .seq (
  .region [⟨(some 97), (.mv (.t 3)), none, [], false⟩, ⟨(some 98), (.mv (.t 12)), none, [], false⟩, ⟨(some 99), (.iaddr 1 (.t 97) (.t 98)), none, [], false⟩, ⟨(some 100), (.load none (.t 99)), none, [], false⟩, ⟨(some 101), (.bin .eql (.t 100) (.c (.int .i64 0))), none, [], false⟩]) (.cond (.t 101) (
  .region [⟨(some 102), (.mv (.t 5)), none, [], true⟩, ⟨(some 103), (.mv (.t 11)), none, [], true⟩, ⟨(some 104), (.mv (.t 5)), none, [], true⟩, ⟨(some 105), (.mv (.t 11)), none, [], true⟩, ⟨(some 106), (.iaddr 1 (.t 104) (.t 105)), none, [], true⟩, ⟨(some 107), (.load none (.t 106)), none, [], true⟩, ⟨(some 108), (.mv (.t 5)), none, [], true⟩, ⟨(some 109), (.mv (.t 12)), none, [], true⟩, ⟨(some 110), (.iaddr 1 (.t 108) (.t 109)), none, [], true⟩, ⟨(some 111), (.load none (.t 110)), none, [], true⟩, ⟨(some 112), (.minmax false [(.t 107), (.t 111)]), none, [], true⟩, ⟨(some 113), (.iaddr 1 (.t 102) (.t 103)), none, [], true⟩, ⟨none, (.store 1 (.t 113) (.t 112)), none, [], true⟩]) .skip)) (
  .region [⟨(some 114), (.mv (.t 6)), none, [], false⟩, ⟨(some 115), (.mv (.t 11)), none, [], false⟩, ⟨(some 116), (.iaddr 1 (.t 114) (.t 115)), none, [], false⟩, ⟨(some 117), (.load none (.t 116)), none, [], false⟩, ⟨(some 118), (.bin .add (.t 117) (.c (.int .i64 1))), none, [], false⟩, ⟨(some 119), (.iaddr 1 (.t 114) (.t 115)), none, [], false⟩, ⟨none, (.store 1 (.t 119) (.t 118)), none, [], false⟩])))))))) (
  .seq (
  .region [⟨(some 120), (.mv (.t 8)), none, [], false⟩, ⟨(some 121), (.mv (.t 8)), none, [], false⟩, ⟨(some 122), (.lenSl (.t 121)), none, [], false⟩, ⟨(some 123), (.bin .sub (.t 122) (.c (.int .i64 1))), none, [], false⟩, ⟨(some 124), (.slice 1 (.t 120) none (some (.t 123))), none, [], false⟩, ⟨(some 8), (.mv (.t 124)), none, [], false⟩]) (
  .seq (
  .seq (
  .region [⟨(some 125), (.mv (.t 5)), none, [], true⟩, ⟨(some 126), (.mv (.t 11)), none, [], true⟩, ⟨(some 127), (.iaddr 1 (.t 125) (.t 126)), none, [], true⟩, ⟨(some 128), (.load none (.t 127)), none, [], true⟩, ⟨(some 129), (.mv (.t 4)), none, [], true⟩, ⟨(some 130), (.mv (.t 11)), none, [], true⟩, ⟨(some 131), (.iaddr 1 (.t 129) (.t 130)), none, [], true⟩, ⟨(some 132), (.load none (.t 131)), none, [], true⟩, ⟨(some 133), (.bin .lss (.t 128) (.t 132)), none, [], true⟩]) (.cond (.t 133) (.exit 3) .skip)) (
  .seq (
  .region [⟨(some 13), (.mv (.c (.int .i64 (-1)))), none, [], false⟩]) (.block 6 (.loop (
  .seq (
  .seq (
  .region [⟨(some 134), (.mv (.t 13)), none, [], false⟩, ⟨(some 135), (.mv (.t 11)), none, [], false⟩, ⟨(some 136), (.bin .neq (.t 134) (.t 135)), none, [], false⟩]) (.cond (.t 136) .skip (.exit 6))) (.block 7 (
  .seq (
  .region [⟨(some 137), (.mv (.t 7)), none, [], false⟩, ⟨(some 138), (.mv (.t 7)), none, [], false⟩, ⟨(some 139), (.lenSl (.t 138)), none, [], false⟩, ⟨(some 140), (.bin .sub (.t 139) (.c (.int .i64 1))), none, [], false⟩, ⟨(some 141), (.iaddr 1 (.t 137) (.t 140)), none, [], false⟩, ⟨(some 142), (.load none (.t 141)), none, [], false⟩, ⟨(some 13), (.mv (.t 142)), none, [], false⟩]) (
  .seq (
  .region [⟨(some 143), (.mv (.t 7)), none, [], false⟩, ⟨(some 144), (.mv (.t 7)), none, [], false⟩, ⟨(some 145), (.lenSl (.t 144)), none, [], false⟩, ⟨(some 146), (.bin .sub (.t 145) (.c (.int .i64 1))), none, [], false⟩, ⟨(some 147), (.slice 1 (.t 143) none (some (.t 146))), none, [], false⟩, ⟨(some 7), (.mv (.t 147)), none, [], false⟩]) (
  .region [⟨(some 148), (.mv (.t 3)), none, [], false⟩, ⟨(some 149), (.mv (.t 13)), none, [], false⟩, ⟨(some 150), (.mv (.t 4)), none, [], false⟩, ⟨(some 151), (.mv (.t 11)), none, [], false⟩, ⟨(some 152), (.iaddr 1 (.t 150) (.t 151)), none, [], false⟩, ⟨(some 153), (.load none (.t 152)), none, [], false⟩, ⟨(some 154), (.iaddr 1 (.t 148) (.t 149)), none, [], false⟩, ⟨none, (.store 1 (.t 154) (.t 153)), none, [], false⟩])))))))))))))))))))))) (
  .region [⟨(some 155), (.bin .add (.t 28) (.c (.int .i64 1))), none, [], false⟩, ⟨(some 28), (.mv (.t 155)), none, [], false⟩]))))))) (
  .seq (
  .region [⟨(some 156), (.mv (.t 3)), none, [], false⟩, ⟨(some 2), (.mv (.t 156)), none, [], false⟩]) .ret)))))))))⟩
theorem c75 : compFunc Tryz.prog GL [] Tryz.f75 = some l75 := by kernel_rfl
def l76 : LFunc := ⟨19, [(.tmp 4)],
  (
  .seq (
  .region [⟨(some 4), (.mv (.c (.int .i64 0))), none, [], false⟩]) (
  .seq (
  .seq (
  .region [⟨(some 6), (.mv (.t 0)), none, [], false⟩, ⟨(some 7), (.lenSl (.t 6)), none, [], false⟩, ⟨(some 8), (.mv (.c (.int .i64 0))), none, [], false⟩]) (.block 0 (.loop (
  .seq (
  .region [⟨(some 9), (.bin .lss (.t 8) (.t 7)), none, [], false⟩]) (
  .seq (.cond (.t 9) .skip (.exit 0)) (
  .seq (.block 1 (
  .seq (
  .region [⟨(some 10), (.mv (.t 8)), none, [], false⟩, ⟨(some 5), (.mv (.t 10)), none, [], false⟩]) (
  .seq (
  .region [⟨(some 11), (.mv (.t 1)), none, [], false⟩, ⟨(some 12), (.mv (.t 0)), none, [], false⟩, ⟨(some 13), (.mv (.t 5)), none, [], false⟩, ⟨(some 14), (.iaddr 1 (.t 12) (.t 13)), none, [], false⟩, ⟨(some 15), (.load none (.t 14)), none, [], false⟩, ⟨(some 16), (.bin .eql (.t 11) (.t 15)), none, [], false⟩]) (.cond (.t 16) (
  .seq (
  .region [⟨(some 17), (.mv (.t 5)), none, [], false⟩, ⟨(some 4), (.mv (.t 17)), none, [], false⟩]) .ret) .skip)))) (
  .region [⟨(some 18), (.bin .add (.t 8) (.c (.int .i64 1))), none, [], false⟩, ⟨(some 8), (.mv (.t 18)), none, [], false⟩]))))))) (
  .seq (
  .region [⟨(some 4), (.mv (.c (.int .i64 (-1)))), none, [], false⟩]) .ret)))⟩
theorem c76 : compFunc Tryz.prog GL [] Tryz.f76 = some l76 := by kernel_rfl
def l77 : LFunc := ⟨19, [(.tmp 4)],
  (
  .seq (
  .region [⟨(some 3), (.box true (.t 1)), none, [], false⟩, ⟨(some 4), (.mv (.c (.int .i64 0))), none, [], false⟩]) (
  .seq (
  .seq (
  .region [⟨(some 6), (.mv (.t 0)), none, [], false⟩, ⟨(some 7), (.lenSl (.t 6)), none, [], false⟩, ⟨(some 8), (.mv (.c (.int .i64 0))), none, [], false⟩]) (.block 0 (.loop (
  .seq (
  .region [⟨(some 9), (.bin .lss (.t 8) (.t 7)), none, [], false⟩]) (
  .seq (.cond (.t 9) .skip (.exit 0)) (
  .seq (.block 1 (
  .seq (
  .region [⟨(some 10), (.mv (.t 8)), none, [], false⟩, ⟨(some 5), (.mv (.t 10)), none, [], false⟩]) (
  .seq (
  .region [⟨(some 11), (.load (some 2) (.t 3)), none, [], true⟩, ⟨(some 12), (.mv (.t 0)), none, [], true⟩, ⟨(some 13), (.mv (.t 5)), none, [], true⟩, ⟨(some 14), (.iaddr 2 (.t 12) (.t 13)), none, [], true⟩, ⟨(some 15), (.load (some 2) (.t 14)), none, [], true⟩, ⟨(some 16), (.eq false (.struct [(0, (1, .int)), (1, (1, .bool))]) (.t 11) (.t 15)), none, [], true⟩]) (.cond (.t 16) (
  .seq (
  .region [⟨(some 17), (.mv (.t 5)), none, [], false⟩, ⟨(some 4), (.mv (.t 17)), none, [], false⟩]) .ret) .skip)))) (
  .region [⟨(some 18), (.bin .add (.t 8) (.c (.int .i64 1))), none, [], false⟩, ⟨(some 8), (.mv (.t 18)), none, [], false⟩]))))))) (
  .seq (
  .region [⟨(some 4), (.mv (.c (.int .i64 (-1)))), none, [], false⟩]) .ret)))⟩
theorem c77 : compFunc Tryz.prog GL [] Tryz.f77 = some l77 := by kernel_rfl
def l78 : LFunc := ⟨53, [(.tmp 2)],
  (
  .seq (
  .region [⟨(some 1), (.box true (.t 0)), none, [], false⟩, ⟨(some 2), (.mv (.c (.bool false))), none, [], false⟩]) (
  .seq (
  .seq (
  .region [⟨(some 7), (.faddr 0 (.t 1)), none, [], false⟩, ⟨(some 8), (.load none (.t 7)), none, [], false⟩, ⟨(some 9), (.lenSl (.t 8)), none, [], false⟩, ⟨(some 10), (.bin .gtr (.t 9) (.c (.int .i64 60))), none, [], false⟩, ⟨(some 11), (.mv (.t 10)), none, [], false⟩, ⟨(some 12), (.faddr 1 (.t 1)), (some (11, false)), [], false⟩, ⟨(some 13), (.load none (.t 12)), (some (11, false)), [], false⟩, ⟨(some 14), (.lenSl (.t 13)), (some (11, false)), [], false⟩, ⟨(some 15), (.bin .lss (.t 14) (.c (.int .i64 1))), (some (11, false)), [], false⟩, ⟨(some 16), (.pick (.t 11) (.c (.bool true)) (.t 15)), none, [], false⟩, ⟨(some 17), (.mv (.t 16)), none, [], false⟩, ⟨(some 18), (.faddr 1 (.t 1)), (some (17, false)), [], false⟩, ⟨(some 19), (.load none (.t 18)), (some (17, false)), [], false⟩, ⟨(some 20), (.lenSl (.t 19)), (some (17, false)), [], false⟩, ⟨(some 21), (.bin .gtr (.t 20) (.c (.int .i64 40))), (some (17, false)), [], false⟩, ⟨(some 22), (.pick (.t 17) (.c (.bool true)) (.t 21)), none, [], false⟩]) (.cond (.t 22) (
  .seq (
  .region [⟨(some 2), (.mv (.c (.bool false))), none, [], false⟩]) .ret) .skip)) (
  .seq (
  .seq (
  .region [⟨(some 3), (.mv (.c (.int .i64 0))), none, [], false⟩]) (.block 0 (.loop (
  .seq (
  .seq (
  .region [⟨(some 23), (.mv (.t 3)), none, [], false⟩, ⟨(some 24), (.faddr 0 (.t 1)), none, [], false⟩, ⟨(some 25), (.load none (.t 24)), none, [], false⟩, ⟨(some 26), (.lenSl (.t 25)), none, [], false⟩, ⟨(some 27), (.bin .lss (.t 23) (.t 26)), none, [], false⟩]) (.cond (.t 27) .skip (.exit 0))) (
  .seq (.block 1 (
  .seq (
  .region [⟨(some 30), (.faddr 0 (.t 1)), none, [], false⟩, ⟨(some 31), (.load none (.t 30)), none, [], false⟩, ⟨(some 32), (.mv (.t 3)), none, [], false⟩, ⟨(some 33), (.iaddr 1 (.t 31) (.t 32)), none, [], false⟩, ⟨(some 34), (.load none (.t 33)), none, [], false⟩, ⟨(some 35), (.call (.c (.fn (.func 107) [] [])) [(.t 34)]), none, [], false⟩, ⟨(some 4), (.mv (.t 35)), none, [], false⟩]) (
  .seq (
  .region [⟨(some 36), (.mv (.t 4)), none, [], false⟩, ⟨(some 37), (.un .not (.t 36)), none, [], false⟩]) (.cond (.t 37) (
  .seq (
  .region [⟨(some 2), (.mv (.c (.bool false))), none, [], false⟩]) .ret) .skip)))) (
  .region [⟨(some 28), (.mv (.t 3)), none, [], false⟩, ⟨(some 29), (.bin .add (.t 28) (.c (.int .i64 1))), none, [], false⟩, ⟨(some 3), (.mv (.t 29)), none, [], false⟩])))))) (
  .seq (
  .seq (
  .region [⟨(some 5), (.mv (.c (.int .i64 0))), none, [], false⟩]) (.block 2 (.loop (
  .seq (
  .seq (
  .region [⟨(some 38), (.mv (.t 5)), none, [], false⟩, ⟨(some 39), (.faddr 1 (.t 1)), none, [], false⟩, ⟨(some 40), (.load none (.t 39)), none, [], false⟩, ⟨(some 41), (.lenSl (.t 40)), none, [], false⟩, ⟨(some 42), (.bin .lss (.t 38) (.t 41)), none, [], false⟩]) (.cond (.t 42) .skip (.exit 2))) (
  .seq (.block 3 (
  .seq (
  .region [⟨(some 45), (.faddr 1 (.t 1)), none, [], false⟩, ⟨(some 46), (.load none (.t 45)), none, [], false⟩, ⟨(some 47), (.mv (.t 5)), none, [], false⟩, ⟨(some 48), (.iaddr 1 (.t 46) (.t 47)), none, [], false⟩, ⟨(some 49), (.load none (.t 48)), none, [], false⟩, ⟨(some 50), (.call (.c (.fn (.func 107) [] [])) [(.t 49)]), none, [], false⟩, ⟨(some 6), (.mv (.t 50)), none, [], false⟩]) (
  .seq (
  .region [⟨(some 51), (.mv (.t 6)), none, [], false⟩, ⟨(some 52), (.un .not (.t 51)), none, [], false⟩]) (.cond (.t 52) (
  .seq (
  .region [⟨(some 2), (.mv (.c (.bool false))), none, [], false⟩]) .ret) .skip)))) (
  .region [⟨(some 43), (.mv (.t 5)), none, [], false⟩, ⟨(some 44), (.bin .add (.t 43) (.c (.int .i64 1))), none, [], false⟩, ⟨(some 5), (.mv (.t 44)), none, [], false⟩])))))) (
  .seq (
  .region [⟨(some 2), (.mv (.c (.bool true))), none, [], false⟩]) .ret)))))⟩
theorem c78 : compFunc Tryz.prog GL [] Tryz.f78 = some l78 := by kernel_rfl
def l79 : LFunc := ⟨30, [(.tmp 2)],
  (
  .seq (
  .region [⟨(some 2), (.mv (.c (.int .i64 0))), none, [], false⟩]) (
  .seq (
  .seq (
  .region [⟨(some 3), (.mv (.c (.int .i64 1))), none, [], false⟩]) (.block 0 (.loop (
  .seq (
  .seq (
  .region [⟨(some 4), (.mv (.t 3)), none, [], false⟩, ⟨(some 5), (.mv (.t 0)), none, [], false⟩, ⟨(some 6), (.lenSl (.t 5)), none, [], false⟩, ⟨(some 7), (.bin .lss (.t 4) (.t 6)), none, [], false⟩]) (.cond (.t 7) .skip (.exit 0))) (
  .seq (.block 1 (
  .seq (
  .region [⟨(some 10), (.mv (.t 0)), none, [], true⟩, ⟨(some 11), (.lenSl (.t 10)), none, [], true⟩, ⟨(some 12), (.mv (.t 3)), none, [], true⟩, ⟨(some 13), (.bin .rem (.t 11) (.t 12)), none, [], true⟩, ⟨(some 14), (.bin .eql (.t 13) (.c (.int .i64 0))), none, [], true⟩, ⟨(some 15), (.mv (.t 14)), none, [], true⟩, ⟨(some 16), (.mv (.t 0)), (some (15, true)), [], true⟩, ⟨(some 17), (.mv (.t 3)), (some (15, true)), [], true⟩, ⟨(some 18), (.slice 1 (.t 16) (some (.t 17)) none), (some (15, true)), [], true⟩, ⟨(some 19), (.mv (.t 0)), (some (15, true)), [], true⟩, ⟨(some 20), (.mv (.t 0)), (some (15, true)), [], true⟩, ⟨(some 21), (.lenSl (.t 20)), (some (15, true)), [], true⟩, ⟨(some 22), (.mv (.t 3)), (some (15, true)), [], true⟩, ⟨(some 23), (.bin .sub (.t 21) (.t 22)), (some (15, true)), [], true⟩, ⟨(some 24), (.slice 1 (.t 19) none (some (.t 23))), (some (15, true)), [], true⟩, ⟨(some 25), (.call (.c (.fn (.func 47) [] [])) [(.t 18), (.t 24)]), (some (15, true)), [], true⟩, ⟨(some 26), (.pick (.t 15) (.t 25) (.c (.bool false))), none, [], true⟩]) (.cond (.t 26) (
  .seq (
  .region [⟨(some 27), (.mv (.t 3)), none, [], false⟩, ⟨(some 2), (.mv (.t 27)), none, [], false⟩]) .ret) .skip))) (
  .region [⟨(some 8), (.mv (.t 3)), none, [], false⟩, ⟨(some 9), (.bin .add (.t 8) (.c (.int .i64 1))), none, [], false⟩, ⟨(some 3), (.mv (.t 9)), none, [], false⟩])))))) (
  .seq (
  .region [⟨(some 28), (.mv (.t 0)), none, [], false⟩, ⟨(some 29), (.lenSl (.t 28)), none, [], false⟩, ⟨(some 2), (.mv (.t 29)), none, [], false⟩]) .ret)))⟩
theorem c79 : compFunc Tryz.prog GL [] Tryz.f79 = some l79 := by kernel_rfl
def l80 : LFunc := ⟨8, [(.tmp 2)],
  (
  .seq (
  .region [⟨(some 2), (.mv (.c .nils)), none, [], false⟩]) (
  .seq (
  .seq (
  .region [⟨(some 3), (.mv (.t 0)), none, [], false⟩, ⟨(some 4), (.eq false .slc (.t 3) (.c .nils)), none, [], false⟩]) (.cond (.t 4) (
  .seq (
  .region [⟨(some 2), (.mv (.c .nils)), none, [], false⟩]) .ret) .skip)) (
  .seq (
  .region [⟨(some 5), (.bslice 1 0 [(.int .i64 0)] []), none, [], false⟩, ⟨(some 6), (.mv (.t 0)), none, [], false⟩, ⟨(some 7), (.append 1 8 (.t 5) (.t 6)), none, [], false⟩, ⟨(some 2), (.mv (.t 7)), none, [], false⟩]) .ret)))⟩
theorem c80 : compFunc Tryz.prog GL [] Tryz.f80 = some l80 := by kernel_rfl
def l81 : LFunc := ⟨23, [(.tmp 4)],
  (
  .seq (
  .region [⟨(some 4), (.mv (.c .nils)), none, [], false⟩]) (
  .seq (
  .region [⟨(some 7), (.mv (.t 0)), none, [], false⟩, ⟨(some 8), (.lenSl (.t 7)), none, [], false⟩, ⟨(some 9), (.mkslice 1 8 [(.int .i64 0)] (.t 8) (.t 8)), none, [], false⟩, ⟨(some 5), (.mv (.t 9)), none, [], false⟩]) (
  .seq (
  .region [⟨(some 10), (.mv (.t 5)), none, [], false⟩, ⟨(some 11), (.mv (.t 0)), none, [], false⟩, ⟨(some 12), (.mv (.t 1)), none, [], false⟩, ⟨(some 13), (.slice 1 (.t 11) (some (.t 12)) none), none, [], false⟩, ⟨(some 14), (.copy 1 (.t 10) (.t 13)), none, [], false⟩, ⟨(some 6), (.mv (.t 14)), none, [], false⟩]) (
  .seq (
  .region [⟨(some 15), (.mv (.t 5)), none, [], true⟩, ⟨(some 16), (.mv (.t 6)), none, [], true⟩, ⟨(some 17), (.slice 1 (.t 15) (some (.t 16)) none), none, [], true⟩, ⟨(some 18), (.mv (.t 0)), none, [], true⟩, ⟨(some 19), (.mv (.t 1)), none, [], true⟩, ⟨(some 20), (.slice 1 (.t 18) none (some (.t 19))), none, [], true⟩, ⟨(some 21), (.copy 1 (.t 17) (.t 20)), none, [], true⟩]) (
  .seq (
  .region [⟨(some 22), (.mv (.t 5)), none, [], false⟩, ⟨(some 4), (.mv (.t 22)), none, [], false⟩]) .ret)))))⟩
theorem c81 : compFunc Tryz.prog GL [] Tryz.f81 = some l81 := by kernel_rfl
def l105 : LFunc := ⟨20, [(.tmp 4)],
  (
  .seq (
  .region [⟨(some 4), (.mv (.c (.int .i64 0))), none, [], false⟩]) (
  .seq (
  .region [⟨(some 7), (.mv (.t 0)), none, [], false⟩, ⟨(some 8), (.call (.c (.fn (.func 138) [] [])) [(.t 7)]), none, [], false⟩, ⟨(some 5), (.mv (.t 8)), none, [], false⟩]) (
  .seq (
  .region [⟨(some 9), (.mv (.t 1)), none, [], false⟩, ⟨(some 10), (.call (.c (.fn (.func 138) [] [])) [(.t 9)]), none, [], false⟩, ⟨(some 6), (.mv (.t 10)), none, [], false⟩]) (
  .seq (
  .seq (
  .region [⟨(some 11), (.mv (.t 5)), none, [], false⟩]) (.cond (.t 11) (
  .seq (
  .seq (
  .region [⟨(some 12), (.mv (.t 6)), none, [], false⟩]) (.cond (.t 12) (
  .seq (
  .region [⟨(some 4), (.mv (.c (.int .i64 0))), none, [], false⟩]) .ret) .skip)) (
  .seq (
  .region [⟨(some 4), (.mv (.c (.int .i64 (-1)))), none, [], false⟩]) .ret)) .skip)) (
  .seq (
  .seq (
  .region [⟨(some 13), (.mv (.t 6)), none, [], false⟩]) (.cond (.t 13) (
  .seq (
  .region [⟨(some 4), (.mv (.c (.int .i64 1))), none, [], false⟩]) .ret) .skip)) (
  .seq (
  .seq (
  .region [⟨(some 14), (.mv (.t 0)), none, [], false⟩, ⟨(some 15), (.mv (.t 1)), none, [], false⟩, ⟨(some 16), (.bin .lss (.t 14) (.t 15)), none, [], false⟩]) (.cond (.t 16) (
  .seq (
  .region [⟨(some 4), (.mv (.c (.int .i64 (-1)))), none, [], false⟩]) .ret) .skip)) (
  .seq (
  .seq (
  .region [⟨(some 17), (.mv (.t 0)), none, [], false⟩, ⟨(some 18), (.mv (.t 1)), none, [], false⟩, ⟨(some 19), (.bin .gtr (.t 17) (.t 18)), none, [], false⟩]) (.cond (.t 19) (
  .seq (
  .region [⟨(some 4), (.mv (.c (.int .i64 1))), none, [], false⟩]) .ret) .skip)) (
  .seq (
  .region [⟨(some 4), (.mv (.c (.int .i64 0))), none, [], false⟩]) .ret))))))))⟩
theorem c105 : compFunc Tryz.prog GL [] Tryz.f105 = some l105 := by kernel_rfl
def l106 : LFunc := ⟨27, [(.tmp 4)],
  (
  .seq (
  .region [⟨(some 4), (.mv (.c .nils)), none, [], false⟩]) (
  .seq (
  .seq (
  .region [⟨(some 5), (.mv (.t 1)), none, [], false⟩, ⟨(some 6), (.bin .lss (.t 5) (.c (.int .i64 0))), none, [], false⟩]) (.cond (.t 6) .bad .skip)) (
  .seq (
  .seq (
  .region [⟨(some 8), (.mv (.t 1)), none, [], false⟩, ⟨(some 9), (.mv (.t 0)), none, [], false⟩, ⟨(some 10), (.capZ (.t 9)), none, [], false⟩, ⟨(some 11), (.mv (.t 0)), none, [], false⟩, ⟨(some 12), (.lenSl (.t 11)), none, [], false⟩, ⟨(some 13), (.bin .sub (.t 10) (.t 12)), none, [], false⟩, ⟨(some 14), (.bin .sub (.t 8) (.t 13)), none, [], false⟩, ⟨(some 1), (.mv (.t 14)), none, [], false⟩]) (
  .seq (
  .region [⟨(some 15), (.mv (.t 1)), none, [], false⟩, ⟨(some 16), (.bin .gtr (.t 15) (.c (.int .i64 0))), none, [], false⟩]) (.cond (.t 16) (
  .region [⟨(some 17), (.mv (.t 0)), none, [], false⟩, ⟨(some 18), (.mv (.t 0)), none, [], false⟩, ⟨(some 19), (.capZ (.t 18)), none, [], false⟩, ⟨(some 20), (.slice 1 (.t 17) none (some (.t 19))), none, [], false⟩, ⟨(some 21), (.mv (.t 1)), none, [], false⟩, ⟨(some 22), (.appz 1 8 [(.int .i64 0)] (.t 20) (.t 21)), none, [], false⟩, ⟨(some 23), (.mv (.t 0)), none, [], false⟩, ⟨(some 24), (.lenSl (.t 23)), none, [], false⟩, ⟨(some 25), (.slice 1 (.t 22) none (some (.t 24))), none, [], false⟩, ⟨(some 0), (.mv (.t 25)), none, [], false⟩]) .skip))) (
  .seq (
  .region [⟨(some 26), (.mv (.t 0)), none, [], false⟩, ⟨(some 4), (.mv (.t 26)), none, [], false⟩]) .ret))))⟩
theorem c106 : compFunc Tryz.prog GL [] Tryz.f106 = some l106 := by kernel_rfl
def l107 : LFunc := ⟨9, [(.tmp 2)],
  (
  .seq (
  .region [⟨(some 2), (.mv (.c (.bool false))), none, [], false⟩]) (
  .seq (
  .region [⟨(some 3), (.mv (.t 0)), none, [], false⟩, ⟨(some 4), (.bin .geq (.t 3) (.c (.int .i64 0))), none, [], false⟩, ⟨(some 5), (.mv (.t 4)), none, [], false⟩, ⟨(some 6), (.mv (.t 0)), (some (5, true)), [], false⟩, ⟨(some 7), (.bin .lss (.t 6) (.c (.int .i64 64))), (some (5, true)), [], false⟩, ⟨(some 8), (.pick (.t 5) (.t 7) (.c (.bool false))), none, [], false⟩, ⟨(some 2), (.mv (.t 8)), none, [], false⟩]) .ret))⟩
theorem c107 : compFunc Tryz.prog GL [] Tryz.f107 = some l107 := by kernel_rfl
def l138 : LFunc := ⟨6, [(.tmp 2)],
  (
  .seq (
  .region [⟨(some 2), (.mv (.c (.bool false))), none, [], false⟩]) (
  .seq (
  .region [⟨(some 3), (.mv (.t 0)), none, [], false⟩, ⟨(some 4), (.mv (.t 0)), none, [], false⟩, ⟨(some 5), (.bin .neq (.t 3) (.t 4)), none, [], false⟩, ⟨(some 2), (.mv (.t 5)), none, [], false⟩]) .ret))⟩
theorem c138 : compFunc Tryz.prog GL [] Tryz.f138 = some l138 := by kernel_rfl
end Go.Proofs.YthcllhhldknkmaaGreatDoor
