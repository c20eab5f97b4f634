/- Plain forms of functions, by program. -/
import Derived.Test.YtohldpfjnllkdaaDoorProg
import Derived.Test.YtohldpfjnllkdaaDoorPvComp
import Derived.Test.YtohldpfjnllkdaaDoorGl
import Derived.KernelRfl
set_option linter.unusedSimpArgs false
set_option linter.unusedVariables false
namespace Go.Proofs.YtohldpfjnllkdaaDoor
open Go Go.Pv
set_option maxRecDepth 100000
def l19 : LFunc := ⟨33, [(.tmp 4)],
  (
  .seq (
  .region [⟨(some 2), (.box true (.t 0)), none, [], false⟩, ⟨(some 3), (.box true (.t 1)), none, [], false⟩, ⟨(some 4), (.mv (.c (.bool false))), none, [], false⟩]) (
  .seq (
  .seq (
  .region [⟨(some 9), (.load (some 3) (.t 2)), none, [], false⟩, ⟨(some 10), (.call (.c (.fn (.func 24) [] [])) [(.t 9)]), none, [], false⟩, ⟨(some 11), (.un .not (.t 10)), none, [], false⟩, ⟨(some 12), (.mv (.t 11)), none, [], false⟩, ⟨(some 13), (.faddr 0 (.t 2)), (some (12, false)), [], false⟩, ⟨(some 14), (.load none (.t 13)), (some (12, false)), [], false⟩, ⟨(some 15), (.load (some 2) (.t 3)), (some (12, false)), [], false⟩, ⟨(some 16), (.call (.c (.fn (.func 37) [] [])) [(.t 14), (.t 15)]), (some (12, false)), [], false⟩, ⟨(some 17), (.un .not (.t 16)), (some (12, false)), [], false⟩, ⟨(some 18), (.pick (.t 12) (.c (.bool true)) (.t 17)), none, [], false⟩]) (.cond (.t 18) (
  .seq (
  .region [⟨(some 4), (.mv (.c (.bool false))), none, [], false⟩]) .ret) .skip)) (
  .seq (
  .region [⟨(some 19), (.load (some 3) (.t 2)), none, [], false⟩, ⟨(some 20), (.load (some 2) (.t 3)), none, [], false⟩, ⟨(some 21), (.call (.c (.fn (.func 38) [] [])) [(.t 19), (.t 20)]), none, [], false⟩, ⟨(some 5), (.alloc [(.int .i64 0), .nils, .nils, .nils, (.int .i64 0)]), none, [], false⟩, ⟨none, (.store 5 (.t 5) (.t 21)), none, [], false⟩]) (
  .seq (
  .region [⟨(some 23), (.load (some 5) (.t 5)), none, [], true⟩, ⟨(some 24), (.load (some 5) (.t 5)), none, [], true⟩, ⟨(some 25), (.load (some 5) (.t 5)), none, [], true⟩, ⟨(some 6), (.alloc [(.int .i64 0), (.int .i64 0)]), none, [(23, (none, (.load (some 5) (.t 5)))), (24, (none, (.load (some 5) (.t 5)))), (25, (none, (.load (some 5) (.t 5))))], true⟩, ⟨(some 7), (.alloc [(.int .i64 0), (.int .i64 0)]), none, [(23, (none, (.load (some 5) (.t 5)))), (24, (none, (.load (some 5) (.t 5)))), (25, (none, (.load (some 5) (.t 5))))], true⟩, ⟨(some 26), (.call (.c (.fn (.func 41) [] [])) [(.t 25)]), none, [(23, (none, (.load (some 5) (.t 5)))), (24, (none, (.load (some 5) (.t 5))))], true⟩, ⟨(some 27), (.call (.c (.fn (.func 40) [] [])) [(.t 24), (.t 26)]), none, [(23, (none, (.load (some 5) (.t 5))))], true⟩, ⟨(some 28), (.call (.c (.fn (.func 39) [] [])) [(.t 23), (.t 27)]), none, [], true⟩, ⟨(some 22), (.mv (.t 28)), none, [], true⟩, ⟨(some 29), (.ext (.t 22) 0), none, [], true⟩, ⟨(some 30), (.ext (.t 22) 1), none, [], true⟩, ⟨(some 31), (.ext (.t 22) 2), none, [], true⟩, ⟨none, (.store 2 (.t 6) (.t 29)), none, [], true⟩, ⟨none, (.store 2 (.t 7) (.t 30)), none, [], true⟩, ⟨(some 8), (.mv (.t 31)), none, [], true⟩]) (
  .seq (
  .region [⟨(some 32), (.mv (.t 8)), none, [], false⟩, ⟨(some 4), (.mv (.t 32)), none, [], false⟩]) .ret)))))⟩
theorem c19 : compFunc Tryd.prog GL [] Tryd.f19 = some l19 := by kernel_rfl
def l24 : LFunc := ⟨101, [(.tmp 2)],
  (
  .seq (
  .region [⟨(some 1), (.box true (.t 0)), none, [], false⟩, ⟨(some 2), (.mv (.c (.bool false))), none, [], false⟩]) (
  .seq (
  .seq (
  .region [⟨(some 12), (.faddr 0 (.t 1)), none, [], false⟩, ⟨(some 13), (.load none (.t 12)), none, [], false⟩, ⟨(some 14), (.bin .lss (.t 13) (.c (.int .i64 1))), none, [], false⟩, ⟨(some 15), (.mv (.t 14)), none, [], false⟩, ⟨(some 16), (.faddr 0 (.t 1)), (some (15, false)), [], false⟩, ⟨(some 17), (.load none (.t 16)), (some (15, false)), [], false⟩, ⟨(some 18), (.bin .gtr (.t 17) (.c (.int .i64 64))), (some (15, false)), [], false⟩, ⟨(some 19), (.pick (.t 15) (.c (.bool true)) (.t 18)), none, [], false⟩, ⟨(some 20), (.mv (.t 19)), none, [], false⟩, ⟨(some 21), (.faddr 2 (.t 1)), (some (20, false)), [], false⟩, ⟨(some 22), (.load none (.t 21)), (some (20, false)), [], false⟩, ⟨(some 23), (.lenSl (.t 22)), (some (20, false)), [], false⟩, ⟨(some 24), (.bin .gtr (.t 23) (.c (.int .i64 3000))), (some (20, false)), [], false⟩, ⟨(some 25), (.pick (.t 20) (.c (.bool true)) (.t 24)), none, [], false⟩]) (.cond (.t 25) (
  .seq (
  .region [⟨(some 2), (.mv (.c (.bool false))), none, [], false⟩]) .ret) .skip)) (
  .seq (
  .region [⟨(some 26), (.mkfn (.func 46) [] [(.t 1)]), none, [], false⟩, ⟨(some 3), (.mv (.t 26)), none, [], false⟩]) (
  .seq (
  .seq (
  .region [⟨(some 27), (.faddr 1 (.t 1)), none, [], false⟩, ⟨(some 28), (.load none (.t 27)), none, [], false⟩, ⟨(some 29), (.lenSl (.t 28)), none, [], false⟩, ⟨(some 30), (.mv (.c (.int .i64 0))), none, [], false⟩]) (.block 0 (.loop (
  .seq (
  .region [⟨(some 31), (.bin .lss (.t 30) (.t 29)), none, [], false⟩]) (
  .seq (.cond (.t 31) .skip (.exit 0)) (
  .seq (.block 1 (
  .seq (
  .region [⟨(some 32), (.mv (.t 30)), none, [], false⟩, ⟨(some 33), (.iaddr 1 (.t 28) (.t 30)), none, [], false⟩, ⟨(some 34), (.load none (.t 33)), none, [], false⟩, ⟨(some 4), (.mv (.t 32)), none, [], false⟩, ⟨(some 5), (.mv (.t 34)), none, [], false⟩]) (
  .seq (
  .region [⟨(some 35), (.mv (.t 3)), none, [], false⟩, ⟨(some 36), (.mv (.t 5)), none, [], false⟩, ⟨(some 37), (.call (.t 35) [(.t 36)]), none, [], false⟩, ⟨(some 38), (.un .not (.t 37)), none, [], false⟩, ⟨(some 39), (.mv (.t 38)), none, [], false⟩, ⟨(some 40), (.mv (.t 4)), (some (39, false)), [], false⟩, ⟨(some 41), (.bin .gtr (.t 40) (.c (.int .i64 0))), (some (39, false)), [], false⟩, ⟨(some 42), (.mv (.t 41)), (some (39, false)), [], false⟩, ⟨(some 43), (.faddr 1 (.t 1)), (some (42, true)), [], false⟩, ⟨(some 44), (.load none (.t 43)), (some (42, true)), [], false⟩, ⟨(some 45), (.mv (.t 4)), (some (42, true)), [], false⟩, ⟨(some 46), (.bin .sub (.t 45) (.c (.int .i64 1))), (some (42, true)), [], false⟩, ⟨(some 47), (.iaddr 1 (.t 44) (.t 46)), (some (42, true)), [], false⟩, ⟨(some 48), (.load none (.t 47)), (some (42, true)), [], false⟩, ⟨(some 49), (.mv (.t 5)), (some (42, true)), [], false⟩, ⟨(some 50), (.bin .geq (.t 48) (.t 49)), (some (42, true)), [], false⟩, ⟨(some 51), (.pick (.t 42) (.t 50) (.c (.bool false))), (some (39, false)), [], false⟩, ⟨(some 52), (.pick (.t 39) (.c (.bool true)) (.t 51)), none, [], false⟩]) (.cond (.t 52) (
  .seq (
  .region [⟨(some 2), (.mv (.c (.bool false))), none, [], false⟩]) .ret) .skip)))) (
  .region [⟨(some 53), (.bin .add (.t 30) (.c (.int .i64 1))), none, [], false⟩, ⟨(some 30), (.mv (.t 53)), none, [], false⟩]))))))) (
  .seq (
  .seq (
  .region [⟨(some 54), (.faddr 2 (.t 1)), none, [], false⟩, ⟨(some 55), (.load none (.t 54)), none, [], false⟩, ⟨(some 56), (.lenSl (.t 55)), none, [], false⟩, ⟨(some 57), (.mv (.c (.int .i64 0))), none, [], false⟩]) (.block 2 (.loop (
  .seq (
  .region [⟨(some 58), (.bin .lss (.t 57) (.t 56)), none, [], false⟩]) (
  .seq (.cond (.t 58) .skip (.exit 2)) (
  .seq (.block 3 (
  .seq (
  .region [⟨(some 59), (.iaddr 1 (.t 55) (.t 57)), none, [], false⟩, ⟨(some 60), (.load none (.t 59)), none, [], false⟩, ⟨(some 7), (.mv (.t 60)), none, [], false⟩]) (
  .seq (
  .seq (
  .region [⟨(some 61), (.mv (.t 7)), none, [], false⟩, ⟨(some 62), (.lenSl (.t 61)), none, [], false⟩, ⟨(some 63), (.faddr 0 (.t 1)), none, [], false⟩, ⟨(some 64), (.load none (.t 63)), none, [], false⟩, ⟨(some 65), (.bin .neq (.t 62) (.t 64)), none, [], false⟩]) (.cond (.t 65) (
  .seq (
  .region [⟨(some 2), (.mv (.c (.bool false))), none, [], false⟩]) .ret) .skip)) (
  .seq (
  .region [⟨(some 66), (.mv (.t 7)), none, [], false⟩, ⟨(some 67), (.lenSl (.t 66)), none, [], false⟩, ⟨(some 68), (.mv (.c (.int .i64 0))), none, [], false⟩]) (.block 4 (.loop (
  .seq (
  .region [⟨(some 69), (.bin .lss (.t 68) (.t 67)), none, [], false⟩]) (
  .seq (.cond (.t 69) .skip (.exit 4)) (
  .seq (.block 5 (
  .seq (
  .region [⟨(some 70), (.iaddr 1 (.t 66) (.t 68)), none, [], false⟩, ⟨(some 71), (.load none (.t 70)), none, [], false⟩, ⟨(some 9), (.mv (.t 71)), none, [], false⟩]) (
  .seq (
  .region [⟨(some 72), (.mv (.t 9)), none, [], false⟩, ⟨(some 73), (.lenSl (.t 72)), none, [], false⟩, ⟨(some 74), (.mv (.c (.int .i64 0))), none, [], false⟩]) (.block 6 (.loop (
  .seq (
  .region [⟨(some 75), (.bin .lss (.t 74) (.t 73)), none, [], false⟩]) (
  .seq (.cond (.t 75) .skip (.exit 6)) (
  .seq (.block 7 (
  .seq (
  .region [⟨(some 76), (.mv (.t 74)), none, [], false⟩, ⟨(some 77), (.iaddr 2 (.t 72) (.t 74)), none, [], false⟩, ⟨(some 78), (.load (some 2) (.t 77)), none, [], false⟩, ⟨(some 11), (.alloc [(.int .i64 0), (.bool false)]), none, [], false⟩, ⟨(some 10), (.mv (.t 76)), none, [], false⟩, ⟨none, (.store 2 (.t 11) (.t 78)), none, [], false⟩]) (
  .seq (
  .region [⟨(some 79), (.mv (.t 3)), none, [], true⟩, ⟨(some 80), (.faddr 0 (.t 11)), none, [], true⟩, ⟨(some 81), (.load none (.t 80)), none, [], true⟩, ⟨(some 82), (.call (.t 79) [(.t 81)]), none, [], true⟩, ⟨(some 83), (.un .not (.t 82)), none, [], true⟩, ⟨(some 84), (.mv (.t 83)), none, [], true⟩, ⟨(some 85), (.mv (.t 10)), (some (84, false)), [], true⟩, ⟨(some 86), (.bin .gtr (.t 85) (.c (.int .i64 0))), (some (84, false)), [], true⟩, ⟨(some 87), (.mv (.t 86)), (some (84, false)), [], true⟩, ⟨(some 88), (.mv (.t 9)), (some (87, true)), [], true⟩, ⟨(some 89), (.mv (.t 10)), (some (87, true)), [], true⟩, ⟨(some 90), (.bin .sub (.t 89) (.c (.int .i64 1))), (some (87, true)), [], true⟩, ⟨(some 91), (.iaddr 2 (.t 88) (.t 90)), (some (87, true)), [], true⟩, ⟨(some 92), (.load (some 2) (.t 91)), (some (87, true)), [], true⟩, ⟨(some 93), (.load (some 2) (.t 11)), (some (87, true)), [], true⟩, ⟨(some 94), (.call (.c (.fn (.func 47) [] [])) [(.t 92), (.t 93)]), (some (87, true)), [], true⟩, ⟨(some 95), (.bin .geq (.t 94) (.c (.int .i64 0))), (some (87, true)), [], true⟩, ⟨(some 96), (.pick (.t 87) (.t 95) (.c (.bool false))), (some (84, false)), [], true⟩, ⟨(some 97), (.pick (.t 84) (.c (.bool true)) (.t 96)), none, [], true⟩]) (.cond (.t 97) (
  .seq (
  .region [⟨(some 2), (.mv (.c (.bool false))), none, [], false⟩]) .ret) .skip)))) (
  .region [⟨(some 98), (.bin .add (.t 74) (.c (.int .i64 1))), none, [], false⟩, ⟨(some 74), (.mv (.t 98)), none, [], false⟩]))))))))) (
  .region [⟨(some 99), (.bin .add (.t 68) (.c (.int .i64 1))), none, [], false⟩, ⟨(some 68), (.mv (.t 99)), none, [], false⟩])))))))))) (
  .region [⟨(some 100), (.bin .add (.t 57) (.c (.int .i64 1))), none, [], false⟩, ⟨(some 57), (.mv (.t 100)), none, [], false⟩]))))))) (
  .seq (
  .region [⟨(some 2), (.mv (.c (.bool true))), none, [], false⟩]) .ret))))))⟩
theorem c24 : compFunc Tryd.prog GL [] Tryd.f24 = some l24 := by kernel_rfl
def l46 : LFunc := ⟨13, [(.tmp 3)],
  (
  .seq (
  .region [⟨(some 3), (.mv (.c (.bool false))), none, [], false⟩]) (
  .seq (
  .region [⟨(some 4), (.mv (.t 0)), none, [], false⟩, ⟨(some 5), (.bin .geq (.t 4) (.c (.int .i64 0))), none, [], false⟩, ⟨(some 6), (.mv (.t 5)), none, [], false⟩, ⟨(some 7), (.mv (.t 0)), (some (6, true)), [], false⟩, ⟨(some 8), (.faddr 2 (.t 1)), (some (6, true)), [], false⟩, ⟨(some 9), (.load none (.t 8)), (some (6, true)), [], false⟩, ⟨(some 10), (.lenSl (.t 9)), (some (6, true)), [], false⟩, ⟨(some 11), (.bin .lss (.t 7) (.t 10)), (some (6, true)), [], false⟩, ⟨(some 12), (.pick (.t 6) (.t 11) (.c (.bool false))), none, [], false⟩, ⟨(some 3), (.mv (.t 12)), none, [], false⟩]) .ret))⟩
theorem c46 : compFunc Tryd.prog GL [] Tryd.f46 = some l46 := by kernel_rfl
def l47 : LFunc := ⟨23, [(.tmp 4)],
  (
  .seq (
  .region [⟨(some 2), (.box true (.t 0)), none, [], false⟩, ⟨(some 3), (.box true (.t 1)), none, [], false⟩, ⟨(some 4), (.mv (.c (.int .i64 0))), none, [], false⟩]) (
  .seq (
  .seq (
  .region [⟨(some 6), (.faddr 0 (.t 2)), none, [], false⟩, ⟨(some 7), (.load none (.t 6)), none, [], false⟩, ⟨(some 8), (.faddr 0 (.t 3)), none, [], false⟩, ⟨(some 9), (.load none (.t 8)), none, [], false⟩, ⟨(some 10), (.call (.c (.fn (.func 72) [] [])) [(.t 7), (.t 9)]), none, [], false⟩, ⟨(some 5), (.mv (.t 10)), none, [], false⟩]) (
  .seq (
  .region [⟨(some 11), (.mv (.t 5)), none, [], false⟩, ⟨(some 12), (.bin .neq (.t 11) (.c (.int .i64 0))), none, [], false⟩, ⟨(some 13), (.mv (.t 12)), none, [], false⟩, ⟨(some 14), (.faddr 1 (.t 2)), (some (13, false)), [], false⟩, ⟨(some 15), (.load none (.t 14)), (some (13, false)), [], false⟩, ⟨(some 16), (.faddr 1 (.t 3)), (some (13, false)), [], false⟩, ⟨(some 17), (.load none (.t 16)), (some (13, false)), [], false⟩, ⟨(some 18), (.eq false .bool (.t 15) (.t 17)), (some (13, false)), [], false⟩, ⟨(some 19), (.pick (.t 13) (.c (.bool true)) (.t 18)), none, [], false⟩]) (.cond (.t 19) (
  .seq (
  .region [⟨(some 20), (.mv (.t 5)), none, [], false⟩, ⟨(some 4), (.mv (.t 20)), none, [], false⟩]) .ret) .skip))) (
  .seq (
  .seq (
  .region [⟨(some 21), (.faddr 1 (.t 3)), none, [], false⟩, ⟨(some 22), (.load none (.t 21)), none, [], false⟩]) (.cond (.t 22) (
  .seq (
  .region [⟨(some 4), (.mv (.c (.int .i64 (-1)))), none, [], false⟩]) .ret) .skip)) (
  .seq (
  .region [⟨(some 4), (.mv (.c (.int .i64 1))), none, [], false⟩]) .ret))))⟩
theorem c47 : compFunc Tryd.prog GL [] Tryd.f47 = some l47 := by kernel_rfl
def l72 : LFunc := ⟨20, [(.tmp 4)],
  (
  .seq (
  .region [⟨(some 4), (.mv (.c (.int .i64 0))), none, [], false⟩]) (
  .seq (
  .region [⟨(some 7), (.mv (.t 0)), none, [], false⟩, ⟨(some 8), (.call (.c (.fn (.func 81) [] [])) [(.t 7)]), none, [], false⟩, ⟨(some 5), (.mv (.t 8)), none, [], false⟩]) (
  .seq (
  .region [⟨(some 9), (.mv (.t 1)), none, [], false⟩, ⟨(some 10), (.call (.c (.fn (.func 81) [] [])) [(.t 9)]), none, [], false⟩, ⟨(some 6), (.mv (.t 10)), none, [], false⟩]) (
  .seq (
  .seq (
  .region [⟨(some 11), (.mv (.t 5)), none, [], false⟩]) (.cond (.t 11) (
  .seq (
  .seq (
  .region [⟨(some 12), (.mv (.t 6)), none, [], false⟩]) (.cond (.t 12) (
  .seq (
  .region [⟨(some 4), (.mv (.c (.int .i64 0))), none, [], false⟩]) .ret) .skip)) (
  .seq (
  .region [⟨(some 4), (.mv (.c (.int .i64 (-1)))), none, [], false⟩]) .ret)) .skip)) (
  .seq (
  .seq (
  .region [⟨(some 13), (.mv (.t 6)), none, [], false⟩]) (.cond (.t 13) (
  .seq (
  .region [⟨(some 4), (.mv (.c (.int .i64 1))), none, [], false⟩]) .ret) .skip)) (
  .seq (
  .seq (
  .region [⟨(some 14), (.mv (.t 0)), none, [], false⟩, ⟨(some 15), (.mv (.t 1)), none, [], false⟩, ⟨(some 16), (.bin .lss (.t 14) (.t 15)), none, [], false⟩]) (.cond (.t 16) (
  .seq (
  .region [⟨(some 4), (.mv (.c (.int .i64 (-1)))), none, [], false⟩]) .ret) .skip)) (
  .seq (
  .seq (
  .region [⟨(some 17), (.mv (.t 0)), none, [], false⟩, ⟨(some 18), (.mv (.t 1)), none, [], false⟩, ⟨(some 19), (.bin .gtr (.t 17) (.t 18)), none, [], false⟩]) (.cond (.t 19) (
  .seq (
  .region [⟨(some 4), (.mv (.c (.int .i64 1))), none, [], false⟩]) .ret) .skip)) (
  .seq (
  .region [⟨(some 4), (.mv (.c (.int .i64 0))), none, [], false⟩]) .ret))))))))⟩
theorem c72 : compFunc Tryd.prog GL [] Tryd.f72 = some l72 := by kernel_rfl
def l81 : LFunc := ⟨6, [(.tmp 2)],
  (
  .seq (
  .region [⟨(some 2), (.mv (.c (.bool false))), none, [], false⟩]) (
  .seq (
  .region [⟨(some 3), (.mv (.t 0)), none, [], false⟩, ⟨(some 4), (.mv (.t 0)), none, [], false⟩, ⟨(some 5), (.bin .neq (.t 3) (.t 4)), none, [], false⟩, ⟨(some 2), (.mv (.t 5)), none, [], false⟩]) .ret))⟩
theorem c81 : compFunc Tryd.prog GL [] Tryd.f81 = some l81 := by kernel_rfl
def l38 : LFunc := ⟨19, [(.cell 4 (some 5))],
  (
  .seq (
  .region [⟨(some 2), (.box true (.t 0)), none, [], false⟩, ⟨(some 3), (.box true (.t 1)), none, [], false⟩, ⟨(some 4), (.alloc [(.int .i64 0), .nils, .nils, .nils, (.int .i64 0)]), none, [], false⟩]) (
  .seq (
  .region [⟨(some 6), (.load (some 2) (.t 3)), none, [], false⟩, ⟨(some 7), (.call (.c (.fn (.func 62) [] [])) [(.t 6)]), none, [], false⟩, ⟨(some 5), (.alloc [.nils, .nils]), none, [], false⟩, ⟨none, (.store 2 (.t 5) (.t 7)), none, [], false⟩]) (
  .seq (
  .region [⟨(some 8), (.load (some 3) (.t 2)), none, [], true⟩, ⟨(some 9), (.faddr 0 (.t 5)), none, [], true⟩, ⟨(some 10), (.load none (.t 9)), none, [], true⟩, ⟨(some 11), (.faddr 1 (.t 5)), none, [], true⟩, ⟨(some 12), (.load none (.t 11)), none, [], true⟩, ⟨(some 13), (.bslice 1 2 [.nils] [(0, (1, (.t 10))), (1, (1, (.t 12)))]), none, [(8, (none, (.load (some 3) (.t 2)))), (10, (none, (.load none (.t 9)))), (12, (none, (.load none (.t 11))))], true⟩, ⟨(some 15), (.faddr 0 (.t 5)), none, [], true⟩, ⟨(some 16), (.load none (.t 15)), none, [], true⟩, ⟨(some 17), (.lenSl (.t 16)), none, [], true⟩, ⟨(some 14), (.call (.c (.fn (.func 63) [] [])) [(.t 13)]), none, [(8, (none, (.load (some 3) (.t 2)))), (16, (none, (.load none (.t 15))))], true⟩, ⟨(some 18), (.build [(.int .i64 0), .nils, .nils, .nils, (.int .i64 0)] [(0, (3, (.t 8))), (3, (1, (.t 14))), (4, (1, (.t 17)))]), none, [], true⟩, ⟨none, (.store 5 (.t 4) (.t 18)), none, [], true⟩]) .ret)))⟩
theorem c38 : compFunc Tryd.prog GL [] Tryd.f38 = some l38 := by kernel_rfl
def l41 : LFunc := ⟨21, [(.tmp 2)],
  (
  .seq (
  .region [⟨(some 1), (.box true (.t 0)), none, [], false⟩, ⟨(some 2), (.mv (.c .nils)), none, [], false⟩]) (
  .seq (
  .region [⟨(some 3), (.mv (.c .nils)), none, [], false⟩]) (
  .seq (
  .seq (
  .region [⟨(some 6), (.faddr 0 (.t 1)), none, [], false⟩, ⟨(some 7), (.faddr 1 (.t 6)), none, [], false⟩, ⟨(some 8), (.load none (.t 7)), none, [], false⟩, ⟨(some 9), (.lenSl (.t 8)), none, [], false⟩, ⟨(some 10), (.mv (.c (.int .i64 0))), none, [], false⟩]) (.block 0 (.loop (
  .seq (
  .region [⟨(some 11), (.bin .lss (.t 10) (.t 9)), none, [], false⟩]) (
  .seq (.cond (.t 11) .skip (.exit 0)) (
  .seq (.block 1 (
  .seq (
  .region [⟨(some 12), (.iaddr 1 (.t 8) (.t 10)), none, [], false⟩, ⟨(some 13), (.load none (.t 12)), none, [], false⟩, ⟨(some 5), (.mv (.t 13)), none, [], false⟩]) (
  .region [⟨(some 14), (.mv (.t 3)), none, [], false⟩, ⟨(some 15), (.mv (.t 5)), none, [], false⟩, ⟨(some 16), (.build [(.int .i64 0), (.int .i64 0)] [(1, (1, (.t 15)))]), none, [], false⟩, ⟨(some 17), (.bslice 2 1 [(.int .i64 0), (.int .i64 0)] [(0, (2, (.t 16)))]), none, [], false⟩, ⟨(some 18), (.append 2 16 (.t 14) (.t 17)), none, [], false⟩, ⟨(some 3), (.mv (.t 18)), none, [], false⟩]))) (
  .region [⟨(some 19), (.bin .add (.t 10) (.c (.int .i64 1))), none, [], false⟩, ⟨(some 10), (.mv (.t 19)), none, [], false⟩]))))))) (
  .seq (
  .region [⟨(some 20), (.mv (.t 3)), none, [], false⟩, ⟨(some 2), (.mv (.t 20)), none, [], false⟩]) .ret))))⟩
theorem c41 : compFunc Tryd.prog GL [] Tryd.f41 = some l41 := by kernel_rfl
def l40 : LFunc := ⟨55, [(.cell 4 (some 3))],
  (
  .seq (
  .region [⟨(some 2), (.box true (.t 0)), none, [], false⟩, ⟨(some 4), (.alloc [.nilm, .nils, .nils]), none, [], false⟩]) (
  .seq (
  .region [⟨(some 13), (.mkmap none), none, [], false⟩, ⟨(some 14), (.build [.nilm, .nils, .nils] [(0, (1, (.t 13)))]), none, [], false⟩, ⟨(some 5), (.alloc [.nilm, .nils, .nils]), none, [], false⟩, ⟨none, (.store 3 (.t 5) (.t 14)), none, [], false⟩]) (
  .seq (
  .region [⟨(some 15), (.mkfn (.func 67) [] [(.t 5)]), none, [], false⟩, ⟨(some 6), (.mv (.t 15)), none, [], false⟩]) (
  .seq (
  .seq (
  .region [⟨(some 16), (.mv (.t 1)), none, [], false⟩, ⟨(some 17), (.lenSl (.t 16)), none, [], false⟩, ⟨(some 18), (.mv (.c (.int .i64 0))), none, [], false⟩]) (.block 0 (.loop (
  .seq (
  .region [⟨(some 19), (.bin .lss (.t 18) (.t 17)), none, [], false⟩]) (
  .seq (.cond (.t 19) .skip (.exit 0)) (
  .seq (.block 1 (
  .seq (
  .region [⟨(some 20), (.iaddr 2 (.t 16) (.t 18)), none, [], false⟩, ⟨(some 21), (.load (some 2) (.t 20)), none, [], false⟩, ⟨(some 8), (.alloc [(.int .i64 0), (.int .i64 0)]), none, [], false⟩, ⟨none, (.store 2 (.t 8) (.t 21)), none, [], false⟩]) (
  .region [⟨(some 22), (.mv (.t 6)), none, [], false⟩, ⟨(some 23), (.load (some 2) (.t 8)), none, [], false⟩, ⟨(some 24), (.call (.t 22) [(.t 23), (.c (.int .i64 (-1)))]), none, [], false⟩]))) (
  .region [⟨(some 25), (.bin .add (.t 18) (.c (.int .i64 1))), none, [], false⟩, ⟨(some 18), (.mv (.t 25)), none, [], false⟩]))))))) (
  .seq (
  .seq (
  .region [⟨(some 9), (.mv (.c (.int .i64 0))), none, [], false⟩]) (.block 2 (.loop (
  .seq (
  .seq (
  .region [⟨(some 26), (.mv (.t 9)), none, [], false⟩, ⟨(some 27), (.faddr 1 (.t 5)), none, [], false⟩, ⟨(some 28), (.load none (.t 27)), none, [], false⟩, ⟨(some 29), (.lenSl (.t 28)), none, [], false⟩, ⟨(some 30), (.bin .lss (.t 26) (.t 29)), none, [], false⟩]) (.cond (.t 30) .skip (.exit 2))) (
  .seq (.block 3 (
  .seq (
  .region [⟨(some 33), (.faddr 1 (.t 5)), none, [], false⟩, ⟨(some 34), (.load none (.t 33)), none, [], false⟩, ⟨(some 35), (.mv (.t 9)), none, [], false⟩, ⟨(some 36), (.iaddr 2 (.t 34) (.t 35)), none, [], false⟩, ⟨(some 37), (.load (some 2) (.t 36)), none, [], false⟩, ⟨(some 10), (.alloc [(.int .i64 0), (.int .i64 0)]), none, [], false⟩, ⟨none, (.store 2 (.t 10) (.t 37)), none, [], false⟩]) (
  .seq (
  .region [⟨(some 38), (.load (some 5) (.t 2)), none, [], false⟩, ⟨(some 39), (.load (some 2) (.t 10)), none, [], false⟩, ⟨(some 40), (.call (.c (.fn (.func 64) [] [])) [(.t 38), (.t 39)]), none, [], false⟩, ⟨(some 41), (.lenSl (.t 40)), none, [], false⟩, ⟨(some 42), (.mv (.c (.int .i64 0))), none, [], false⟩]) (.block 4 (.loop (
  .seq (
  .region [⟨(some 43), (.bin .lss (.t 42) (.t 41)), none, [], false⟩]) (
  .seq (.cond (.t 43) .skip (.exit 4)) (
  .seq (.block 5 (
  .seq (
  .region [⟨(some 44), (.iaddr 2 (.t 40) (.t 42)), none, [], false⟩, ⟨(some 45), (.load (some 2) (.t 44)), none, [], false⟩, ⟨(some 12), (.alloc [(.int .i64 0), (.bool false)]), none, [], false⟩, ⟨none, (.store 2 (.t 12) (.t 45)), none, [], false⟩]) (
  .region [⟨(some 46), (.mv (.t 6)), none, [], false⟩, ⟨(some 47), (.load (some 5) (.t 2)), none, [], false⟩, ⟨(some 48), (.load (some 2) (.t 10)), none, [], false⟩, ⟨(some 49), (.load (some 2) (.t 12)), none, [], false⟩, ⟨(some 50), (.call (.c (.fn (.func 65) [] [])) [(.t 47), (.t 48), (.t 49)]), none, [], false⟩, ⟨(some 51), (.mv (.t 9)), none, [], false⟩, ⟨(some 52), (.call (.t 46) [(.t 50), (.t 51)]), none, [], false⟩]))) (
  .region [⟨(some 53), (.bin .add (.t 42) (.c (.int .i64 1))), none, [], false⟩, ⟨(some 42), (.mv (.t 53)), none, [], false⟩]))))))))) (
  .region [⟨(some 31), (.mv (.t 9)), none, [], false⟩, ⟨(some 32), (.bin .add (.t 31) (.c (.int .i64 1))), none, [], false⟩, ⟨(some 9), (.mv (.t 32)), none, [], false⟩])))))) (
  .seq (
  .region [⟨(some 54), (.load (some 3) (.t 5)), none, [], false⟩, ⟨none, (.store 3 (.t 4) (.t 54)), none, [], false⟩]) .ret))))))⟩
theorem c40 : compFunc Tryd.prog GL [] Tryd.f40 = some l40 := by kernel_rfl
def l67 : LFunc := ⟨34, [],
  (
  .seq (
  .region [⟨(some 3), (.box true (.t 0)), none, [], false⟩]) (
  .seq (
  .region [⟨(some 8), (.faddr 0 (.t 2)), none, [], false⟩, ⟨(some 9), (.load none (.t 8)), none, [], false⟩, ⟨(some 10), (.load (some 2) (.t 3)), none, [], false⟩, ⟨(some 11), (.mlook (.st [(0, (1, .int)), (1, (1, .int))]) (.int .i64 0) true (.t 9) (.t 10)), none, [], false⟩, ⟨(some 7), (.mv (.t 11)), none, [], false⟩, ⟨(some 12), (.ext (.t 7) 0), none, [], false⟩, ⟨(some 13), (.ext (.t 7) 1), none, [], false⟩, ⟨(some 5), (.mv (.t 12)), none, [], false⟩, ⟨(some 6), (.mv (.t 13)), none, [], false⟩]) (
  .seq (
  .region [⟨(some 14), (.mv (.t 6)), none, [], false⟩, ⟨(some 15), (.un .not (.t 14)), none, [], false⟩]) (.cond (.t 15) (
  .seq (
  .region [⟨(some 16), (.faddr 0 (.t 2)), none, [], false⟩, ⟨(some 17), (.load none (.t 16)), none, [], false⟩, ⟨(some 18), (.load (some 2) (.t 3)), none, [], false⟩, ⟨(some 19), (.faddr 1 (.t 2)), none, [], false⟩, ⟨(some 20), (.load none (.t 19)), none, [], false⟩, ⟨(some 21), (.lenSl (.t 20)), none, [], false⟩, ⟨none, (.mupd (.st [(0, (1, .int)), (1, (1, .int))]) (.t 17) (.t 18) (.t 21)), none, [], false⟩]) (
  .seq (
  .region [⟨(some 22), (.faddr 1 (.t 2)), none, [], false⟩, ⟨(some 23), (.load none (.t 22)), none, [], false⟩, ⟨(some 24), (.load (some 2) (.t 3)), none, [], false⟩, ⟨(some 25), (.bslice 2 1 [(.int .i64 0), (.int .i64 0)] [(0, (2, (.t 24)))]), none, [], false⟩, ⟨(some 26), (.append 2 16 (.t 23) (.t 25)), none, [], false⟩, ⟨(some 27), (.faddr 1 (.t 2)), none, [], false⟩, ⟨none, (.store 1 (.t 27) (.t 26)), none, [], false⟩]) (
  .region [⟨(some 28), (.faddr 2 (.t 2)), none, [], false⟩, ⟨(some 29), (.load none (.t 28)), none, [], false⟩, ⟨(some 30), (.mv (.t 1)), none, [], false⟩, ⟨(some 31), (.bslice 1 1 [(.int .i64 0)] [(0, (1, (.t 30)))]), none, [], false⟩, ⟨(some 32), (.append 1 8 (.t 29) (.t 31)), none, [], false⟩, ⟨(some 33), (.faddr 2 (.t 2)), none, [], false⟩, ⟨none, (.store 1 (.t 33) (.t 32)), none, [], false⟩]))) .skip))))⟩
theorem c67 : compFunc Tryd.prog GL [] Tryd.f67 = some l67 := by kernel_rfl
def l64 : LFunc := ⟨20, [(.tmp 4)],
  (
  .seq (
  .region [⟨(some 2), (.box true (.t 0)), none, [], false⟩, ⟨(some 3), (.box true (.t 1)), none, [], false⟩, ⟨(some 4), (.mv (.c .nils)), none, [], false⟩]) (
  .seq (
  .region [⟨(some 5), (.faddr 0 (.t 2)), none, [], true⟩, ⟨(some 6), (.faddr 2 (.t 5)), none, [], true⟩, ⟨(some 7), (.load none (.t 6)), none, [], true⟩, ⟨(some 8), (.faddr 1 (.t 3)), none, [], true⟩, ⟨(some 9), (.load none (.t 8)), none, [], true⟩, ⟨(some 10), (.iaddr 1 (.t 7) (.t 9)), none, [], true⟩, ⟨(some 11), (.load none (.t 10)), none, [], true⟩, ⟨(some 12), (.faddr 3 (.t 2)), none, [], true⟩, ⟨(some 13), (.load none (.t 12)), none, [], true⟩, ⟨(some 14), (.faddr 0 (.t 3)), none, [], true⟩, ⟨(some 15), (.load none (.t 14)), none, [], true⟩, ⟨(some 16), (.iaddr 1 (.t 13) (.t 15)), none, [], true⟩, ⟨(some 17), (.load none (.t 16)), none, [], true⟩, ⟨(some 18), (.iaddr 1 (.t 11) (.t 17)), none, [], true⟩, ⟨(some 19), (.load none (.t 18)), none, [], true⟩, ⟨(some 4), (.mv (.t 19)), none, [], true⟩]) .ret))⟩
theorem c64 : compFunc Tryd.prog GL [] Tryd.f64 = some l64 := by kernel_rfl
def l65 : LFunc := ⟨22, [(.cell 6 (some 2))],
  (
  .seq (
  .region [⟨(some 3), (.box true (.t 0)), none, [], false⟩, ⟨(some 4), (.box true (.t 1)), none, [], false⟩, ⟨(some 5), (.box true (.t 2)), none, [], false⟩, ⟨(some 6), (.alloc [(.int .i64 0), (.int .i64 0)]), none, [], false⟩]) (
  .seq (
  .region [⟨(some 8), (.faddr 0 (.t 4)), none, [], false⟩, ⟨(some 9), (.load none (.t 8)), none, [], false⟩, ⟨(some 10), (.bin .add (.t 9) (.c (.int .i64 1))), none, [], false⟩, ⟨(some 7), (.mv (.t 10)), none, [], false⟩]) (
  .seq (
  .seq (
  .region [⟨(some 11), (.mv (.t 7)), none, [], false⟩, ⟨(some 12), (.faddr 3 (.t 3)), none, [], false⟩, ⟨(some 13), (.load none (.t 12)), none, [], false⟩, ⟨(some 14), (.lenSl (.t 13)), none, [], false⟩, ⟨(some 15), (.bin .eql (.t 11) (.t 14)), none, [], false⟩]) (.cond (.t 15) (
  .region [⟨(some 16), (.faddr 4 (.t 3)), none, [], false⟩, ⟨(some 17), (.load none (.t 16)), none, [], false⟩, ⟨(some 7), (.mv (.t 17)), none, [], false⟩]) .skip)) (
  .seq (
  .region [⟨(some 18), (.mv (.t 7)), none, [], false⟩, ⟨(some 19), (.faddr 0 (.t 5)), none, [], false⟩, ⟨(some 20), (.load none (.t 19)), none, [], false⟩, ⟨(some 21), (.build [(.int .i64 0), (.int .i64 0)] [(0, (1, (.t 18))), (1, (1, (.t 20)))]), none, [], false⟩, ⟨none, (.store 2 (.t 6) (.t 21)), none, [], false⟩]) .ret))))⟩
theorem c65 : compFunc Tryd.prog GL [] Tryd.f65 = some l65 := by kernel_rfl
def l39 : LFunc := ⟨102, [(.cell 4 (some 2)), (.cell 5 (some 2)), (.tmp 6)],
  (
  .seq (
  .region [⟨(some 2), (.box true (.t 0)), none, [], false⟩, ⟨(some 3), (.box false (.t 1)), none, [], false⟩, ⟨(some 4), (.alloc [(.int .i64 0), (.int .i64 0)]), none, [], false⟩, ⟨(some 5), (.alloc [(.int .i64 0), (.int .i64 0)]), none, [], false⟩, ⟨(some 6), (.mv (.c (.bool false))), none, [], false⟩]) (
  .seq (
  .region [⟨(some 17), (.faddr 1 (.t 3)), none, [], false⟩, ⟨(some 18), (.load none (.t 17)), none, [], false⟩, ⟨(some 19), (.lenSl (.t 18)), none, [], false⟩, ⟨(some 20), (.mkslice 1 24 [.nils] (.t 19) (.t 19)), none, [], false⟩, ⟨(some 7), (.mv (.t 20)), none, [], false⟩]) (
  .seq (
  .seq (
  .region [⟨(some 21), (.faddr 1 (.t 3)), none, [], false⟩, ⟨(some 22), (.load none (.t 21)), none, [], false⟩, ⟨(some 23), (.lenSl (.t 22)), none, [], false⟩, ⟨(some 24), (.mv (.c (.int .i64 0))), none, [], false⟩]) (.block 0 (.loop (
  .seq (
  .region [⟨(some 25), (.bin .lss (.t 24) (.t 23)), none, [], false⟩]) (
  .seq (.cond (.t 25) .skip (.exit 0)) (
  .seq (.block 1 (
  .seq (
  .region [⟨(some 26), (.mv (.t 24)), none, [], false⟩, ⟨(some 27), (.iaddr 2 (.t 22) (.t 24)), none, [], false⟩, ⟨(some 28), (.load (some 2) (.t 27)), none, [], false⟩, ⟨(some 9), (.alloc [(.int .i64 0), (.int .i64 0)]), none, [], false⟩, ⟨(some 8), (.mv (.t 26)), none, [], false⟩, ⟨none, (.store 2 (.t 9) (.t 28)), none, [], false⟩]) (
  .seq (
  .region [⟨(some 29), (.load (some 5) (.t 2)), none, [], false⟩, ⟨(some 30), (.load (some 2) (.t 9)), none, [], false⟩, ⟨(some 31), (.call (.c (.fn (.func 64) [] [])) [(.t 29), (.t 30)]), none, [], false⟩, ⟨(some 32), (.lenSl (.t 31)), none, [], false⟩, ⟨(some 33), (.mv (.c (.int .i64 0))), none, [], false⟩]) (.block 2 (.loop (
  .seq (
  .region [⟨(some 34), (.bin .lss (.t 33) (.t 32)), none, [], false⟩]) (
  .seq (.cond (.t 34) .skip (.exit 2)) (
  .seq (.block 3 (
  .seq (
  .region [⟨(some 35), (.iaddr 2 (.t 31) (.t 33)), none, [], false⟩, ⟨(some 36), (.load (some 2) (.t 35)), none, [], false⟩, ⟨(some 11), (.alloc [(.int .i64 0), (.bool false)]), none, [], false⟩, ⟨none, (.store 2 (.t 11) (.t 36)), none, [], false⟩]) (
  .region [⟨(some 37), (.mv (.t 7)), none, [], true⟩, ⟨(some 38), (.mv (.t 8)), none, [], true⟩, ⟨(some 39), (.mv (.t 7)), none, [], true⟩, ⟨(some 40), (.mv (.t 8)), none, [], true⟩, ⟨(some 41), (.iaddr 1 (.t 39) (.t 40)), none, [], true⟩, ⟨(some 42), (.load none (.t 41)), none, [], true⟩, ⟨(some 43), (.faddr 0 (.t 3)), none, [], true⟩, ⟨(some 44), (.load none (.t 43)), none, [], true⟩, ⟨(some 45), (.load (some 5) (.t 2)), none, [], true⟩, ⟨(some 46), (.load (some 2) (.t 9)), none, [], true⟩, ⟨(some 47), (.load (some 2) (.t 11)), none, [], true⟩, ⟨(some 48), (.call (.c (.fn (.func 65) [] [])) [(.t 45), (.t 46), (.t 47)]), none, [(42, (none, (.load none (.t 41)))), (44, (none, (.load none (.t 43))))], true⟩, ⟨(some 49), (.mlook (.st [(0, (1, .int)), (1, (1, .int))]) (.int .i64 0) false (.t 44) (.t 48)), none, [], true⟩, ⟨(some 50), (.bslice 1 1 [(.int .i64 0)] [(0, (1, (.t 49)))]), none, [(42, (none, (.load none (.t 41)))), (44, (none, (.load none (.t 43)))), (45, (none, (.load (some 5) (.t 2)))), (46, (none, (.load (some 2) (.t 9)))), (47, (none, (.load (some 2) (.t 11)))), (49, (none, (.mlook (.st [(0, (1, .int)), (1, (1, .int))]) (.int .i64 0) false (.t 44) (.t 48))))], true⟩, ⟨(some 51), (.append 1 8 (.t 42) (.t 50)), none, [], true⟩, ⟨(some 52), (.iaddr 1 (.t 37) (.t 38)), none, [], true⟩, ⟨none, (.store 1 (.t 52) (.t 51)), none, [], true⟩]))) (
  .region [⟨(some 53), (.bin .add (.t 33) (.c (.int .i64 1))), none, [], false⟩, ⟨(some 33), (.mv (.t 53)), none, [], false⟩]))))))))) (
  .region [⟨(some 54), (.bin .add (.t 24) (.c (.int .i64 1))), none, [], false⟩, ⟨(some 24), (.mv (.t 54)), none, [], false⟩]))))))) (
  .seq (
  .region [⟨(some 55), (.mv (.t 7)), none, [], false⟩, ⟨(some 56), (.call (.c (.fn (.func 66) [] [])) [(.t 55)]), none, [], false⟩, ⟨(some 12), (.mv (.t 56)), none, [], false⟩]) (
  .seq (
  .seq (
  .region [⟨(some 57), (.faddr 1 (.t 3)), none, [], false⟩, ⟨(some 58), (.load none (.t 57)), none, [], false⟩, ⟨(some 59), (.lenSl (.t 58)), none, [], false⟩, ⟨(some 60), (.mv (.c (.int .i64 0))), none, [], false⟩]) (.block 4 (.loop (
  .seq (
  .region [⟨(some 61), (.bin .lss (.t 60) (.t 59)), none, [], false⟩]) (
  .seq (.cond (.t 61) .skip (.exit 4)) (
  .seq (.block 5 (
  .seq (
  .region [⟨(some 62), (.mv (.t 60)), none, [], false⟩, ⟨(some 63), (.iaddr 2 (.t 58) (.t 60)), none, [], false⟩, ⟨(some 64), (.load (some 2) (.t 63)), none, [], false⟩, ⟨(some 14), (.alloc [(.int .i64 0), (.int .i64 0)]), none, [], false⟩, ⟨(some 13), (.mv (.t 62)), none, [], false⟩, ⟨none, (.store 2 (.t 14) (.t 64)), none, [], false⟩]) (
  .seq (
  .region [⟨(some 65), (.load (some 5) (.t 2)), none, [], false⟩, ⟨(some 66), (.load (some 2) (.t 14)), none, [], false⟩, ⟨(some 67), (.call (.c (.fn (.func 64) [] [])) [(.t 65), (.t 66)]), none, [], false⟩, ⟨(some 68), (.lenSl (.t 67)), none, [], false⟩, ⟨(some 69), (.mv (.c (.int .i64 0))), none, [], false⟩]) (.block 6 (.loop (
  .seq (
  .region [⟨(some 70), (.bin .lss (.t 69) (.t 68)), none, [], false⟩]) (
  .seq (.cond (.t 70) .skip (.exit 6)) (
  .seq (.block 7 (
  .seq (
  .region [⟨(some 71), (.mv (.t 69)), none, [], false⟩, ⟨(some 72), (.iaddr 2 (.t 67) (.t 69)), none, [], false⟩, ⟨(some 73), (.load (some 2) (.t 72)), none, [], false⟩, ⟨(some 16), (.alloc [(.int .i64 0), (.bool false)]), none, [], false⟩, ⟨(some 15), (.mv (.t 71)), none, [], false⟩, ⟨none, (.store 2 (.t 16) (.t 73)), none, [], false⟩]) (
  .seq (
  .region [⟨(some 74), (.faddr 1 (.t 16)), none, [], true⟩, ⟨(some 75), (.load none (.t 74)), none, [], true⟩, ⟨(some 76), (.mv (.t 75)), none, [], true⟩, ⟨(some 77), (.mv (.t 12)), (some (76, true)), [], true⟩, ⟨(some 78), (.mv (.t 7)), (some (76, true)), [], true⟩, ⟨(some 79), (.mv (.t 13)), (some (76, true)), [], true⟩, ⟨(some 80), (.iaddr 1 (.t 78) (.t 79)), (some (76, true)), [], true⟩, ⟨(some 81), (.load none (.t 80)), (some (76, true)), [], true⟩, ⟨(some 82), (.mv (.t 15)), (some (76, true)), [], true⟩, ⟨(some 83), (.iaddr 1 (.t 81) (.t 82)), (some (76, true)), [], true⟩, ⟨(some 84), (.load none (.t 83)), (some (76, true)), [], true⟩, ⟨(some 85), (.iaddr 1 (.t 77) (.t 84)), (some (76, true)), [], true⟩, ⟨(some 86), (.load none (.t 85)), (some (76, true)), [], true⟩, ⟨(some 87), (.mv (.t 12)), (some (76, true)), [], true⟩, ⟨(some 88), (.mv (.t 13)), (some (76, true)), [], true⟩, ⟨(some 89), (.iaddr 1 (.t 87) (.t 88)), (some (76, true)), [], true⟩, ⟨(some 90), (.load none (.t 89)), (some (76, true)), [], true⟩, ⟨(some 91), (.bin .eql (.t 86) (.t 90)), (some (76, true)), [], true⟩, ⟨(some 92), (.pick (.t 76) (.t 91) (.c (.bool false))), none, [], true⟩]) (.cond (.t 92) (
  .seq (
  .region [⟨(some 93), (.load (some 2) (.t 14)), none, [], true⟩, ⟨(some 94), (.load (some 5) (.t 2)), none, [], true⟩, ⟨(some 95), (.load (some 2) (.t 14)), none, [], true⟩, ⟨(some 96), (.load (some 2) (.t 16)), none, [], true⟩, ⟨(some 97), (.call (.c (.fn (.func 65) [] [])) [(.t 94), (.t 95), (.t 96)]), none, [(93, (none, (.load (some 2) (.t 14))))], true⟩, ⟨none, (.store 2 (.t 4) (.t 93)), none, [], true⟩, ⟨none, (.store 2 (.t 5) (.t 97)), none, [], true⟩, ⟨(some 6), (.mv (.c (.bool true))), none, [], true⟩]) .ret) .skip)))) (
  .region [⟨(some 98), (.bin .add (.t 69) (.c (.int .i64 1))), none, [], false⟩, ⟨(some 69), (.mv (.t 98)), none, [], false⟩]))))))))) (
  .region [⟨(some 99), (.bin .add (.t 60) (.c (.int .i64 1))), none, [], false⟩, ⟨(some 60), (.mv (.t 99)), none, [], false⟩]))))))) (
  .seq (
  .region [⟨(some 100), (.build [(.int .i64 0), (.int .i64 0)] []), none, [], false⟩, ⟨(some 101), (.build [(.int .i64 0), (.int .i64 0)] []), none, [], false⟩, ⟨none, (.store 2 (.t 4) (.t 100)), none, [], false⟩, ⟨none, (.store 2 (.t 5) (.t 101)), none, [], false⟩, ⟨(some 6), (.mv (.c (.bool false))), none, [], false⟩]) .ret))))))⟩
theorem c39 : compFunc Tryd.prog GL [3] Tryd.f39 = some l39 := by kernel_rfl
def l66 : LFunc := ⟨157, [(.tmp 2)],
  (
  .seq (
  .region [⟨(some 2), (.mv (.c .nils)), none, [], false⟩]) (
  .seq (
  .region [⟨(some 14), (.mv (.t 0)), none, [], false⟩, ⟨(some 15), (.lenSl (.t 14)), none, [], false⟩, ⟨(some 16), (.mkslice 1 8 [(.int .i64 0)] (.t 15) (.t 15)), none, [], false⟩, ⟨(some 3), (.mv (.t 16)), none, [], false⟩]) (
  .seq (
  .region [⟨(some 17), (.mv (.t 0)), none, [], false⟩, ⟨(some 18), (.lenSl (.t 17)), none, [], false⟩, ⟨(some 19), (.mkslice 1 8 [(.int .i64 0)] (.t 18) (.t 18)), none, [], false⟩, ⟨(some 4), (.mv (.t 19)), none, [], false⟩]) (
  .seq (
  .region [⟨(some 20), (.mv (.t 0)), none, [], false⟩, ⟨(some 21), (.lenSl (.t 20)), none, [], false⟩, ⟨(some 22), (.mkslice 1 8 [(.int .i64 0)] (.t 21) (.t 21)), none, [], false⟩, ⟨(some 5), (.mv (.t 22)), none, [], false⟩]) (
  .seq (
  .region [⟨(some 23), (.mv (.t 0)), none, [], false⟩, ⟨(some 24), (.lenSl (.t 23)), none, [], false⟩, ⟨(some 25), (.mkslice 1 8 [(.int .i64 0)] (.t 24) (.t 24)), none, [], false⟩, ⟨(some 6), (.mv (.t 25)), none, [], false⟩]) (
  .seq (
  .region [⟨(some 7), (.mv (.c .nils)), none, [], false⟩, ⟨(some 8), (.mv (.c .nils)), none, [], false⟩]) (
  .seq (
  .region [⟨(some 9), (.mv (.c (.int .i64 0))), none, [], false⟩]) (
  .seq (
  .seq (
  .region [⟨(some 26), (.mv (.t 0)), none, [], false⟩, ⟨(some 27), (.lenSl (.t 26)), none, [], false⟩, ⟨(some 28), (.mv (.c (.int .i64 0))), none, [], false⟩]) (.block 0 (.loop (
  .seq (
  .region [⟨(some 29), (.bin .lss (.t 28) (.t 27)), none, [], false⟩]) (
  .seq (.cond (.t 29) .skip (.exit 0)) (
  .seq (.block 1 (
  .seq (
  .region [⟨(some 30), (.mv (.t 28)), none, [], false⟩, ⟨(some 10), (.mv (.t 30)), none, [], false⟩]) (.scope (
  .seq (
  .seq (
  .region [⟨(some 31), (.mv (.t 4)), none, [], false⟩, ⟨(some 32), (.mv (.t 10)), none, [], false⟩, ⟨(some 33), (.iaddr 1 (.t 31) (.t 32)), none, [], false⟩, ⟨(some 34), (.load none (.t 33)), none, [], false⟩, ⟨(some 35), (.bin .eql (.t 34) (.c (.int .i64 0))), none, [], false⟩]) (.cond (.t 35) (
  .region [⟨(some 36), (.mv (.t 8)), none, [], false⟩, ⟨(some 37), (.mv (.t 10)), none, [], false⟩, ⟨(some 38), (.bslice 1 1 [(.int .i64 0)] [(0, (1, (.t 37)))]), none, [], false⟩, ⟨(some 39), (.append 1 8 (.t 36) (.t 38)), none, [], false⟩, ⟨(some 8), (.mv (.t 39)), none, [], false⟩]) .skip)) (
  .seq .skip (.block 2 (.loop (
  .seq (
  .seq (
  .region [⟨(some 40), (.mv (.t 8)), none, [], false⟩, ⟨(some 41), (.lenSl (.t 40)), none, [], false⟩, ⟨(some 42), (.bin .gtr (.t 41) (.c (.int .i64 0))), none, [], false⟩]) (.cond (.t 42) .skip (.exit 2))) (.block 3 (
  .seq (
  .region [⟨(some 43), (.mv (.t 8)), none, [], false⟩, ⟨(some 44), (.mv (.t 8)), none, [], false⟩, ⟨(some 45), (.lenSl (.t 44)), none, [], false⟩, ⟨(some 46), (.bin .sub (.t 45) (.c (.int .i64 1))), none, [], false⟩, ⟨(some 47), (.iaddr 1 (.t 43) (.t 46)), none, [], false⟩, ⟨(some 48), (.load none (.t 47)), none, [], false⟩, ⟨(some 11), (.mv (.t 48)), none, [], false⟩]) (
  .seq (
  .seq (
  .region [⟨(some 49), (.mv (.t 4)), none, [], false⟩, ⟨(some 50), (.mv (.t 11)), none, [], false⟩, ⟨(some 51), (.iaddr 1 (.t 49) (.t 50)), none, [], false⟩, ⟨(some 52), (.load none (.t 51)), none, [], false⟩, ⟨(some 53), (.bin .eql (.t 52) (.c (.int .i64 0))), none, [], false⟩]) (.cond (.t 53) (
  .seq (
  .region [⟨(some 54), (.mv (.t 9)), none, [], false⟩, ⟨(some 55), (.bin .add (.t 54) (.c (.int .i64 1))), none, [], false⟩, ⟨(some 9), (.mv (.t 55)), none, [], false⟩]) (
  .seq (
  .region [⟨(some 56), (.mv (.t 4)), none, [], false⟩, ⟨(some 57), (.mv (.t 11)), none, [], false⟩, ⟨(some 58), (.mv (.t 5)), none, [], false⟩, ⟨(some 59), (.mv (.t 11)), none, [], false⟩, ⟨(some 60), (.mv (.t 9)), none, [], false⟩, ⟨(some 61), (.mv (.t 9)), none, [], false⟩, ⟨(some 62), (.iaddr 1 (.t 56) (.t 57)), none, [], false⟩, ⟨none, (.store 1 (.t 62) (.t 60)), none, [], false⟩, ⟨(some 63), (.iaddr 1 (.t 58) (.t 59)), none, [], false⟩, ⟨none, (.store 1 (.t 63) (.t 61)), none, [], false⟩]) (
  .region [⟨(some 64), (.mv (.t 7)), none, [], false⟩, ⟨(some 65), (.mv (.t 11)), none, [], false⟩, ⟨(some 66), (.bslice 1 1 [(.int .i64 0)] [(0, (1, (.t 65)))]), none, [], false⟩, ⟨(some 67), (.append 1 8 (.t 64) (.t 66)), none, [], false⟩, ⟨(some 7), (.mv (.t 67)), none, [], false⟩]))) .skip)) (
  .seq (.block 4 (.loop (
  .seq (
  .seq (
  .region [⟨(some 68), (.mv (.t 6)), none, [], true⟩, ⟨(some 69), (.mv (.t 11)), none, [], true⟩, ⟨(some 70), (.iaddr 1 (.t 68) (.t 69)), none, [], true⟩, ⟨(some 71), (.load none (.t 70)), none, [], true⟩, ⟨(some 72), (.mv (.t 0)), none, [], true⟩, ⟨(some 73), (.mv (.t 11)), none, [], true⟩, ⟨(some 74), (.iaddr 1 (.t 72) (.t 73)), none, [], true⟩, ⟨(some 75), (.load none (.t 74)), none, [], true⟩, ⟨(some 76), (.lenSl (.t 75)), none, [], true⟩, ⟨(some 77), (.bin .lss (.t 71) (.t 76)), none, [], true⟩]) (.cond (.t 77) .skip (.exit 4))) (.block 5 (
  .seq (
  .region [⟨(some 78), (.mv (.t 0)), none, [], true⟩, ⟨(some 79), (.mv (.t 11)), none, [], true⟩, ⟨(some 80), (.iaddr 1 (.t 78) (.t 79)), none, [], true⟩, ⟨(some 81), (.load none (.t 80)), none, [], true⟩, ⟨(some 82), (.mv (.t 6)), none, [], true⟩, ⟨(some 83), (.mv (.t 11)), none, [], true⟩, ⟨(some 84), (.iaddr 1 (.t 82) (.t 83)), none, [], true⟩, ⟨(some 85), (.load none (.t 84)), none, [], true⟩, ⟨(some 86), (.iaddr 1 (.t 81) (.t 85)), none, [], true⟩, ⟨(some 87), (.load none (.t 86)), none, [], true⟩, ⟨(some 12), (.mv (.t 87)), none, [], true⟩]) (
  .seq (
  .seq (
  .region [⟨(some 88), (.mv (.t 4)), none, [], false⟩, ⟨(some 89), (.mv (.t 12)), none, [], false⟩, ⟨(some 90), (.iaddr 1 (.t 88) (.t 89)), none, [], false⟩, ⟨(some 91), (.load none (.t 90)), none, [], false⟩, ⟨(some 92), (.bin .eql (.t 91) (.c (.int .i64 0))), none, [], false⟩]) (.cond (.t 92) (
  .seq (
  .region [⟨(some 93), (.mv (.t 8)), none, [], false⟩, ⟨(some 94), (.mv (.t 12)), none, [], false⟩, ⟨(some 95), (.bslice 1 1 [(.int .i64 0)] [(0, (1, (.t 94)))]), none, [], false⟩, ⟨(some 96), (.append 1 8 (.t 93) (.t 95)), none, [], false⟩, ⟨(some 8), (.mv (.t 96)), none, [], false⟩]) (.exit 3)) .skip)) (
  .seq (
  .seq (
  .region [⟨(some 97), (.mv (.t 3)), none, [], false⟩, ⟨(some 98), (.mv (.t 12)), none, [], false⟩, ⟨(some 99), (.iaddr 1 (.t 97) (.t 98)), none, [], false⟩, ⟨(some 100), (.load none (.t 99)), none, [], false⟩, ⟨(some 101), (.bin .eql (.t 100) (.c (.int .i64 0))), none, [], false⟩]) (.cond (.t 101) (
  .region [⟨(some 102), (.mv (.t 5)), none, [], true⟩, ⟨(some 103), (.mv (.t 11)), none, [], true⟩, ⟨(some 104), (.mv (.t 5)), none, [], true⟩, ⟨(some 105), (.mv (.t 11)), none, [], true⟩, ⟨(some 106), (.iaddr 1 (.t 104) (.t 105)), none, [], true⟩, ⟨(some 107), (.load none (.t 106)), none, [], true⟩, ⟨(some 108), (.mv (.t 5)), none, [], true⟩, ⟨(some 109), (.mv (.t 12)), none, [], true⟩, ⟨(some 110), (.iaddr 1 (.t 108) (.t 109)), none, [], true⟩, ⟨(some 111), (.load none (.t 110)), none, [], true⟩, ⟨(some 112), (.minmax false [(.t 107), (.t 111)]), none, [], true⟩, ⟨(some 113), (.iaddr 1 (.t 102) (.t 103)), none, [], true⟩, ⟨none, (.store 1 (.t 113) (.t 112)), none, [], true⟩]) .skip)) (
  .region [⟨(some 114), (.mv (.t 6)), none, [], false⟩, ⟨(some 115), (.mv (.t 11)), none, [], false⟩, ⟨(some 116), (.iaddr 1 (.t 114) (.t 115)), none, [], false⟩, ⟨(some 117), (.load none (.t 116)), none, [], false⟩, ⟨(some 118), (.bin .add (.t 117) (.c (.int .i64 1))), none, [], false⟩, ⟨(some 119), (.iaddr 1 (.t 114) (.t 115)), none, [], false⟩, ⟨none, (.store 1 (.t 119) (.t 118)), none, [], false⟩])))))))) (
  .seq (
  .region [⟨(some 120), (.mv (.t 8)), none, [], false⟩, ⟨(some 121), (.mv (.t 8)), none, [], false⟩, ⟨(some 122), (.lenSl (.t 121)), none, [], false⟩, ⟨(some 123), (.bin .sub (.t 122) (.c (.int .i64 1))), none, [], false⟩, ⟨(some 124), (.slice 1 (.t 120) none (some (.t 123))), none, [], false⟩, ⟨(some 8), (.mv (.t 124)), none, [], false⟩]) (
  .seq (
  .seq (
  .region [⟨(some 125), (.mv (.t 5)), none, [], true⟩, ⟨(some 126), (.mv (.t 11)), none, [], true⟩, ⟨(some 127), (.iaddr 1 (.t 125) (.t 126)), none, [], true⟩, ⟨(some 128), (.load none (.t 127)), none, [], true⟩, ⟨(some 129), (.mv (.t 4)), none, [], true⟩, ⟨(some 130), (.mv (.t 11)), none, [], true⟩, ⟨(some 131), (.iaddr 1 (.t 129) (.t 130)), none, [], true⟩, ⟨(some 132), (.load none (.t 131)), none, [], true⟩, ⟨(some 133), (.bin .lss (.t 128) (.t 132)), none, [], true⟩]) (.cond (.t 133) (.exit 3) .skip)) (
  .seq (
  .region [⟨(some 13), (.mv (.c (.int .i64 (-1)))), none, [], false⟩]) (.block 6 (.loop (
  .seq (
  .seq (
  .region [⟨(some 134), (.mv (.t 13)), none, [], false⟩, ⟨(some 135), (.mv (.t 11)), none, [], false⟩, ⟨(some 136), (.bin .neq (.t 134) (.t 135)), none, [], false⟩]) (.cond (.t 136) .skip (.exit 6))) (.block 7 (
  .seq (
  .region [⟨(some 137), (.mv (.t 7)), none, [], false⟩, ⟨(some 138), (.mv (.t 7)), none, [], false⟩, ⟨(some 139), (.lenSl (.t 138)), none, [], false⟩, ⟨(some 140), (.bin .sub (.t 139) (.c (.int .i64 1))), none, [], false⟩, ⟨(some 141), (.iaddr 1 (.t 137) (.t 140)), none, [], false⟩, ⟨(some 142), (.load none (.t 141)), none, [], false⟩, ⟨(some 13), (.mv (.t 142)), none, [], false⟩]) (
  .seq (
  .region [⟨(some 143), (.mv (.t 7)), none, [], false⟩, ⟨(some 144), (.mv (.t 7)), none, [], false⟩, ⟨(some 145), (.lenSl (.t 144)), none, [], false⟩, ⟨(some 146), (.bin .sub (.t 145) (.c (.int .i64 1))), none, [], false⟩, ⟨(some 147), (.slice 1 (.t 143) none (some (.t 146))), none, [], false⟩, ⟨(some 7), (.mv (.t 147)), none, [], false⟩]) (
  .region [⟨(some 148), (.mv (.t 3)), none, [], false⟩, ⟨(some 149), (.mv (.t 13)), none, [], false⟩, ⟨(some 150), (.mv (.t 4)), none, [], false⟩, ⟨(some 151), (.mv (.t 11)), none, [], false⟩, ⟨(some 152), (.iaddr 1 (.t 150) (.t 151)), none, [], false⟩, ⟨(some 153), (.load none (.t 152)), none, [], false⟩, ⟨(some 154), (.iaddr 1 (.t 148) (.t 149)), none, [], false⟩, ⟨none, (.store 1 (.t 154) (.t 153)), none, [], false⟩])))))))))))))))))))))) (
  .region [⟨(some 155), (.bin .add (.t 28) (.c (.int .i64 1))), none, [], false⟩, ⟨(some 28), (.mv (.t 155)), none, [], false⟩]))))))) (
  .seq (
  .region [⟨(some 156), (.mv (.t 3)), none, [], false⟩, ⟨(some 2), (.mv (.t 156)), none, [], false⟩]) .ret)))))))))⟩
theorem c66 : compFunc Tryd.prog GL [] Tryd.f66 = some l66 := by kernel_rfl
def l63 : LFunc := ⟨36, [(.tmp 2)],
  (
  .seq (
  .region [⟨(some 2), (.mv (.c .nils)), none, [], false⟩]) (
  .seq (
  .region [⟨(some 3), (.mv (.c (.int .i64 0))), none, [], false⟩]) (
  .seq (
  .seq (
  .region [⟨(some 9), (.mv (.t 0)), none, [], false⟩, ⟨(some 10), (.lenSl (.t 9)), none, [], false⟩, ⟨(some 11), (.mv (.c (.int .i64 0))), none, [], false⟩]) (.block 0 (.loop (
  .seq (
  .region [⟨(some 12), (.bin .lss (.t 11) (.t 10)), none, [], false⟩]) (
  .seq (.cond (.t 12) .skip (.exit 0)) (
  .seq (.block 1 (
  .seq (
  .region [⟨(some 13), (.iaddr 1 (.t 9) (.t 11)), none, [], false⟩, ⟨(some 14), (.load none (.t 13)), none, [], false⟩, ⟨(some 5), (.mv (.t 14)), none, [], false⟩]) (
  .seq (
  .region [⟨(some 15), (.mv (.t 3)), none, [], false⟩, ⟨(some 16), (.mv (.t 5)), none, [], false⟩, ⟨(some 17), (.lenSl (.t 16)), none, [], false⟩, ⟨(some 18), (.bin .add (.t 15) (.t 17)), none, [], false⟩, ⟨(some 3), (.mv (.t 18)), none, [], false⟩]) (
  .seq (
  .region [⟨(some 19), (.mv (.t 3)), none, [], false⟩, ⟨(some 20), (.bin .lss (.t 19) (.c (.int .i64 0))), none, [], false⟩]) (.cond (.t 20) .bad .skip))))) (
  .region [⟨(some 22), (.bin .add (.t 11) (.c (.int .i64 1))), none, [], false⟩, ⟨(some 11), (.mv (.t 22)), none, [], false⟩]))))))) (
  .seq (
  .region [⟨(some 23), (.mv (.t 3)), none, [], false⟩, ⟨(some 24), (.call (.c (.fn (.func 78) [] [])) [(.c .nils), (.t 23)]), none, [], false⟩, ⟨(some 6), (.mv (.t 24)), none, [], false⟩]) (
  .seq (
  .seq (
  .region [⟨(some 25), (.mv (.t 0)), none, [], false⟩, ⟨(some 26), (.lenSl (.t 25)), none, [], false⟩, ⟨(some 27), (.mv (.c (.int .i64 0))), none, [], false⟩]) (.block 2 (.loop (
  .seq (
  .region [⟨(some 28), (.bin .lss (.t 27) (.t 26)), none, [], false⟩]) (
  .seq (.cond (.t 28) .skip (.exit 2)) (
  .seq (.block 3 (
  .seq (
  .region [⟨(some 29), (.iaddr 1 (.t 25) (.t 27)), none, [], false⟩, ⟨(some 30), (.load none (.t 29)), none, [], false⟩, ⟨(some 8), (.mv (.t 30)), none, [], false⟩]) (
  .region [⟨(some 31), (.mv (.t 6)), none, [], false⟩, ⟨(some 32), (.mv (.t 8)), none, [], false⟩, ⟨(some 33), (.append 1 8 (.t 31) (.t 32)), none, [], false⟩, ⟨(some 6), (.mv (.t 33)), none, [], false⟩]))) (
  .region [⟨(some 34), (.bin .add (.t 27) (.c (.int .i64 1))), none, [], false⟩, ⟨(some 27), (.mv (.t 34)), none, [], false⟩]))))))) (
  .seq (
  .region [⟨(some 35), (.mv (.t 6)), none, [], false⟩, ⟨(some 2), (.mv (.t 35)), none, [], false⟩]) .ret))))))⟩
theorem c63 : compFunc Tryd.prog GL [] Tryd.f63 = some l63 := by kernel_rfl
def l78 : LFunc := ⟨27, [(.tmp 4)],
  (
  .seq (
  .region [⟨(some 4), (.mv (.c .nils)), none, [], false⟩]) (
  .seq (
  .seq (
  .region [⟨(some 5), (.mv (.t 1)), none, [], false⟩, ⟨(some 6), (.bin .lss (.t 5) (.c (.int .i64 0))), none, [], false⟩]) (.cond (.t 6) .bad .skip)) (
  .seq (
  .seq (
  .region [⟨(some 8), (.mv (.t 1)), none, [], false⟩, ⟨(some 9), (.mv (.t 0)), none, [], false⟩, ⟨(some 10), (.capZ (.t 9)), none, [], false⟩, ⟨(some 11), (.mv (.t 0)), none, [], false⟩, ⟨(some 12), (.lenSl (.t 11)), none, [], false⟩, ⟨(some 13), (.bin .sub (.t 10) (.t 12)), none, [], false⟩, ⟨(some 14), (.bin .sub (.t 8) (.t 13)), none, [], false⟩, ⟨(some 1), (.mv (.t 14)), none, [], false⟩]) (
  .seq (
  .region [⟨(some 15), (.mv (.t 1)), none, [], false⟩, ⟨(some 16), (.bin .gtr (.t 15) (.c (.int .i64 0))), none, [], false⟩]) (.cond (.t 16) (
  .region [⟨(some 17), (.mv (.t 0)), none, [], false⟩, ⟨(some 18), (.mv (.t 0)), none, [], false⟩, ⟨(some 19), (.capZ (.t 18)), none, [], false⟩, ⟨(some 20), (.slice 1 (.t 17) none (some (.t 19))), none, [], false⟩, ⟨(some 21), (.mv (.t 1)), none, [], false⟩, ⟨(some 22), (.appz 1 8 [(.int .i64 0)] (.t 20) (.t 21)), none, [], false⟩, ⟨(some 23), (.mv (.t 0)), none, [], false⟩, ⟨(some 24), (.lenSl (.t 23)), none, [], false⟩, ⟨(some 25), (.slice 1 (.t 22) none (some (.t 24))), none, [], false⟩, ⟨(some 0), (.mv (.t 25)), none, [], false⟩]) .skip))) (
  .seq (
  .region [⟨(some 26), (.mv (.t 0)), none, [], false⟩, ⟨(some 4), (.mv (.t 26)), none, [], false⟩]) .ret))))⟩
theorem c78 : compFunc Tryd.prog GL [] Tryd.f78 = some l78 := by kernel_rfl
end Go.Proofs.YtohldpfjnllkdaaDoor
