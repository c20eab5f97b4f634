/- Plain forms of functions, by program. -/
import Derived.Test.YtohldpfjnllkdaaDoorProg
import Derived.Test.YtohldpfjnllkdaaDoorPvComp
import Derived.Test.YtohldpfjnllkdaaDoorGl
import Derived.KernelRfl
set_option linter.unusedSimpArgs false
set_option linter.unusedVariables false
namespace Go.Proofs.YtohldpfjnllkdaaDoor
open Go Go.Pv
set_option maxRecDepth 100000
def l24 : LFunc := ⟨101, [(.tmp 2)],
  (
  .seq (
  .region [⟨(some 1), (.box true (.t 0)), none, [], false⟩, ⟨(some 2), (.mv (.c (.bool false))), none, [], false⟩]) (
  .seq (
  .seq (
  .region [⟨(some 12), (.faddr 0 (.t 1)), none, [], false⟩, ⟨(some 13), (.load none (.t 12)), none, [], false⟩, ⟨(some 14), (.bin .lss (.t 13) (.c (.int .i64 1))), none, [], false⟩, ⟨(some 15), (.mv (.t 14)), none, [], false⟩, ⟨(some 16), (.faddr 0 (.t 1)), (some (15, false)), [], false⟩, ⟨(some 17), (.load none (.t 16)), (some (15, false)), [], false⟩, ⟨(some 18), (.bin .gtr (.t 17) (.c (.int .i64 64))), (some (15, false)), [], false⟩, ⟨(some 19), (.pick (.t 15) (.c (.bool true)) (.t 18)), none, [], false⟩, ⟨(some 20), (.mv (.t 19)), none, [], false⟩, ⟨(some 21), (.faddr 2 (.t 1)), (some (20, false)), [], false⟩, ⟨(some 22), (.load none (.t 21)), (some (20, false)), [], false⟩, ⟨(some 23), (.lenSl (.t 22)), (some (20, false)), [], false⟩, ⟨(some 24), (.bin .gtr (.t 23) (.c (.int .i64 3000))), (some (20, false)), [], false⟩, ⟨(some 25), (.pick (.t 20) (.c (.bool true)) (.t 24)), none, [], false⟩]) (.cond (.t 25) (
  .seq (
  .region [⟨(some 2), (.mv (.c (.bool false))), none, [], false⟩]) .ret) .skip)) (
  .seq (
  .region [⟨(some 26), (.mkfn (.func 46) [] [(.t 1)]), none, [], false⟩, ⟨(some 3), (.mv (.t 26)), none, [], false⟩]) (
  .seq (
  .seq (
  .region [⟨(some 27), (.faddr 1 (.t 1)), none, [], false⟩, ⟨(some 28), (.load none (.t 27)), none, [], false⟩, ⟨(some 29), (.lenSl (.t 28)), none, [], false⟩, ⟨(some 30), (.mv (.c (.int .i64 0))), none, [], false⟩]) (.block 0 (.loop (
  .seq (
  .region [⟨(some 31), (.bin .lss (.t 30) (.t 29)), none, [], false⟩]) (
  .seq (.cond (.t 31) .skip (.exit 0)) (
  .seq (.block 1 (
  .seq (
  .region [⟨(some 32), (.mv (.t 30)), none, [], false⟩, ⟨(some 33), (.iaddr 1 (.t 28) (.t 30)), none, [], false⟩, ⟨(some 34), (.load none (.t 33)), none, [], false⟩, ⟨(some 4), (.mv (.t 32)), none, [], false⟩, ⟨(some 5), (.mv (.t 34)), none, [], false⟩]) (
  .seq (
  .region [⟨(some 35), (.mv (.t 3)), none, [], false⟩, ⟨(some 36), (.mv (.t 5)), none, [], false⟩, ⟨(some 37), (.call (.t 35) [(.t 36)]), none, [], false⟩, ⟨(some 38), (.un .not (.t 37)), none, [], false⟩, ⟨(some 39), (.mv (.t 38)), none, [], false⟩, ⟨(some 40), (.mv (.t 4)), (some (39, false)), [], false⟩, ⟨(some 41), (.bin .gtr (.t 40) (.c (.int .i64 0))), (some (39, false)), [], false⟩, ⟨(some 42), (.mv (.t 41)), (some (39, false)), [], false⟩, ⟨(some 43), (.faddr 1 (.t 1)), (some (42, true)), [], false⟩, ⟨(some 44), (.load none (.t 43)), (some (42, true)), [], false⟩, ⟨(some 45), (.mv (.t 4)), (some (42, true)), [], false⟩, ⟨(some 46), (.bin .sub (.t 45) (.c (.int .i64 1))), (some (42, true)), [], false⟩, ⟨(some 47), (.iaddr 1 (.t 44) (.t 46)), (some (42, true)), [], false⟩, ⟨(some 48), (.load none (.t 47)), (some (42, true)), [], false⟩, ⟨(some 49), (.mv (.t 5)), (some (42, true)), [], false⟩, ⟨(some 50), (.bin .geq (.t 48) (.t 49)), (some (42, true)), [], false⟩, ⟨(some 51), (.pick (.t 42) (.t 50) (.c (.bool false))), (some (39, false)), [], false⟩, ⟨(some 52), (.pick (.t 39) (.c (.bool true)) (.t 51)), none, [], false⟩]) (.cond (.t 52) (
  .seq (
  .region [⟨(some 2), (.mv (.c (.bool false))), none, [], false⟩]) .ret) .skip)))) (
  .region [⟨(some 53), (.bin .add (.t 30) (.c (.int .i64 1))), none, [], false⟩, ⟨(some 30), (.mv (.t 53)), none, [], false⟩]))))))) (
  .seq (
  .seq (
  .region [⟨(some 54), (.faddr 2 (.t 1)), none, [], false⟩, ⟨(some 55), (.load none (.t 54)), none, [], false⟩, ⟨(some 56), (.lenSl (.t 55)), none, [], false⟩, ⟨(some 57), (.mv (.c (.int .i64 0))), none, [], false⟩]) (.block 2 (.loop (
  .seq (
  .region [⟨(some 58), (.bin .lss (.t 57) (.t 56)), none, [], false⟩]) (
  .seq (.cond (.t 58) .skip (.exit 2)) (
  .seq (.block 3 (
  .seq (
  .region [⟨(some 59), (.iaddr 1 (.t 55) (.t 57)), none, [], false⟩, ⟨(some 60), (.load none (.t 59)), none, [], false⟩, ⟨(some 7), (.mv (.t 60)), none, [], false⟩]) (
  .seq (
  .seq (
  .region [⟨(some 61), (.mv (.t 7)), none, [], false⟩, ⟨(some 62), (.lenSl (.t 61)), none, [], false⟩, ⟨(some 63), (.faddr 0 (.t 1)), none, [], false⟩, ⟨(some 64), (.load none (.t 63)), none, [], false⟩, ⟨(some 65), (.bin .neq (.t 62) (.t 64)), none, [], false⟩]) (.cond (.t 65) (
  .seq (
  .region [⟨(some 2), (.mv (.c (.bool false))), none, [], false⟩]) .ret) .skip)) (
  .seq (
  .region [⟨(some 66), (.mv (.t 7)), none, [], false⟩, ⟨(some 67), (.lenSl (.t 66)), none, [], false⟩, ⟨(some 68), (.mv (.c (.int .i64 0))), none, [], false⟩]) (.block 4 (.loop (
  .seq (
  .region [⟨(some 69), (.bin .lss (.t 68) (.t 67)), none, [], false⟩]) (
  .seq (.cond (.t 69) .skip (.exit 4)) (
  .seq (.block 5 (
  .seq (
  .region [⟨(some 70), (.iaddr 1 (.t 66) (.t 68)), none, [], false⟩, ⟨(some 71), (.load none (.t 70)), none, [], false⟩, ⟨(some 9), (.mv (.t 71)), none, [], false⟩]) (
  .seq (
  .region [⟨(some 72), (.mv (.t 9)), none, [], false⟩, ⟨(some 73), (.lenSl (.t 72)), none, [], false⟩, ⟨(some 74), (.mv (.c (.int .i64 0))), none, [], false⟩]) (.block 6 (.loop (
  .seq (
  .region [⟨(some 75), (.bin .lss (.t 74) (.t 73)), none, [], false⟩]) (
  .seq (.cond (.t 75) .skip (.exit 6)) (
  .seq (.block 7 (
  .seq (
  .region [⟨(some 76), (.mv (.t 74)), none, [], false⟩, ⟨(some 77), (.iaddr 2 (.t 72) (.t 74)), none, [], false⟩, ⟨(some 78), (.load (some 2) (.t 77)), none, [], false⟩, ⟨(some 11), (.alloc [(.int .i64 0), (.bool false)]), none, [], false⟩, ⟨(some 10), (.mv (.t 76)), none, [], false⟩, ⟨none, (.store 2 (.t 11) (.t 78)), none, [], false⟩]) (
  .seq (
  .region [⟨(some 79), (.mv (.t 3)), none, [], true⟩, ⟨(some 80), (.faddr 0 (.t 11)), none, [], true⟩, ⟨(some 81), (.load none (.t 80)), none, [], true⟩, ⟨(some 82), (.call (.t 79) [(.t 81)]), none, [], true⟩, ⟨(some 83), (.un .not (.t 82)), none, [], true⟩, ⟨(some 84), (.mv (.t 83)), none, [], true⟩, ⟨(some 85), (.mv (.t 10)), (some (84, false)), [], true⟩, ⟨(some 86), (.bin .gtr (.t 85) (.c (.int .i64 0))), (some (84, false)), [], true⟩, ⟨(some 87), (.mv (.t 86)), (some (84, false)), [], true⟩, ⟨(some 88), (.mv (.t 9)), (some (87, true)), [], true⟩, ⟨(some 89), (.mv (.t 10)), (some (87, true)), [], true⟩, ⟨(some 90), (.bin .sub (.t 89) (.c (.int .i64 1))), (some (87, true)), [], true⟩, ⟨(some 91), (.iaddr 2 (.t 88) (.t 90)), (some (87, true)), [], true⟩, ⟨(some 92), (.load (some 2) (.t 91)), (some (87, true)), [], true⟩, ⟨(some 93), (.load (some 2) (.t 11)), (some (87, true)), [], true⟩, ⟨(some 94), (.call (.c (.fn (.func 47) [] [])) [(.t 92), (.t 93)]), (some (87, true)), [], true⟩, ⟨(some 95), (.bin .geq (.t 94) (.c (.int .i64 0))), (some (87, true)), [], true⟩, ⟨(some 96), (.pick (.t 87) (.t 95) (.c (.bool false))), (some (84, false)), [], true⟩, ⟨(some 97), (.pick (.t 84) (.c (.bool true)) (.t 96)), none, [], true⟩]) (.cond (.t 97) (
  .seq (
  .region [⟨(some 2), (.mv (.c (.bool false))), none, [], false⟩]) .ret) .skip)))) (
  .region [⟨(some 98), (.bin .add (.t 74) (.c (.int .i64 1))), none, [], false⟩, ⟨(some 74), (.mv (.t 98)), none, [], false⟩]))))))))) (
  .region [⟨(some 99), (.bin .add (.t 68) (.c (.int .i64 1))), none, [], false⟩, ⟨(some 68), (.mv (.t 99)), none, [], false⟩])))))))))) (
  .region [⟨(some 100), (.bin .add (.t 57) (.c (.int .i64 1))), none, [], false⟩, ⟨(some 57), (.mv (.t 100)), none, [], false⟩]))))))) (
  .seq (
  .region [⟨(some 2), (.mv (.c (.bool true))), none, [], false⟩]) .ret))))))⟩
theorem c24 : compFunc Tryd.prog GL [] Tryd.f24 = some l24 := by kernel_rfl
def l46 : LFunc := ⟨13, [(.tmp 3)],
  (
  .seq (
  .region [⟨(some 3), (.mv (.c (.bool false))), none, [], false⟩]) (
  .seq (
  .region [⟨(some 4), (.mv (.t 0)), none, [], false⟩, ⟨(some 5), (.bin .geq (.t 4) (.c (.int .i64 0))), none, [], false⟩, ⟨(some 6), (.mv (.t 5)), none, [], false⟩, ⟨(some 7), (.mv (.t 0)), (some (6, true)), [], false⟩, ⟨(some 8), (.faddr 2 (.t 1)), (some (6, true)), [], false⟩, ⟨(some 9), (.load none (.t 8)), (some (6, true)), [], false⟩, ⟨(some 10), (.lenSl (.t 9)), (some (6, true)), [], false⟩, ⟨(some 11), (.bin .lss (.t 7) (.t 10)), (some (6, true)), [], false⟩, ⟨(some 12), (.pick (.t 6) (.t 11) (.c (.bool false))), none, [], false⟩, ⟨(some 3), (.mv (.t 12)), none, [], false⟩]) .ret))⟩
theorem c46 : compFunc Tryd.prog GL [] Tryd.f46 = some l46 := by kernel_rfl
def l47 : LFunc := ⟨23, [(.tmp 4)],
  (
  .seq (
  .region [⟨(some 2), (.box true (.t 0)), none, [], false⟩, ⟨(some 3), (.box true (.t 1)), none, [], false⟩, ⟨(some 4), (.mv (.c (.int .i64 0))), none, [], false⟩]) (
  .seq (
  .seq (
  .region [⟨(some 6), (.faddr 0 (.t 2)), none, [], false⟩, ⟨(some 7), (.load none (.t 6)), none, [], false⟩, ⟨(some 8), (.faddr 0 (.t 3)), none, [], false⟩, ⟨(some 9), (.load none (.t 8)), none, [], false⟩, ⟨(some 10), (.call (.c (.fn (.func 72) [] [])) [(.t 7), (.t 9)]), none, [], false⟩, ⟨(some 5), (.mv (.t 10)), none, [], false⟩]) (
  .seq (
  .region [⟨(some 11), (.mv (.t 5)), none, [], false⟩, ⟨(some 12), (.bin .neq (.t 11) (.c (.int .i64 0))), none, [], false⟩, ⟨(some 13), (.mv (.t 12)), none, [], false⟩, ⟨(some 14), (.faddr 1 (.t 2)), (some (13, false)), [], false⟩, ⟨(some 15), (.load none (.t 14)), (some (13, false)), [], false⟩, ⟨(some 16), (.faddr 1 (.t 3)), (some (13, false)), [], false⟩, ⟨(some 17), (.load none (.t 16)), (some (13, false)), [], false⟩, ⟨(some 18), (.eq false .bool (.t 15) (.t 17)), (some (13, false)), [], false⟩, ⟨(some 19), (.pick (.t 13) (.c (.bool true)) (.t 18)), none, [], false⟩]) (.cond (.t 19) (
  .seq (
  .region [⟨(some 20), (.mv (.t 5)), none, [], false⟩, ⟨(some 4), (.mv (.t 20)), none, [], false⟩]) .ret) .skip))) (
  .seq (
  .seq (
  .region [⟨(some 21), (.faddr 1 (.t 3)), none, [], false⟩, ⟨(some 22), (.load none (.t 21)), none, [], false⟩]) (.cond (.t 22) (
  .seq (
  .region [⟨(some 4), (.mv (.c (.int .i64 (-1)))), none, [], false⟩]) .ret) .skip)) (
  .seq (
  .region [⟨(some 4), (.mv (.c (.int .i64 1))), none, [], false⟩]) .ret))))⟩
theorem c47 : compFunc Tryd.prog GL [] Tryd.f47 = some l47 := by kernel_rfl
def l72 : LFunc := ⟨20, [(.tmp 4)],
  (
  .seq (
  .region [⟨(some 4), (.mv (.c (.int .i64 0))), none, [], false⟩]) (
  .seq (
  .region [⟨(some 7), (.mv (.t 0)), none, [], false⟩, ⟨(some 8), (.call (.c (.fn (.func 81) [] [])) [(.t 7)]), none, [], false⟩, ⟨(some 5), (.mv (.t 8)), none, [], false⟩]) (
  .seq (
  .region [⟨(some 9), (.mv (.t 1)), none, [], false⟩, ⟨(some 10), (.call (.c (.fn (.func 81) [] [])) [(.t 9)]), none, [], false⟩, ⟨(some 6), (.mv (.t 10)), none, [], false⟩]) (
  .seq (
  .seq (
  .region [⟨(some 11), (.mv (.t 5)), none, [], false⟩]) (.cond (.t 11) (
  .seq (
  .seq (
  .region [⟨(some 12), (.mv (.t 6)), none, [], false⟩]) (.cond (.t 12) (
  .seq (
  .region [⟨(some 4), (.mv (.c (.int .i64 0))), none, [], false⟩]) .ret) .skip)) (
  .seq (
  .region [⟨(some 4), (.mv (.c (.int .i64 (-1)))), none, [], false⟩]) .ret)) .skip)) (
  .seq (
  .seq (
  .region [⟨(some 13), (.mv (.t 6)), none, [], false⟩]) (.cond (.t 13) (
  .seq (
  .region [⟨(some 4), (.mv (.c (.int .i64 1))), none, [], false⟩]) .ret) .skip)) (
  .seq (
  .seq (
  .region [⟨(some 14), (.mv (.t 0)), none, [], false⟩, ⟨(some 15), (.mv (.t 1)), none, [], false⟩, ⟨(some 16), (.bin .lss (.t 14) (.t 15)), none, [], false⟩]) (.cond (.t 16) (
  .seq (
  .region [⟨(some 4), (.mv (.c (.int .i64 (-1)))), none, [], false⟩]) .ret) .skip)) (
  .seq (
  .seq (
  .region [⟨(some 17), (.mv (.t 0)), none, [], false⟩, ⟨(some 18), (.mv (.t 1)), none, [], false⟩, ⟨(some 19), (.bin .gtr (.t 17) (.t 18)), none, [], false⟩]) (.cond (.t 19) (
  .seq (
  .region [⟨(some 4), (.mv (.c (.int .i64 1))), none, [], false⟩]) .ret) .skip)) (
  .seq (
  .region [⟨(some 4), (.mv (.c (.int .i64 0))), none, [], false⟩]) .ret))))))))⟩
theorem c72 : compFunc Tryd.prog GL [] Tryd.f72 = some l72 := by kernel_rfl
def l81 : LFunc := ⟨6, [(.tmp 2)],
  (
  .seq (
  .region [⟨(some 2), (.mv (.c (.bool false))), none, [], false⟩]) (
  .seq (
  .region [⟨(some 3), (.mv (.t 0)), none, [], false⟩, ⟨(some 4), (.mv (.t 0)), none, [], false⟩, ⟨(some 5), (.bin .neq (.t 3) (.t 4)), none, [], false⟩, ⟨(some 2), (.mv (.t 5)), none, [], false⟩]) .ret))⟩
theorem c81 : compFunc Tryd.prog GL [] Tryd.f81 = some l81 := by kernel_rfl
end Go.Proofs.YtohldpfjnllkdaaDoor
