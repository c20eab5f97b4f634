/- Plain forms of functions, by program. -/
import Derived.Test.YtohldpfjnllkdaaDoorProg
import Derived.Test.YtohldpfjnllkdaaDoorPvComp
import Derived.Test.YtohldpfjnllkdaaDoorGl
import Derived.KernelRfl
set_option linter.unusedSimpArgs false
set_option linter.unusedVariables false
namespace Go.Proofs.YtohldpfjnllkdaaDoor
open Go Go.Pv
set_option maxRecDepth 100000
def l7 : LFunc := ⟨120, [(.tmp 2)],
  (
  .seq (
  .region [⟨(some 1), (.box true (.t 0)), none, [], false⟩, ⟨(some 2), (.mv (.c (.bool false))), none, [], false⟩]) (
  .seq (
  .region [⟨(some 15), (.call (.c (.fn (.func 8) [] [])) []), none, [], false⟩, ⟨(some 3), (.mv (.t 15)), none, [], false⟩]) (
  .seq (
  .seq (
  .region [⟨(some 16), (.load (some 3) (.t 1)), none, [], false⟩, ⟨(some 17), (.call (.c (.fn (.func 9) [] [])) [(.t 16)]), none, [], false⟩, ⟨(some 18), (.un .not (.t 17)), none, [], false⟩, ⟨(some 19), (.mv (.t 18)), none, [], false⟩, ⟨(some 20), (.load (some 3) (.t 1)), (some (19, false)), [], false⟩, ⟨(some 21), (.call (.c (.fn (.func 18) [] [])) [(.t 20)]), (some (19, false)), [], false⟩, ⟨(some 22), (.un .not (.t 21)), (some (19, false)), [], false⟩, ⟨(some 23), (.pick (.t 19) (.c (.bool true)) (.t 22)), none, [], false⟩]) (.cond (.t 23) (
  .seq (
  .region [⟨(some 24), (.mv (.t 3)), none, [], false⟩, ⟨(some 2), (.mv (.t 24)), none, [], false⟩]) .ret) .skip)) (
  .seq (
  .region [⟨(some 25), (.load (some 3) (.t 1)), none, [], false⟩, ⟨(some 26), (.call (.c (.fn (.func 16) [] [])) [(.t 25)]), none, [], false⟩, ⟨(some 4), (.mv (.t 26)), none, [], false⟩]) (
  .seq (
  .seq (
  .region [⟨(some 27), (.mv (.t 4)), none, [], false⟩, ⟨(some 28), (.lenSl (.t 27)), none, [], false⟩, ⟨(some 29), (.faddr 2 (.t 1)), none, [], false⟩, ⟨(some 30), (.load none (.t 29)), none, [], false⟩, ⟨(some 31), (.lenSl (.t 30)), none, [], false⟩, ⟨(some 32), (.bin .neq (.t 28) (.t 31)), none, [], false⟩]) (.cond (.t 32) (
  .seq (
  .region [⟨(some 2), (.mv (.c (.bool false))), none, [], false⟩]) .ret) .skip)) (
  .seq (
  .region [⟨(some 34), (.load (some 3) (.t 1)), none, [], false⟩, ⟨(some 35), (.call (.c (.fn (.func 10) [] [])) [(.t 34)]), none, [], false⟩, ⟨(some 33), (.mv (.t 35)), none, [], false⟩, ⟨(some 36), (.ext (.t 33) 0), none, [], false⟩, ⟨(some 37), (.ext (.t 33) 1), none, [], false⟩, ⟨(some 5), (.alloc [.nils, .nils]), none, [], false⟩, ⟨none, (.store 2 (.t 5) (.t 36)), none, [], false⟩, ⟨(some 6), (.mv (.t 37)), none, [], false⟩]) (
  .seq (
  .region [⟨(some 39), (.load (some 3) (.t 1)), none, [], false⟩, ⟨(some 40), (.call (.c (.fn (.func 22) [] [])) [(.t 39)]), none, [], false⟩, ⟨(some 41), (.call (.c (.fn (.func 10) [] [])) [(.t 40)]), none, [], false⟩, ⟨(some 38), (.mv (.t 41)), none, [], false⟩, ⟨(some 42), (.ext (.t 38) 0), none, [], false⟩, ⟨(some 43), (.ext (.t 38) 1), none, [], false⟩, ⟨(some 7), (.alloc [.nils, .nils]), none, [], false⟩, ⟨none, (.store 2 (.t 7) (.t 42)), none, [], false⟩, ⟨(some 8), (.mv (.t 43)), none, [], false⟩]) (
  .seq (
  .region [⟨(some 9), (.mv (.c (.bool false))), none, [], false⟩]) (
  .seq (
  .seq (
  .region [⟨(some 10), (.mv (.c (.int .i64 0))), none, [], false⟩]) (.block 0 (.loop (
  .seq (
  .seq (
  .region [⟨(some 44), (.mv (.t 10)), none, [], false⟩, ⟨(some 45), (.faddr 1 (.t 1)), none, [], false⟩, ⟨(some 46), (.load none (.t 45)), none, [], false⟩, ⟨(some 47), (.lenSl (.t 46)), none, [], false⟩, ⟨(some 48), (.bin .lss (.t 44) (.t 47)), none, [], false⟩]) (.cond (.t 48) .skip (.exit 0))) (
  .seq (.block 1 (
  .region [⟨(some 51), (.mv (.t 9)), none, [], false⟩, ⟨(some 52), (.mv (.t 51)), none, [], false⟩, ⟨(some 53), (.mv (.t 4)), (some (52, false)), [], false⟩, ⟨(some 54), (.faddr 1 (.t 1)), (some (52, false)), [], false⟩, ⟨(some 55), (.load none (.t 54)), (some (52, false)), [], false⟩, ⟨(some 56), (.mv (.t 10)), (some (52, false)), [], false⟩, ⟨(some 57), (.iaddr 1 (.t 55) (.t 56)), (some (52, false)), [], false⟩, ⟨(some 58), (.load none (.t 57)), (some (52, false)), [], false⟩, ⟨(some 59), (.iaddr 1 (.t 53) (.t 58)), (some (52, false)), [], false⟩, ⟨(some 60), (.load none (.t 59)), (some (52, false)), [], false⟩, ⟨(some 61), (.pick (.t 52) (.c (.bool true)) (.t 60)), none, [], false⟩, ⟨(some 9), (.mv (.t 61)), none, [], false⟩])) (
  .region [⟨(some 49), (.mv (.t 10)), none, [], false⟩, ⟨(some 50), (.bin .add (.t 49) (.c (.int .i64 1))), none, [], false⟩, ⟨(some 10), (.mv (.t 50)), none, [], false⟩])))))) (
  .seq (
  .seq (
  .region [⟨(some 62), (.mv (.t 6)), none, [], false⟩, ⟨(some 63), (.mv (.t 9)), none, [], false⟩, ⟨(some 64), (.eq true .bool (.t 62) (.t 63)), none, [], false⟩, ⟨(some 65), (.mv (.t 64)), none, [], false⟩, ⟨(some 66), (.mv (.t 8)), (some (65, false)), [], false⟩, ⟨(some 67), (.mv (.t 6)), (some (65, false)), [], false⟩, ⟨(some 68), (.eq true .bool (.t 66) (.t 67)), (some (65, false)), [], false⟩, ⟨(some 69), (.pick (.t 65) (.c (.bool true)) (.t 68)), none, [], false⟩]) (.cond (.t 69) (
  .seq (
  .region [⟨(some 2), (.mv (.c (.bool false))), none, [], false⟩]) .ret) .skip)) (
  .seq (
  .seq (
  .region [⟨(some 11), (.mv (.c (.int .i64 0))), none, [], false⟩]) (.block 2 (.loop (
  .seq (
  .seq (
  .region [⟨(some 70), (.mv (.t 11)), none, [], false⟩, ⟨(some 71), (.mv (.t 4)), none, [], false⟩, ⟨(some 72), (.lenSl (.t 71)), none, [], false⟩, ⟨(some 73), (.bin .lss (.t 70) (.t 72)), none, [], false⟩]) (.cond (.t 73) .skip (.exit 2))) (
  .seq (.block 3 (
  .seq (
  .region [⟨(some 12), (.mv (.c (.bool false))), none, [], false⟩]) (
  .seq (
  .seq (
  .region [⟨(some 13), (.mv (.c (.int .i64 0))), none, [], false⟩]) (.block 4 (.loop (
  .seq (
  .seq (
  .region [⟨(some 76), (.mv (.t 13)), none, [], false⟩, ⟨(some 77), (.faddr 0 (.t 1)), none, [], false⟩, ⟨(some 78), (.load none (.t 77)), none, [], false⟩, ⟨(some 79), (.bin .lss (.t 76) (.t 78)), none, [], false⟩]) (.cond (.t 79) .skip (.exit 4))) (
  .seq (.block 5 (
  .seq (
  .region [⟨(some 14), (.mv (.c (.int .i64 0))), none, [], false⟩]) (.block 6 (.loop (
  .seq (
  .seq (
  .region [⟨(some 82), (.mv (.t 14)), none, [], false⟩, ⟨(some 83), (.faddr 2 (.t 1)), none, [], false⟩, ⟨(some 84), (.load none (.t 83)), none, [], false⟩, ⟨(some 85), (.mv (.t 11)), none, [], false⟩, ⟨(some 86), (.iaddr 1 (.t 84) (.t 85)), none, [], false⟩, ⟨(some 87), (.load none (.t 86)), none, [], false⟩, ⟨(some 88), (.mv (.t 13)), none, [], false⟩, ⟨(some 89), (.iaddr 1 (.t 87) (.t 88)), none, [], false⟩, ⟨(some 90), (.load none (.t 89)), none, [], false⟩, ⟨(some 91), (.lenSl (.t 90)), none, [], false⟩, ⟨(some 92), (.bin .lss (.t 82) (.t 91)), none, [], false⟩]) (.cond (.t 92) .skip (.exit 6))) (
  .seq (.block 7 (
  .region [⟨(some 95), (.mv (.t 12)), none, [], false⟩, ⟨(some 96), (.mv (.t 95)), none, [], false⟩, ⟨(some 97), (.mv (.t 4)), (some (96, false)), [], false⟩, ⟨(some 98), (.faddr 2 (.t 1)), (some (96, false)), [], false⟩, ⟨(some 99), (.load none (.t 98)), (some (96, false)), [], false⟩, ⟨(some 100), (.mv (.t 11)), (some (96, false)), [], false⟩, ⟨(some 101), (.iaddr 1 (.t 99) (.t 100)), (some (96, false)), [], false⟩, ⟨(some 102), (.load none (.t 101)), (some (96, false)), [], false⟩, ⟨(some 103), (.mv (.t 13)), (some (96, false)), [], false⟩, ⟨(some 104), (.iaddr 1 (.t 102) (.t 103)), (some (96, false)), [], false⟩, ⟨(some 105), (.load none (.t 104)), (some (96, false)), [], false⟩, ⟨(some 106), (.mv (.t 14)), (some (96, false)), [], false⟩, ⟨(some 107), (.iaddr 2 (.t 105) (.t 106)), (some (96, false)), [], false⟩, ⟨(some 108), (.faddr 0 (.t 107)), (some (96, false)), [], false⟩, ⟨(some 109), (.load none (.t 108)), (some (96, false)), [], false⟩, ⟨(some 110), (.iaddr 1 (.t 97) (.t 109)), (some (96, false)), [], false⟩, ⟨(some 111), (.load none (.t 110)), (some (96, false)), [], false⟩, ⟨(some 112), (.pick (.t 96) (.c (.bool true)) (.t 111)), none, [], false⟩, ⟨(some 12), (.mv (.t 112)), none, [], false⟩])) (
  .region [⟨(some 93), (.mv (.t 14)), none, [], false⟩, ⟨(some 94), (.bin .add (.t 93) (.c (.int .i64 1))), none, [], false⟩, ⟨(some 14), (.mv (.t 94)), none, [], false⟩]))))))) (
  .region [⟨(some 80), (.mv (.t 13)), none, [], false⟩, ⟨(some 81), (.bin .add (.t 80) (.c (.int .i64 1))), none, [], false⟩, ⟨(some 13), (.mv (.t 81)), none, [], false⟩])))))) (
  .seq (
  .region [⟨(some 113), (.mv (.t 12)), none, [], false⟩, ⟨(some 114), (.mv (.t 4)), none, [], false⟩, ⟨(some 115), (.mv (.t 11)), none, [], false⟩, ⟨(some 116), (.iaddr 1 (.t 114) (.t 115)), none, [], false⟩, ⟨(some 117), (.load none (.t 116)), none, [], false⟩, ⟨(some 118), (.eq true .bool (.t 113) (.t 117)), none, [], false⟩]) (.cond (.t 118) (
  .seq (
  .region [⟨(some 2), (.mv (.c (.bool false))), none, [], false⟩]) .ret) .skip))))) (
  .region [⟨(some 74), (.mv (.t 11)), none, [], false⟩, ⟨(some 75), (.bin .add (.t 74) (.c (.int .i64 1))), none, [], false⟩, ⟨(some 11), (.mv (.t 75)), none, [], false⟩])))))) (
  .seq (
  .region [⟨(some 119), (.mv (.t 3)), none, [], false⟩, ⟨(some 2), (.mv (.t 119)), none, [], false⟩]) .ret))))))))))))⟩
theorem c7 : compFunc Tryd.prog GL [] Tryd.f7 = some l7 := by kernel_rfl
def l16 : LFunc := ⟨106, [(.tmp 2)],
  (
  .seq (
  .region [⟨(some 1), (.box true (.t 0)), none, [], false⟩, ⟨(some 2), (.mv (.c .nils)), none, [], false⟩]) (
  .seq (
  .seq (
  .region [⟨(some 17), (.load (some 3) (.t 1)), none, [], false⟩, ⟨(some 18), (.call (.c (.fn (.func 24) [] [])) [(.t 17)]), none, [], false⟩, ⟨(some 19), (.un .not (.t 18)), none, [], false⟩]) (.cond (.t 19) (
  .seq (
  .region [⟨(some 2), (.mv (.c .nils)), none, [], false⟩]) .ret) .skip)) (
  .seq (
  .region [⟨(some 20), (.load (some 3) (.t 1)), none, [], false⟩, ⟨(some 21), (.call (.c (.fn (.func 27) [] [])) [(.t 20)]), none, [], false⟩, ⟨(some 3), (.mv (.t 21)), none, [], false⟩]) (
  .seq (
  .region [⟨(some 22), (.faddr 2 (.t 1)), none, [], false⟩, ⟨(some 23), (.load none (.t 22)), none, [], false⟩, ⟨(some 24), (.lenSl (.t 23)), none, [], false⟩, ⟨(some 25), (.mkslice 1 1 [(.bool false)] (.t 24) (.t 24)), none, [], false⟩, ⟨(some 4), (.alloc [.nils]), none, [], false⟩, ⟨none, (.store 1 (.t 4) (.t 25)), none, [], false⟩]) (
  .seq (
  .region [⟨(some 26), (.faddr 2 (.t 1)), none, [], false⟩, ⟨(some 27), (.load none (.t 26)), none, [], false⟩, ⟨(some 28), (.lenSl (.t 27)), none, [], false⟩, ⟨(some 29), (.mkslice 1 24 [.nils] (.t 28) (.t 28)), none, [], false⟩, ⟨(some 5), (.mv (.t 29)), none, [], false⟩]) (
  .seq (
  .region [⟨(some 6), (.alloc [.nils]), none, [], false⟩]) (
  .seq (
  .region [⟨(some 30), (.mkfn (.func 35) [] [(.t 4), (.t 6)]), none, [], false⟩, ⟨(some 7), (.mv (.t 30)), none, [], false⟩]) (
  .seq (
  .seq (
  .region [⟨(some 31), (.faddr 2 (.t 1)), none, [], false⟩, ⟨(some 32), (.load none (.t 31)), none, [], false⟩, ⟨(some 33), (.lenSl (.t 32)), none, [], false⟩, ⟨(some 34), (.mv (.c (.int .i64 0))), none, [], false⟩]) (.block 0 (.loop (
  .seq (
  .region [⟨(some 35), (.bin .lss (.t 34) (.t 33)), none, [], false⟩]) (
  .seq (.cond (.t 35) .skip (.exit 0)) (
  .seq (.block 1 (
  .seq (
  .region [⟨(some 36), (.mv (.t 34)), none, [], false⟩, ⟨(some 37), (.iaddr 1 (.t 32) (.t 34)), none, [], false⟩, ⟨(some 38), (.load none (.t 37)), none, [], false⟩, ⟨(some 8), (.mv (.t 36)), none, [], false⟩, ⟨(some 9), (.mv (.t 38)), none, [], false⟩]) (
  .seq (
  .region [⟨(some 39), (.mv (.t 9)), none, [], false⟩, ⟨(some 40), (.lenSl (.t 39)), none, [], false⟩, ⟨(some 41), (.mv (.c (.int .i64 0))), none, [], false⟩]) (.block 2 (.loop (
  .seq (
  .region [⟨(some 42), (.bin .lss (.t 41) (.t 40)), none, [], false⟩]) (
  .seq (.cond (.t 42) .skip (.exit 2)) (
  .seq (.block 3 (
  .seq (
  .region [⟨(some 43), (.iaddr 1 (.t 39) (.t 41)), none, [], false⟩, ⟨(some 44), (.load none (.t 43)), none, [], false⟩, ⟨(some 11), (.mv (.t 44)), none, [], false⟩]) (
  .seq (
  .region [⟨(some 45), (.mv (.t 11)), none, [], false⟩, ⟨(some 46), (.lenSl (.t 45)), none, [], false⟩, ⟨(some 47), (.mv (.c (.int .i64 0))), none, [], false⟩]) (.block 4 (.loop (
  .seq (
  .region [⟨(some 48), (.bin .lss (.t 47) (.t 46)), none, [], false⟩]) (
  .seq (.cond (.t 48) .skip (.exit 4)) (
  .seq (.block 5 (
  .seq (
  .region [⟨(some 49), (.iaddr 2 (.t 45) (.t 47)), none, [], false⟩, ⟨(some 50), (.load (some 2) (.t 49)), none, [], false⟩, ⟨(some 13), (.alloc [(.int .i64 0), (.bool false)]), none, [], false⟩, ⟨none, (.store 2 (.t 13) (.t 50)), none, [], false⟩]) (
  .seq (
  .region [⟨(some 51), (.mv (.t 5)), none, [], true⟩, ⟨(some 52), (.faddr 0 (.t 13)), none, [], true⟩, ⟨(some 53), (.load none (.t 52)), none, [], true⟩, ⟨(some 54), (.mv (.t 5)), none, [], true⟩, ⟨(some 55), (.faddr 0 (.t 13)), none, [], true⟩, ⟨(some 56), (.load none (.t 55)), none, [], true⟩, ⟨(some 57), (.iaddr 1 (.t 54) (.t 56)), none, [], true⟩, ⟨(some 58), (.load none (.t 57)), none, [], true⟩, ⟨(some 59), (.mv (.t 8)), none, [], true⟩, ⟨(some 60), (.bslice 1 1 [(.int .i64 0)] [(0, (1, (.t 59)))]), none, [(53, (none, (.load none (.t 52)))), (56, (none, (.load none (.t 55)))), (58, (none, (.load none (.t 57))))], true⟩, ⟨(some 61), (.append 1 8 (.t 58) (.t 60)), none, [(53, (none, (.load none (.t 52))))], true⟩, ⟨(some 62), (.iaddr 1 (.t 51) (.t 53)), none, [], true⟩, ⟨none, (.store 1 (.t 62) (.t 61)), none, [], true⟩]) (
  .seq (
  .region [⟨(some 63), (.faddr 1 (.t 13)), none, [], true⟩, ⟨(some 64), (.load none (.t 63)), none, [], true⟩, ⟨(some 65), (.mv (.t 64)), none, [], true⟩, ⟨(some 66), (.mv (.t 3)), (some (65, true)), [], true⟩, ⟨(some 67), (.faddr 0 (.t 13)), (some (65, true)), [], true⟩, ⟨(some 68), (.load none (.t 67)), (some (65, true)), [], true⟩, ⟨(some 69), (.iaddr 1 (.t 66) (.t 68)), (some (65, true)), [], true⟩, ⟨(some 70), (.load none (.t 69)), (some (65, true)), [], true⟩, ⟨(some 71), (.mv (.t 3)), (some (65, true)), [], true⟩, ⟨(some 72), (.mv (.t 8)), (some (65, true)), [], true⟩, ⟨(some 73), (.iaddr 1 (.t 71) (.t 72)), (some (65, true)), [], true⟩, ⟨(some 74), (.load none (.t 73)), (some (65, true)), [], true⟩, ⟨(some 75), (.bin .eql (.t 70) (.t 74)), (some (65, true)), [], true⟩, ⟨(some 76), (.pick (.t 65) (.t 75) (.c (.bool false))), none, [], true⟩]) (.cond (.t 76) (
  .region [⟨(some 77), (.mv (.t 7)), none, [], false⟩, ⟨(some 78), (.mv (.t 8)), none, [], false⟩, ⟨(some 79), (.call (.t 77) [(.t 78)]), none, [], false⟩]) .skip))))) (
  .region [⟨(some 80), (.bin .add (.t 47) (.c (.int .i64 1))), none, [], false⟩, ⟨(some 47), (.mv (.t 80)), none, [], false⟩]))))))))) (
  .region [⟨(some 81), (.bin .add (.t 41) (.c (.int .i64 1))), none, [], false⟩, ⟨(some 41), (.mv (.t 81)), none, [], false⟩]))))))))) (
  .region [⟨(some 82), (.bin .add (.t 34) (.c (.int .i64 1))), none, [], false⟩, ⟨(some 34), (.mv (.t 82)), none, [], false⟩]))))))) (
  .seq (
  .seq (
  .region [⟨(some 14), (.mv (.c (.int .i64 0))), none, [], false⟩]) (.block 6 (.loop (
  .seq (
  .seq (
  .region [⟨(some 83), (.mv (.t 14)), none, [], false⟩, ⟨(some 84), (.load none (.t 6)), none, [], false⟩, ⟨(some 85), (.lenSl (.t 84)), none, [], false⟩, ⟨(some 86), (.bin .lss (.t 83) (.t 85)), none, [], false⟩]) (.cond (.t 86) .skip (.exit 6))) (
  .seq (.block 7 (
  .seq (
  .region [⟨(some 89), (.mv (.t 5)), none, [], false⟩, ⟨(some 90), (.load none (.t 6)), none, [], false⟩, ⟨(some 91), (.mv (.t 14)), none, [], false⟩, ⟨(some 92), (.iaddr 1 (.t 90) (.t 91)), none, [], false⟩, ⟨(some 93), (.load none (.t 92)), none, [], false⟩, ⟨(some 94), (.iaddr 1 (.t 89) (.t 93)), none, [], false⟩, ⟨(some 95), (.load none (.t 94)), none, [], false⟩, ⟨(some 96), (.lenSl (.t 95)), none, [], false⟩, ⟨(some 97), (.mv (.c (.int .i64 0))), none, [], false⟩]) (.block 8 (.loop (
  .seq (
  .region [⟨(some 98), (.bin .lss (.t 97) (.t 96)), none, [], false⟩]) (
  .seq (.cond (.t 98) .skip (.exit 8)) (
  .seq (.block 9 (
  .seq (
  .region [⟨(some 99), (.iaddr 1 (.t 95) (.t 97)), none, [], false⟩, ⟨(some 100), (.load none (.t 99)), none, [], false⟩, ⟨(some 16), (.mv (.t 100)), none, [], false⟩]) (
  .region [⟨(some 101), (.mv (.t 7)), none, [], false⟩, ⟨(some 102), (.mv (.t 16)), none, [], false⟩, ⟨(some 103), (.call (.t 101) [(.t 102)]), none, [], false⟩]))) (
  .region [⟨(some 104), (.bin .add (.t 97) (.c (.int .i64 1))), none, [], false⟩, ⟨(some 97), (.mv (.t 104)), none, [], false⟩])))))))) (
  .region [⟨(some 87), (.mv (.t 14)), none, [], false⟩, ⟨(some 88), (.bin .add (.t 87) (.c (.int .i64 1))), none, [], false⟩, ⟨(some 14), (.mv (.t 88)), none, [], false⟩])))))) (
  .seq (
  .region [⟨(some 105), (.load none (.t 4)), none, [], false⟩, ⟨(some 2), (.mv (.t 105)), none, [], false⟩]) .ret))))))))))⟩
theorem c16 : compFunc Tryd.prog GL [] Tryd.f16 = some l16 := by kernel_rfl
def l35 : LFunc := ⟨16, [],
  (
  .seq (
  .region [⟨(some 4), (.load none (.t 1)), none, [], false⟩, ⟨(some 5), (.mv (.t 0)), none, [], false⟩, ⟨(some 6), (.iaddr 1 (.t 4) (.t 5)), none, [], false⟩, ⟨(some 7), (.load none (.t 6)), none, [], false⟩, ⟨(some 8), (.un .not (.t 7)), none, [], false⟩]) (.cond (.t 8) (
  .seq (
  .region [⟨(some 9), (.load none (.t 1)), none, [], false⟩, ⟨(some 10), (.mv (.t 0)), none, [], false⟩, ⟨(some 11), (.iaddr 1 (.t 9) (.t 10)), none, [], false⟩, ⟨none, (.store 1 (.t 11) (.c (.bool true))), none, [], false⟩]) (
  .region [⟨(some 12), (.load none (.t 2)), none, [], false⟩, ⟨(some 13), (.mv (.t 0)), none, [], false⟩, ⟨(some 14), (.bslice 1 1 [(.int .i64 0)] [(0, (1, (.t 13)))]), none, [], false⟩, ⟨(some 15), (.append 1 8 (.t 12) (.t 14)), none, [], false⟩, ⟨none, (.store 1 (.t 2) (.t 15)), none, [], false⟩])) .skip))⟩
theorem c35 : compFunc Tryd.prog GL [] Tryd.f35 = some l35 := by kernel_rfl
def l22 : LFunc := ⟨21, [(.cell 2 (some 3))],
  (
  .seq (
  .region [⟨(some 1), (.box true (.t 0)), none, [], false⟩, ⟨(some 2), (.alloc [(.int .i64 0), .nils, .nils]), none, [], false⟩]) (
  .seq (
  .seq (
  .region [⟨(some 6), (.load (some 3) (.t 1)), none, [], false⟩, ⟨(some 7), (.call (.c (.fn (.func 24) [] [])) [(.t 6)]), none, [], false⟩, ⟨(some 8), (.un .not (.t 7)), none, [], false⟩]) (.cond (.t 8) (
  .seq (
  .region [⟨(some 9), (.build [(.int .i64 0), .nils, .nils] []), none, [], false⟩, ⟨none, (.store 3 (.t 2) (.t 9)), none, [], false⟩]) .ret) .skip)) (
  .seq (
  .region [⟨(some 10), (.mkfn (.func 43) [] [(.t 1)]), none, [], false⟩, ⟨(some 3), (.mv (.t 10)), none, [], false⟩]) (
  .seq (
  .region [⟨(some 12), (.faddr 0 (.t 1)), none, [], false⟩, ⟨(some 13), (.load none (.t 12)), none, [], false⟩, ⟨(some 14), (.faddr 1 (.t 1)), none, [], false⟩, ⟨(some 15), (.load none (.t 14)), none, [], false⟩, ⟨(some 16), (.mv (.t 3)), none, [], false⟩, ⟨(some 17), (.call (.c (.fn (.func 45) [] [])) [(.t 13), (.t 15), (.c (.int .i64 3000)), (.t 16)]), none, [], false⟩, ⟨(some 11), (.mv (.t 17)), none, [], false⟩, ⟨(some 18), (.ext (.t 11) 0), none, [], false⟩, ⟨(some 19), (.ext (.t 11) 1), none, [], false⟩, ⟨(some 4), (.alloc [(.int .i64 0), .nils, .nils]), none, [], false⟩, ⟨none, (.store 3 (.t 4) (.t 18)), none, [], false⟩, ⟨(some 5), (.mv (.t 19)), none, [], false⟩]) (
  .seq (
  .region [⟨(some 20), (.load (some 3) (.t 4)), none, [], false⟩, ⟨none, (.store 3 (.t 2) (.t 20)), none, [], false⟩]) .ret)))))⟩
theorem c22 : compFunc Tryd.prog GL [] Tryd.f22 = some l22 := by kernel_rfl
def l43 : LFunc := ⟨7, [(.tmp 5)],
  (
  .seq (
  .region [⟨(some 3), (.box true (.t 0)), none, [], false⟩, ⟨(some 4), (.box true (.t 1)), none, [], false⟩, ⟨(some 5), (.mv (.c .nilf)), none, [], false⟩]) (
  .seq (
  .region [⟨(some 6), (.mkfn (.func 44) [] [(.t 2), (.t 3), (.t 4)]), none, [], false⟩, ⟨(some 5), (.mv (.t 6)), none, [], false⟩]) .ret))⟩
theorem c43 : compFunc Tryd.prog GL [] Tryd.f43 = some l43 := by kernel_rfl
def l44 : LFunc := ⟨28, [],
  (
  .seq (
  .region [⟨(some 7), (.faddr 2 (.t 1)), none, [], true⟩, ⟨(some 8), (.load none (.t 7)), none, [], true⟩, ⟨(some 9), (.load none (.t 2)), none, [], true⟩, ⟨(some 10), (.iaddr 1 (.t 8) (.t 9)), none, [], true⟩, ⟨(some 11), (.load none (.t 10)), none, [], true⟩, ⟨(some 12), (.load none (.t 3)), none, [], true⟩, ⟨(some 13), (.iaddr 1 (.t 11) (.t 12)), none, [], true⟩, ⟨(some 14), (.load none (.t 13)), none, [], true⟩, ⟨(some 15), (.lenSl (.t 14)), none, [], true⟩, ⟨(some 16), (.mv (.c (.int .i64 0))), none, [], true⟩]) (.block 0 (.loop (
  .seq (
  .region [⟨(some 17), (.bin .lss (.t 16) (.t 15)), none, [], false⟩]) (
  .seq (.cond (.t 17) .skip (.exit 0)) (
  .seq (.block 1 (
  .seq (
  .region [⟨(some 18), (.iaddr 2 (.t 14) (.t 16)), none, [], false⟩, ⟨(some 19), (.load (some 2) (.t 18)), none, [], false⟩, ⟨(some 6), (.alloc [(.int .i64 0), (.bool false)]), none, [], false⟩, ⟨none, (.store 2 (.t 6) (.t 19)), none, [], false⟩]) (
  .seq (
  .region [⟨(some 20), (.mv (.t 0)), none, [], false⟩, ⟨(some 21), (.faddr 0 (.t 6)), none, [], false⟩, ⟨(some 22), (.load none (.t 21)), none, [], false⟩, ⟨(some 23), (.faddr 1 (.t 6)), none, [], false⟩, ⟨(some 24), (.load none (.t 23)), none, [], false⟩, ⟨(some 25), (.call (.t 20) [(.t 22), (.t 24)]), none, [], false⟩, ⟨(some 26), (.un .not (.t 25)), none, [], false⟩]) (.cond (.t 26) .ret .skip)))) (
  .region [⟨(some 27), (.bin .add (.t 16) (.c (.int .i64 1))), none, [], false⟩, ⟨(some 16), (.mv (.t 27)), none, [], false⟩])))))))⟩
theorem c44 : compFunc Tryd.prog GL [] Tryd.f44 = some l44 := by kernel_rfl
def l45 : LFunc := ⟨96, [(.cell 8 (some 3)), (.cell 9 none)],
  (
  .seq (
  .region [⟨(some 6), (.box true (.t 2)), none, [], false⟩, ⟨(some 8), (.alloc [(.int .i64 0), .nils, .nils]), none, [], false⟩, ⟨(some 9), (.alloc [(.int .i64 0)]), none, [], false⟩]) (
  .seq (
  .region [⟨(some 22), (.mkmap none), none, [], false⟩, ⟨(some 10), (.alloc [.nilm]), none, [], false⟩, ⟨none, (.store 1 (.t 10) (.t 22)), none, [], false⟩]) (
  .seq (
  .region [⟨(some 11), (.alloc [.nils]), none, [], false⟩]) (
  .seq (
  .region [⟨(some 23), (.mkfn (.func 69) [] [(.t 10), (.t 11)]), none, [], false⟩, ⟨(some 12), (.alloc [.nilf]), none, [], false⟩, ⟨none, (.store 1 (.t 12) (.t 23)), none, [], false⟩]) (
  .seq (
  .region [⟨(some 24), (.mv (.t 0)), none, [], false⟩, ⟨(some 25), (.build [(.int .i64 0), .nils, .nils] [(0, (1, (.t 24)))]), none, [], false⟩, ⟨(some 13), (.alloc [(.int .i64 0), .nils, .nils]), none, [], false⟩, ⟨none, (.store 3 (.t 13) (.t 25)), none, [], false⟩]) (
  .seq (
  .seq (
  .region [⟨(some 26), (.mv (.t 1)), none, [], false⟩, ⟨(some 27), (.lenSl (.t 26)), none, [], false⟩, ⟨(some 28), (.mv (.c (.int .i64 0))), none, [], false⟩]) (.block 0 (.loop (
  .seq (
  .region [⟨(some 29), (.bin .lss (.t 28) (.t 27)), none, [], false⟩]) (
  .seq (.cond (.t 29) .skip (.exit 0)) (
  .seq (.block 1 (
  .seq (
  .region [⟨(some 30), (.iaddr 1 (.t 26) (.t 28)), none, [], false⟩, ⟨(some 31), (.load none (.t 30)), none, [], false⟩, ⟨(some 15), (.mv (.t 31)), none, [], false⟩]) (
  .seq (
  .region [⟨(some 32), (.faddr 1 (.t 13)), none, [], true⟩, ⟨(some 33), (.load none (.t 32)), none, [], true⟩, ⟨(some 34), (.load none (.t 12)), none, [], true⟩, ⟨(some 35), (.mv (.t 15)), none, [], true⟩, ⟨(some 36), (.call (.t 34) [(.t 35)]), none, [(33, (none, (.load none (.t 32))))], true⟩, ⟨(some 37), (.bslice 1 1 [(.int .i64 0)] [(0, (1, (.t 36)))]), none, [(33, (none, (.load none (.t 32)))), (34, (none, (.load none (.t 12))))], true⟩, ⟨(some 38), (.append 1 8 (.t 33) (.t 37)), none, [], true⟩, ⟨(some 39), (.faddr 1 (.t 13)), none, [], true⟩, ⟨none, (.store 1 (.t 39) (.t 38)), none, [], true⟩]) (
  .seq (
  .region [⟨(some 40), (.load none (.t 11)), none, [], false⟩, ⟨(some 41), (.lenSl (.t 40)), none, [], false⟩, ⟨(some 42), (.load none (.t 6)), none, [], false⟩, ⟨(some 43), (.bin .gtr (.t 41) (.t 42)), none, [], false⟩]) (.cond (.t 43) (
  .seq (
  .region [⟨(some 44), (.build [(.int .i64 0), .nils, .nils] []), none, [], false⟩, ⟨none, (.store 3 (.t 8) (.t 44)), none, [], false⟩, ⟨none, (.store 1 (.t 9) (.c (.int .i64 2))), none, [], false⟩]) .ret) .skip))))) (
  .region [⟨(some 45), (.bin .add (.t 28) (.c (.int .i64 1))), none, [], false⟩, ⟨(some 28), (.mv (.t 45)), none, [], false⟩]))))))) (
  .seq (
  .seq (
  .region [⟨(some 16), (.mv (.c (.int .i64 0))), none, [], false⟩]) (.block 2 (.loop (
  .seq (
  .seq (
  .region [⟨(some 46), (.mv (.t 16)), none, [], false⟩, ⟨(some 47), (.load none (.t 11)), none, [], false⟩, ⟨(some 48), (.lenSl (.t 47)), none, [], false⟩, ⟨(some 49), (.bin .lss (.t 46) (.t 48)), none, [], false⟩]) (.cond (.t 49) .skip (.exit 2))) (
  .seq (.block 3 (
  .seq (
  .region [⟨(some 52), (.mv (.t 0)), none, [], false⟩, ⟨(some 53), (.mkslice 1 24 [.nils] (.t 52) (.t 52)), none, [], false⟩, ⟨(some 17), (.mv (.t 53)), none, [], false⟩]) (
  .seq (
  .seq (
  .region [⟨(some 54), (.mv (.t 17)), none, [], false⟩, ⟨(some 55), (.lenSl (.t 54)), none, [], false⟩, ⟨(some 56), (.mv (.c (.int .i64 0))), none, [], false⟩]) (.block 4 (.loop (
  .seq (
  .region [⟨(some 57), (.bin .lss (.t 56) (.t 55)), none, [], false⟩]) (
  .seq (.cond (.t 57) .skip (.exit 4)) (
  .seq (.block 5 (
  .seq (
  .region [⟨(some 58), (.mv (.t 56)), none, [], false⟩, ⟨(some 18), (.mv (.t 58)), none, [], false⟩]) (
  .seq (
  .region [⟨(some 19), (.alloc [.nils]), none, [], false⟩]) (
  .seq (
  .seq (
  .region [⟨(some 59), (.mv (.t 3)), none, [], false⟩, ⟨(some 60), (.load none (.t 11)), none, [], false⟩, ⟨(some 61), (.mv (.t 16)), none, [], false⟩, ⟨(some 62), (.iaddr 1 (.t 60) (.t 61)), none, [], false⟩, ⟨(some 63), (.load none (.t 62)), none, [], false⟩, ⟨(some 64), (.mv (.t 18)), none, [], false⟩, ⟨(some 65), (.call (.t 59) [(.t 63), (.t 64)]), none, [], false⟩]) (.block 6 (.rangeFunc (.t 65) [66, 67] (
  .seq (
  .region [⟨(some 20), (.mv (.t 66)), none, [], false⟩]) (
  .region [⟨(some 21), (.mv (.t 67)), none, [], false⟩])) (.block 7 (
  .seq (
  .region [⟨(some 68), (.load none (.t 19)), none, [], true⟩, ⟨(some 69), (.load none (.t 12)), none, [], true⟩, ⟨(some 70), (.mv (.t 20)), none, [], true⟩, ⟨(some 72), (.mv (.t 21)), none, [], true⟩, ⟨(some 71), (.call (.t 69) [(.t 70)]), none, [(68, (none, (.load none (.t 19))))], true⟩, ⟨(some 73), (.build [(.int .i64 0), (.bool false)] [(0, (1, (.t 71))), (1, (1, (.t 72)))]), none, [], true⟩, ⟨(some 74), (.bslice 2 1 [(.int .i64 0), (.bool false)] [(0, (2, (.t 73)))]), none, [(68, (none, (.load none (.t 19)))), (69, (none, (.load none (.t 12))))], true⟩, ⟨(some 75), (.append 2 16 (.t 68) (.t 74)), none, [], true⟩, ⟨none, (.store 1 (.t 19) (.t 75)), none, [], true⟩]) (
  .seq (
  .region [⟨(some 76), (.load none (.t 11)), none, [], false⟩, ⟨(some 77), (.lenSl (.t 76)), none, [], false⟩, ⟨(some 78), (.load none (.t 6)), none, [], false⟩, ⟨(some 79), (.bin .gtr (.t 77) (.t 78)), none, [], false⟩]) (.cond (.t 79) (
  .seq (
  .region [⟨(some 80), (.build [(.int .i64 0), .nils, .nils] []), none, [], false⟩, ⟨none, (.store 3 (.t 8) (.t 80)), none, [], false⟩, ⟨none, (.store 1 (.t 9) (.c (.int .i64 2))), none, [], false⟩]) .ret) .skip))))))) (
  .seq (
  .region [⟨(some 81), (.load none (.t 19)), none, [], false⟩, ⟨(some 82), (.call (.c (.fn (.func 70) [] [])) [(.t 81), (.c (.fn (.func 47) [] []))]), none, [], false⟩]) (
  .region [⟨(some 83), (.mv (.t 17)), none, [], false⟩, ⟨(some 84), (.mv (.t 18)), none, [], false⟩, ⟨(some 85), (.load none (.t 19)), none, [], false⟩, ⟨(some 86), (.call (.c (.fn (.func 71) [] [])) [(.t 85)]), none, [], false⟩, ⟨(some 87), (.iaddr 1 (.t 83) (.t 84)), none, [], false⟩, ⟨none, (.store 1 (.t 87) (.t 86)), none, [], false⟩])))))) (
  .region [⟨(some 88), (.bin .add (.t 56) (.c (.int .i64 1))), none, [], false⟩, ⟨(some 56), (.mv (.t 88)), none, [], false⟩]))))))) (
  .region [⟨(some 89), (.faddr 2 (.t 13)), none, [], false⟩, ⟨(some 90), (.load none (.t 89)), none, [], false⟩, ⟨(some 91), (.mv (.t 17)), none, [], false⟩, ⟨(some 92), (.bslice 1 1 [.nils] [(0, (1, (.t 91)))]), none, [], false⟩, ⟨(some 93), (.append 1 24 (.t 90) (.t 92)), none, [], false⟩, ⟨(some 94), (.faddr 2 (.t 13)), none, [], false⟩, ⟨none, (.store 1 (.t 94) (.t 93)), none, [], false⟩])))) (
  .region [⟨(some 50), (.mv (.t 16)), none, [], false⟩, ⟨(some 51), (.bin .add (.t 50) (.c (.int .i64 1))), none, [], false⟩, ⟨(some 16), (.mv (.t 51)), none, [], false⟩])))))) (
  .seq (
  .region [⟨(some 95), (.load (some 3) (.t 13)), none, [], false⟩, ⟨none, (.store 3 (.t 8) (.t 95)), none, [], false⟩, ⟨none, (.store 1 (.t 9) (.c (.int .i64 0))), none, [], false⟩]) .ret))))))))⟩
theorem c45 : compFunc Tryd.prog GL [] Tryd.f45 = some l45 := by kernel_rfl
def l69 : LFunc := ⟨25, [(.tmp 4)],
  (
  .seq (
  .region [⟨(some 4), (.mv (.c (.int .i64 0))), none, [], false⟩]) (
  .seq (
  .region [⟨(some 8), (.load none (.t 1)), none, [], false⟩, ⟨(some 9), (.mv (.t 0)), none, [], false⟩, ⟨(some 10), (.mlook (.int .i64) (.int .i64 0) true (.t 8) (.t 9)), none, [], false⟩, ⟨(some 7), (.mv (.t 10)), none, [], false⟩, ⟨(some 11), (.ext (.t 7) 0), none, [], false⟩, ⟨(some 12), (.ext (.t 7) 1), none, [], false⟩, ⟨(some 5), (.mv (.t 11)), none, [], false⟩, ⟨(some 6), (.mv (.t 12)), none, [], false⟩]) (
  .seq (
  .seq (
  .region [⟨(some 13), (.mv (.t 6)), none, [], false⟩, ⟨(some 14), (.un .not (.t 13)), none, [], false⟩]) (.cond (.t 14) (
  .seq (
  .region [⟨(some 15), (.load none (.t 2)), none, [], false⟩, ⟨(some 16), (.lenSl (.t 15)), none, [], false⟩, ⟨(some 5), (.mv (.t 16)), none, [], false⟩]) (
  .seq (
  .region [⟨(some 17), (.load none (.t 1)), none, [], false⟩, ⟨(some 18), (.mv (.t 0)), none, [], false⟩, ⟨(some 19), (.mv (.t 5)), none, [], false⟩, ⟨none, (.mupd (.int .i64) (.t 17) (.t 18) (.t 19)), none, [], false⟩]) (
  .region [⟨(some 20), (.load none (.t 2)), none, [], false⟩, ⟨(some 21), (.mv (.t 0)), none, [], false⟩, ⟨(some 22), (.bslice 1 1 [(.int .i64 0)] [(0, (1, (.t 21)))]), none, [], false⟩, ⟨(some 23), (.append 1 8 (.t 20) (.t 22)), none, [], false⟩, ⟨none, (.store 1 (.t 2) (.t 23)), none, [], false⟩]))) .skip)) (
  .seq (
  .region [⟨(some 24), (.mv (.t 5)), none, [], false⟩, ⟨(some 4), (.mv (.t 24)), none, [], false⟩]) .ret))))⟩
theorem c69 : compFunc Tryd.prog GL [] Tryd.f69 = some l69 := by kernel_rfl
def l71 : LFunc := ⟨61, [(.tmp 2)],
  (
  .seq (
  .region [⟨(some 2), (.mv (.c .nils)), none, [], false⟩]) (
  .seq (
  .seq (
  .region [⟨(some 6), (.mv (.t 0)), none, [], false⟩, ⟨(some 7), (.lenSl (.t 6)), none, [], false⟩, ⟨(some 8), (.bin .lss (.t 7) (.c (.int .i64 2))), none, [], false⟩]) (.cond (.t 8) (
  .seq (
  .region [⟨(some 9), (.mv (.t 0)), none, [], false⟩, ⟨(some 2), (.mv (.t 9)), none, [], false⟩]) .ret) .skip)) (
  .seq (
  .seq (
  .region [⟨(some 3), (.mv (.c (.int .i64 1))), none, [], false⟩]) (.block 0 (.loop (
  .seq (
  .seq (
  .region [⟨(some 10), (.mv (.t 3)), none, [], false⟩, ⟨(some 11), (.mv (.t 0)), none, [], false⟩, ⟨(some 12), (.lenSl (.t 11)), none, [], false⟩, ⟨(some 13), (.bin .lss (.t 10) (.t 12)), none, [], false⟩]) (.cond (.t 13) .skip (.exit 0))) (
  .seq (.block 1 (
  .seq (
  .region [⟨(some 16), (.mv (.t 0)), none, [], true⟩, ⟨(some 17), (.mv (.t 3)), none, [], true⟩, ⟨(some 18), (.iaddr 2 (.t 16) (.t 17)), none, [], true⟩, ⟨(some 19), (.load (some 2) (.t 18)), none, [], true⟩, ⟨(some 20), (.mv (.t 0)), none, [], true⟩, ⟨(some 21), (.mv (.t 3)), none, [], true⟩, ⟨(some 22), (.bin .sub (.t 21) (.c (.int .i64 1))), none, [], true⟩, ⟨(some 23), (.iaddr 2 (.t 20) (.t 22)), none, [], true⟩, ⟨(some 24), (.load (some 2) (.t 23)), none, [], true⟩, ⟨(some 25), (.eq false (.struct [(0, (1, .int)), (1, (1, .bool))]) (.t 19) (.t 24)), none, [], true⟩]) (.cond (.t 25) (
  .seq (
  .region [⟨(some 26), (.mv (.t 0)), none, [], false⟩, ⟨(some 27), (.mv (.t 3)), none, [], false⟩, ⟨(some 28), (.slice 2 (.t 26) (some (.t 27)) none), none, [], false⟩, ⟨(some 4), (.mv (.t 28)), none, [], false⟩]) (
  .seq (
  .seq (
  .region [⟨(some 5), (.mv (.c (.int .i64 1))), none, [], false⟩]) (.block 2 (.loop (
  .seq (
  .seq (
  .region [⟨(some 29), (.mv (.t 5)), none, [], false⟩, ⟨(some 30), (.mv (.t 4)), none, [], false⟩, ⟨(some 31), (.lenSl (.t 30)), none, [], false⟩, ⟨(some 32), (.bin .lss (.t 29) (.t 31)), none, [], false⟩]) (.cond (.t 32) .skip (.exit 2))) (
  .seq (.block 3 (
  .seq (
  .region [⟨(some 35), (.mv (.t 4)), none, [], true⟩, ⟨(some 36), (.mv (.t 5)), none, [], true⟩, ⟨(some 37), (.iaddr 2 (.t 35) (.t 36)), none, [], true⟩, ⟨(some 38), (.load (some 2) (.t 37)), none, [], true⟩, ⟨(some 39), (.mv (.t 4)), none, [], true⟩, ⟨(some 40), (.mv (.t 5)), none, [], true⟩, ⟨(some 41), (.bin .sub (.t 40) (.c (.int .i64 1))), none, [], true⟩, ⟨(some 42), (.iaddr 2 (.t 39) (.t 41)), none, [], true⟩, ⟨(some 43), (.load (some 2) (.t 42)), none, [], true⟩, ⟨(some 44), (.eq true (.struct [(0, (1, .int)), (1, (1, .bool))]) (.t 38) (.t 43)), none, [], true⟩]) (.cond (.t 44) (
  .seq (
  .region [⟨(some 45), (.mv (.t 0)), none, [], false⟩, ⟨(some 46), (.mv (.t 3)), none, [], false⟩, ⟨(some 47), (.mv (.t 4)), none, [], false⟩, ⟨(some 48), (.mv (.t 5)), none, [], false⟩, ⟨(some 49), (.iaddr 2 (.t 47) (.t 48)), none, [], false⟩, ⟨(some 50), (.load (some 2) (.t 49)), none, [], false⟩, ⟨(some 51), (.iaddr 2 (.t 45) (.t 46)), none, [], false⟩, ⟨none, (.store 2 (.t 51) (.t 50)), none, [], false⟩]) (
  .region [⟨(some 52), (.mv (.t 3)), none, [], false⟩, ⟨(some 53), (.bin .add (.t 52) (.c (.int .i64 1))), none, [], false⟩, ⟨(some 3), (.mv (.t 53)), none, [], false⟩])) .skip))) (
  .region [⟨(some 33), (.mv (.t 5)), none, [], false⟩, ⟨(some 34), (.bin .add (.t 33) (.c (.int .i64 1))), none, [], false⟩, ⟨(some 5), (.mv (.t 34)), none, [], false⟩])))))) (
  .seq .bad (
  .seq (
  .region [⟨(some 57), (.mv (.t 0)), none, [], false⟩, ⟨(some 58), (.mv (.t 3)), none, [], false⟩, ⟨(some 59), (.slice 2 (.t 57) none (some (.t 58))), none, [], false⟩, ⟨(some 2), (.mv (.t 59)), none, [], false⟩]) .ret)))) .skip))) (
  .region [⟨(some 14), (.mv (.t 3)), none, [], false⟩, ⟨(some 15), (.bin .add (.t 14) (.c (.int .i64 1))), none, [], false⟩, ⟨(some 3), (.mv (.t 15)), none, [], false⟩])))))) (
  .seq (
  .region [⟨(some 60), (.mv (.t 0)), none, [], false⟩, ⟨(some 2), (.mv (.t 60)), none, [], false⟩]) .ret))))⟩
theorem c71 : compFunc Tryd.prog GL [] Tryd.f71 = some l71 := by kernel_rfl
end Go.Proofs.YtohldpfjnllkdaaDoor
