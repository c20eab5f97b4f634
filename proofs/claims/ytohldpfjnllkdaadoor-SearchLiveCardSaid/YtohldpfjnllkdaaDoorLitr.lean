/- Plain forms of functions, by program. -/
import Derived.Test.YtohldpfjnllkdaaDoorProg
import Derived.Test.YtohldpfjnllkdaaDoorPvComp
import Derived.Test.YtohldpfjnllkdaaDoorGl
import Derived.KernelRfl
set_option linter.unusedSimpArgs false
set_option linter.unusedVariables false
namespace Go.Proofs.YtohldpfjnllkdaaDoor
open Go Go.Pv
set_option maxRecDepth 100000
def l9 : LFunc := ⟨54, [(.tmp 2)],
  (
  .seq (
  .region [⟨(some 1), (.box true (.t 0)), none, [], false⟩, ⟨(some 2), (.mv (.c (.bool false))), none, [], false⟩]) (
  .seq (
  .seq (
  .region [⟨(some 5), (.faddr 0 (.t 1)), none, [], false⟩, ⟨(some 6), (.load none (.t 5)), none, [], false⟩, ⟨(some 7), (.bin .gtr (.t 6) (.c (.int .i64 20))), none, [], false⟩, ⟨(some 8), (.mv (.t 7)), none, [], false⟩, ⟨(some 9), (.faddr 1 (.t 1)), (some (8, false)), [], false⟩, ⟨(some 10), (.load none (.t 9)), (some (8, false)), [], false⟩, ⟨(some 11), (.lenSl (.t 10)), (some (8, false)), [], false⟩, ⟨(some 12), (.bin .gtr (.t 11) (.c (.int .i64 20))), (some (8, false)), [], false⟩, ⟨(some 13), (.pick (.t 8) (.c (.bool true)) (.t 12)), none, [], false⟩, ⟨(some 14), (.mv (.t 13)), none, [], false⟩, ⟨(some 15), (.faddr 2 (.t 1)), (some (14, false)), [], false⟩, ⟨(some 16), (.load none (.t 15)), (some (14, false)), [], false⟩, ⟨(some 17), (.lenSl (.t 16)), (some (14, false)), [], false⟩, ⟨(some 18), (.bin .gtr (.t 17) (.c (.int .i64 10))), (some (14, false)), [], false⟩, ⟨(some 19), (.pick (.t 14) (.c (.bool true)) (.t 18)), none, [], false⟩]) (.cond (.t 19) (
  .seq (
  .region [⟨(some 2), (.mv (.c (.bool false))), none, [], false⟩]) .ret) .skip)) (
  .seq (
  .seq (
  .region [⟨(some 3), (.mv (.c (.int .i64 0))), none, [], false⟩]) (.block 0 (.loop (
  .seq (
  .seq (
  .region [⟨(some 20), (.mv (.t 3)), none, [], false⟩, ⟨(some 21), (.faddr 2 (.t 1)), none, [], false⟩, ⟨(some 22), (.load none (.t 21)), none, [], false⟩, ⟨(some 23), (.lenSl (.t 22)), none, [], false⟩, ⟨(some 24), (.bin .lss (.t 20) (.t 23)), none, [], false⟩]) (.cond (.t 24) .skip (.exit 0))) (
  .seq (.block 1 (
  .seq (
  .seq (
  .region [⟨(some 27), (.faddr 2 (.t 1)), none, [], false⟩, ⟨(some 28), (.load none (.t 27)), none, [], false⟩, ⟨(some 29), (.mv (.t 3)), none, [], false⟩, ⟨(some 30), (.iaddr 1 (.t 28) (.t 29)), none, [], false⟩, ⟨(some 31), (.load none (.t 30)), none, [], false⟩, ⟨(some 32), (.lenSl (.t 31)), none, [], false⟩, ⟨(some 33), (.bin .gtr (.t 32) (.c (.int .i64 20))), none, [], false⟩]) (.cond (.t 33) (
  .seq (
  .region [⟨(some 2), (.mv (.c (.bool false))), none, [], false⟩]) .ret) .skip)) (
  .seq (
  .region [⟨(some 4), (.mv (.c (.int .i64 0))), none, [], false⟩]) (.block 2 (.loop (
  .seq (
  .seq (
  .region [⟨(some 34), (.mv (.t 4)), none, [], false⟩, ⟨(some 35), (.faddr 2 (.t 1)), none, [], false⟩, ⟨(some 36), (.load none (.t 35)), none, [], false⟩, ⟨(some 37), (.mv (.t 3)), none, [], false⟩, ⟨(some 38), (.iaddr 1 (.t 36) (.t 37)), none, [], false⟩, ⟨(some 39), (.load none (.t 38)), none, [], false⟩, ⟨(some 40), (.lenSl (.t 39)), none, [], false⟩, ⟨(some 41), (.bin .lss (.t 34) (.t 40)), none, [], false⟩]) (.cond (.t 41) .skip (.exit 2))) (
  .seq (.block 3 (
  .seq (
  .region [⟨(some 44), (.faddr 2 (.t 1)), none, [], false⟩, ⟨(some 45), (.load none (.t 44)), none, [], false⟩, ⟨(some 46), (.mv (.t 3)), none, [], false⟩, ⟨(some 47), (.iaddr 1 (.t 45) (.t 46)), none, [], false⟩, ⟨(some 48), (.load none (.t 47)), none, [], false⟩, ⟨(some 49), (.mv (.t 4)), none, [], false⟩, ⟨(some 50), (.iaddr 1 (.t 48) (.t 49)), none, [], false⟩, ⟨(some 51), (.load none (.t 50)), none, [], false⟩, ⟨(some 52), (.lenSl (.t 51)), none, [], false⟩, ⟨(some 53), (.bin .gtr (.t 52) (.c (.int .i64 20))), none, [], false⟩]) (.cond (.t 53) (
  .seq (
  .region [⟨(some 2), (.mv (.c (.bool false))), none, [], false⟩]) .ret) .skip))) (
  .region [⟨(some 42), (.mv (.t 4)), none, [], false⟩, ⟨(some 43), (.bin .add (.t 42) (.c (.int .i64 1))), none, [], false⟩, ⟨(some 4), (.mv (.t 43)), none, [], false⟩])))))))) (
  .region [⟨(some 25), (.mv (.t 3)), none, [], false⟩, ⟨(some 26), (.bin .add (.t 25) (.c (.int .i64 1))), none, [], false⟩, ⟨(some 3), (.mv (.t 26)), none, [], false⟩])))))) (
  .seq (
  .region [⟨(some 2), (.mv (.c (.bool true))), none, [], false⟩]) .ret))))⟩
theorem c9 : compFunc Tryd.prog GL [] Tryd.f9 = some l9 := by kernel_rfl
def l18 : LFunc := ⟨134, [(.tmp 2)],
  (
  .seq (
  .region [⟨(some 1), (.box true (.t 0)), none, [], false⟩, ⟨(some 2), (.mv (.c (.bool false))), none, [], false⟩]) (
  .seq (
  .seq (
  .region [⟨(some 8), (.faddr 0 (.t 1)), none, [], false⟩, ⟨(some 9), (.load none (.t 8)), none, [], false⟩, ⟨(some 10), (.bin .lss (.t 9) (.c (.int .i64 1))), none, [], false⟩, ⟨(some 11), (.mv (.t 10)), none, [], false⟩, ⟨(some 12), (.faddr 0 (.t 1)), (some (11, false)), [], false⟩, ⟨(some 13), (.load none (.t 12)), (some (11, false)), [], false⟩, ⟨(some 14), (.bin .gtr (.t 13) (.c (.int .i64 64))), (some (11, false)), [], false⟩, ⟨(some 15), (.pick (.t 11) (.c (.bool true)) (.t 14)), none, [], false⟩, ⟨(some 16), (.mv (.t 15)), none, [], false⟩, ⟨(some 17), (.faddr 2 (.t 1)), (some (16, false)), [], false⟩, ⟨(some 18), (.load none (.t 17)), (some (16, false)), [], false⟩, ⟨(some 19), (.lenSl (.t 18)), (some (16, false)), [], false⟩, ⟨(some 20), (.bin .gtr (.t 19) (.c (.int .i64 3000))), (some (16, false)), [], false⟩, ⟨(some 21), (.pick (.t 16) (.c (.bool true)) (.t 20)), none, [], false⟩]) (.cond (.t 21) (
  .seq (
  .region [⟨(some 2), (.mv (.c (.bool false))), none, [], false⟩]) .ret) .skip)) (
  .seq (
  .seq (
  .region [⟨(some 3), (.mv (.c (.int .i64 0))), none, [], false⟩]) (.block 0 (.loop (
  .seq (
  .seq (
  .region [⟨(some 22), (.mv (.t 3)), none, [], false⟩, ⟨(some 23), (.faddr 1 (.t 1)), none, [], false⟩, ⟨(some 24), (.load none (.t 23)), none, [], false⟩, ⟨(some 25), (.lenSl (.t 24)), none, [], false⟩, ⟨(some 26), (.bin .lss (.t 22) (.t 25)), none, [], false⟩]) (.cond (.t 26) .skip (.exit 0))) (
  .seq (.block 1 (
  .seq (
  .region [⟨(some 29), (.faddr 1 (.t 1)), none, [], true⟩, ⟨(some 30), (.load none (.t 29)), none, [], true⟩, ⟨(some 31), (.mv (.t 3)), none, [], true⟩, ⟨(some 32), (.iaddr 1 (.t 30) (.t 31)), none, [], true⟩, ⟨(some 33), (.load none (.t 32)), none, [], true⟩, ⟨(some 34), (.bin .lss (.t 33) (.c (.int .i64 0))), none, [], true⟩, ⟨(some 35), (.mv (.t 34)), none, [], true⟩, ⟨(some 36), (.faddr 1 (.t 1)), (some (35, false)), [], true⟩, ⟨(some 37), (.load none (.t 36)), (some (35, false)), [], true⟩, ⟨(some 38), (.mv (.t 3)), (some (35, false)), [], true⟩, ⟨(some 39), (.iaddr 1 (.t 37) (.t 38)), (some (35, false)), [], true⟩, ⟨(some 40), (.load none (.t 39)), (some (35, false)), [], true⟩, ⟨(some 41), (.faddr 2 (.t 1)), (some (35, false)), [], true⟩, ⟨(some 42), (.load none (.t 41)), (some (35, false)), [], true⟩, ⟨(some 43), (.lenSl (.t 42)), (some (35, false)), [], true⟩, ⟨(some 44), (.bin .geq (.t 40) (.t 43)), (some (35, false)), [], true⟩, ⟨(some 45), (.pick (.t 35) (.c (.bool true)) (.t 44)), none, [], true⟩, ⟨(some 46), (.mv (.t 45)), none, [], true⟩, ⟨(some 47), (.mv (.t 3)), (some (46, false)), [], true⟩, ⟨(some 48), (.bin .gtr (.t 47) (.c (.int .i64 0))), (some (46, false)), [], true⟩, ⟨(some 49), (.mv (.t 48)), (some (46, false)), [], true⟩, ⟨(some 50), (.faddr 1 (.t 1)), (some (49, true)), [], true⟩, ⟨(some 51), (.load none (.t 50)), (some (49, true)), [], true⟩, ⟨(some 52), (.mv (.t 3)), (some (49, true)), [], true⟩, ⟨(some 53), (.bin .sub (.t 52) (.c (.int .i64 1))), (some (49, true)), [], true⟩, ⟨(some 54), (.iaddr 1 (.t 51) (.t 53)), (some (49, true)), [], true⟩, ⟨(some 55), (.load none (.t 54)), (some (49, true)), [], true⟩, ⟨(some 56), (.faddr 1 (.t 1)), (some (49, true)), [], true⟩, ⟨(some 57), (.load none (.t 56)), (some (49, true)), [], true⟩, ⟨(some 58), (.mv (.t 3)), (some (49, true)), [], true⟩, ⟨(some 59), (.iaddr 1 (.t 57) (.t 58)), (some (49, true)), [], true⟩, ⟨(some 60), (.load none (.t 59)), (some (49, true)), [], true⟩, ⟨(some 61), (.bin .geq (.t 55) (.t 60)), (some (49, true)), [], true⟩, ⟨(some 62), (.pick (.t 49) (.t 61) (.c (.bool false))), (some (46, false)), [], true⟩, ⟨(some 63), (.pick (.t 46) (.c (.bool true)) (.t 62)), none, [], true⟩]) (.cond (.t 63) (
  .seq (
  .region [⟨(some 2), (.mv (.c (.bool false))), none, [], false⟩]) .ret) .skip))) (
  .region [⟨(some 27), (.mv (.t 3)), none, [], false⟩, ⟨(some 28), (.bin .add (.t 27) (.c (.int .i64 1))), none, [], false⟩, ⟨(some 3), (.mv (.t 28)), none, [], false⟩])))))) (
  .seq (
  .seq (
  .region [⟨(some 4), (.mv (.c (.int .i64 0))), none, [], false⟩]) (.block 2 (.loop (
  .seq (
  .seq (
  .region [⟨(some 64), (.mv (.t 4)), none, [], false⟩, ⟨(some 65), (.faddr 2 (.t 1)), none, [], false⟩, ⟨(some 66), (.load none (.t 65)), none, [], false⟩, ⟨(some 67), (.lenSl (.t 66)), none, [], false⟩, ⟨(some 68), (.bin .lss (.t 64) (.t 67)), none, [], false⟩]) (.cond (.t 68) .skip (.exit 2))) (
  .seq (.block 3 (
  .seq (
  .seq (
  .region [⟨(some 71), (.faddr 2 (.t 1)), none, [], true⟩, ⟨(some 72), (.load none (.t 71)), none, [], true⟩, ⟨(some 73), (.mv (.t 4)), none, [], true⟩, ⟨(some 74), (.iaddr 1 (.t 72) (.t 73)), none, [], true⟩, ⟨(some 75), (.load none (.t 74)), none, [], true⟩, ⟨(some 76), (.lenSl (.t 75)), none, [], true⟩, ⟨(some 77), (.faddr 0 (.t 1)), none, [], true⟩, ⟨(some 78), (.load none (.t 77)), none, [], true⟩, ⟨(some 79), (.bin .neq (.t 76) (.t 78)), none, [], true⟩]) (.cond (.t 79) (
  .seq (
  .region [⟨(some 2), (.mv (.c (.bool false))), none, [], false⟩]) .ret) .skip)) (
  .seq (
  .region [⟨(some 5), (.mv (.c (.int .i64 0))), none, [], false⟩]) (.block 4 (.loop (
  .seq (
  .seq (
  .region [⟨(some 80), (.mv (.t 5)), none, [], false⟩, ⟨(some 81), (.faddr 0 (.t 1)), none, [], false⟩, ⟨(some 82), (.load none (.t 81)), none, [], false⟩, ⟨(some 83), (.bin .lss (.t 80) (.t 82)), none, [], false⟩]) (.cond (.t 83) .skip (.exit 4))) (
  .seq (.block 5 (
  .seq (
  .region [⟨(some 86), (.faddr 2 (.t 1)), none, [], false⟩, ⟨(some 87), (.load none (.t 86)), none, [], false⟩, ⟨(some 88), (.mv (.t 4)), none, [], false⟩, ⟨(some 89), (.iaddr 1 (.t 87) (.t 88)), none, [], false⟩, ⟨(some 90), (.load none (.t 89)), none, [], false⟩, ⟨(some 91), (.mv (.t 5)), none, [], false⟩, ⟨(some 92), (.iaddr 1 (.t 90) (.t 91)), none, [], false⟩, ⟨(some 93), (.load none (.t 92)), none, [], false⟩, ⟨(some 6), (.mv (.t 93)), none, [], false⟩]) (
  .seq (
  .region [⟨(some 7), (.mv (.c (.int .i64 0))), none, [], false⟩]) (.block 6 (.loop (
  .seq (
  .seq (
  .region [⟨(some 94), (.mv (.t 7)), none, [], false⟩, ⟨(some 95), (.mv (.t 6)), none, [], false⟩, ⟨(some 96), (.lenSl (.t 95)), none, [], false⟩, ⟨(some 97), (.bin .lss (.t 94) (.t 96)), none, [], false⟩]) (.cond (.t 97) .skip (.exit 6))) (
  .seq (.block 7 (
  .seq (
  .region [⟨(some 100), (.mv (.t 6)), none, [], true⟩, ⟨(some 101), (.mv (.t 7)), none, [], true⟩, ⟨(some 102), (.iaddr 2 (.t 100) (.t 101)), none, [], true⟩, ⟨(some 103), (.faddr 0 (.t 102)), none, [], true⟩, ⟨(some 104), (.load none (.t 103)), none, [], true⟩, ⟨(some 105), (.bin .lss (.t 104) (.c (.int .i64 0))), none, [], true⟩, ⟨(some 106), (.mv (.t 105)), none, [], true⟩, ⟨(some 107), (.mv (.t 6)), (some (106, false)), [], true⟩, ⟨(some 108), (.mv (.t 7)), (some (106, false)), [], true⟩, ⟨(some 109), (.iaddr 2 (.t 107) (.t 108)), (some (106, false)), [], true⟩, ⟨(some 110), (.faddr 0 (.t 109)), (some (106, false)), [], true⟩, ⟨(some 111), (.load none (.t 110)), (some (106, false)), [], true⟩, ⟨(some 112), (.faddr 2 (.t 1)), (some (106, false)), [], true⟩, ⟨(some 113), (.load none (.t 112)), (some (106, false)), [], true⟩, ⟨(some 114), (.lenSl (.t 113)), (some (106, false)), [], true⟩, ⟨(some 115), (.bin .geq (.t 111) (.t 114)), (some (106, false)), [], true⟩, ⟨(some 116), (.pick (.t 106) (.c (.bool true)) (.t 115)), none, [], true⟩, ⟨(some 117), (.mv (.t 116)), none, [], true⟩, ⟨(some 118), (.mv (.t 7)), (some (117, false)), [], true⟩, ⟨(some 119), (.bin .gtr (.t 118) (.c (.int .i64 0))), (some (117, false)), [], true⟩, ⟨(some 120), (.mv (.t 119)), (some (117, false)), [], true⟩, ⟨(some 121), (.mv (.t 6)), (some (120, true)), [], true⟩, ⟨(some 122), (.mv (.t 7)), (some (120, true)), [], true⟩, ⟨(some 123), (.bin .sub (.t 122) (.c (.int .i64 1))), (some (120, true)), [], true⟩, ⟨(some 124), (.iaddr 2 (.t 121) (.t 123)), (some (120, true)), [], true⟩, ⟨(some 125), (.load (some 2) (.t 124)), (some (120, true)), [], true⟩, ⟨(some 126), (.mv (.t 6)), (some (120, true)), [], true⟩, ⟨(some 127), (.mv (.t 7)), (some (120, true)), [], true⟩, ⟨(some 128), (.iaddr 2 (.t 126) (.t 127)), (some (120, true)), [], true⟩, ⟨(some 129), (.load (some 2) (.t 128)), (some (120, true)), [], true⟩, ⟨(some 130), (.call (.c (.fn (.func 36) [] [])) [(.t 125), (.t 129)]), (some (120, true)), [], true⟩, ⟨(some 131), (.un .not (.t 130)), (some (120, true)), [], true⟩, ⟨(some 132), (.pick (.t 120) (.t 131) (.c (.bool false))), (some (117, false)), [], true⟩, ⟨(some 133), (.pick (.t 117) (.c (.bool true)) (.t 132)), none, [], true⟩]) (.cond (.t 133) (
  .seq (
  .region [⟨(some 2), (.mv (.c (.bool false))), none, [], false⟩]) .ret) .skip))) (
  .region [⟨(some 98), (.mv (.t 7)), none, [], false⟩, ⟨(some 99), (.bin .add (.t 98) (.c (.int .i64 1))), none, [], false⟩, ⟨(some 7), (.mv (.t 99)), none, [], false⟩])))))))) (
  .region [⟨(some 84), (.mv (.t 5)), none, [], false⟩, ⟨(some 85), (.bin .add (.t 84) (.c (.int .i64 1))), none, [], false⟩, ⟨(some 5), (.mv (.t 85)), none, [], false⟩])))))))) (
  .region [⟨(some 69), (.mv (.t 4)), none, [], false⟩, ⟨(some 70), (.bin .add (.t 69) (.c (.int .i64 1))), none, [], false⟩, ⟨(some 4), (.mv (.t 70)), none, [], false⟩])))))) (
  .seq (
  .region [⟨(some 2), (.mv (.c (.bool true))), none, [], false⟩]) .ret)))))⟩
theorem c18 : compFunc Tryd.prog GL [] Tryd.f18 = some l18 := by kernel_rfl
def l36 : LFunc := ⟨26, [(.tmp 4)],
  (
  .seq (
  .region [⟨(some 2), (.box true (.t 0)), none, [], false⟩, ⟨(some 3), (.box true (.t 1)), none, [], false⟩, ⟨(some 4), (.mv (.c (.bool false))), none, [], false⟩]) (
  .seq (
  .region [⟨(some 5), (.faddr 0 (.t 2)), none, [], false⟩, ⟨(some 6), (.load none (.t 5)), none, [], false⟩, ⟨(some 7), (.faddr 0 (.t 3)), none, [], false⟩, ⟨(some 8), (.load none (.t 7)), none, [], false⟩, ⟨(some 9), (.bin .lss (.t 6) (.t 8)), none, [], false⟩, ⟨(some 10), (.mv (.t 9)), none, [], false⟩, ⟨(some 11), (.faddr 0 (.t 2)), (some (10, false)), [], false⟩, ⟨(some 12), (.load none (.t 11)), (some (10, false)), [], false⟩, ⟨(some 13), (.faddr 0 (.t 3)), (some (10, false)), [], false⟩, ⟨(some 14), (.load none (.t 13)), (some (10, false)), [], false⟩, ⟨(some 15), (.bin .eql (.t 12) (.t 14)), (some (10, false)), [], false⟩, ⟨(some 16), (.mv (.t 15)), (some (10, false)), [], false⟩, ⟨(some 17), (.faddr 1 (.t 2)), (some (16, true)), [], false⟩, ⟨(some 18), (.load none (.t 17)), (some (16, true)), [], false⟩, ⟨(some 19), (.un .not (.t 18)), (some (16, true)), [], false⟩, ⟨(some 20), (.pick (.t 16) (.t 19) (.c (.bool false))), (some (10, false)), [], false⟩, ⟨(some 21), (.mv (.t 20)), (some (10, false)), [], false⟩, ⟨(some 22), (.faddr 1 (.t 3)), (some (21, true)), [], false⟩, ⟨(some 23), (.load none (.t 22)), (some (21, true)), [], false⟩, ⟨(some 24), (.pick (.t 21) (.t 23) (.c (.bool false))), (some (10, false)), [], false⟩, ⟨(some 25), (.pick (.t 10) (.c (.bool true)) (.t 24)), none, [], false⟩, ⟨(some 4), (.mv (.t 25)), none, [], false⟩]) .ret))⟩
theorem c36 : compFunc Tryd.prog GL [] Tryd.f36 = some l36 := by kernel_rfl
end Go.Proofs.YtohldpfjnllkdaaDoor
