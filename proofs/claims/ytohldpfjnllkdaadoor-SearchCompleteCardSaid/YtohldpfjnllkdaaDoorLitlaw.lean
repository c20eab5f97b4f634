/- Plain forms of functions, by program. -/
import Derived.Test.YtohldpfjnllkdaaDoorProg
import Derived.Test.YtohldpfjnllkdaaDoorPvComp
import Derived.Test.YtohldpfjnllkdaaDoorGl
import Derived.KernelRfl
set_option linter.unusedSimpArgs false
set_option linter.unusedVariables false
namespace Go.Proofs.YtohldpfjnllkdaaDoor
open Go Go.Pv
set_option maxRecDepth 100000
def l4 : LFunc := ⟨64, [(.tmp 2)],
  (
  .seq (
  .region [⟨(some 1), (.box true (.t 0)), none, [], false⟩, ⟨(some 2), (.mv (.c (.bool false))), none, [], false⟩]) (
  .seq (
  .region [⟨(some 6), (.call (.c (.fn (.func 8) [] [])) []), none, [], false⟩, ⟨(some 3), (.mv (.t 6)), none, [], false⟩]) (
  .seq (
  .seq (
  .region [⟨(some 7), (.load (some 3) (.t 1)), none, [], false⟩, ⟨(some 8), (.call (.c (.fn (.func 9) [] [])) [(.t 7)]), none, [], false⟩, ⟨(some 9), (.un .not (.t 8)), none, [], false⟩, ⟨(some 10), (.mv (.t 9)), none, [], false⟩, ⟨(some 11), (.load (some 3) (.t 1)), (some (10, false)), [], false⟩, ⟨(some 12), (.call (.c (.fn (.func 18) [] [])) [(.t 11)]), (some (10, false)), [], false⟩, ⟨(some 13), (.un .not (.t 12)), (some (10, false)), [], false⟩, ⟨(some 14), (.pick (.t 10) (.c (.bool true)) (.t 13)), none, [], false⟩]) (.cond (.t 14) (
  .seq (
  .region [⟨(some 15), (.mv (.t 3)), none, [], false⟩, ⟨(some 2), (.mv (.t 15)), none, [], false⟩]) .ret) .skip)) (
  .seq (
  .region [⟨(some 17), (.load (some 3) (.t 1)), none, [], false⟩, ⟨(some 18), (.call (.c (.fn (.func 10) [] [])) [(.t 17)]), none, [], false⟩, ⟨(some 16), (.mv (.t 18)), none, [], false⟩, ⟨(some 19), (.ext (.t 16) 0), none, [], false⟩, ⟨(some 20), (.ext (.t 16) 1), none, [], false⟩, ⟨(some 4), (.alloc [.nils, .nils]), none, [], false⟩, ⟨none, (.store 2 (.t 4) (.t 19)), none, [], false⟩, ⟨(some 5), (.mv (.t 20)), none, [], false⟩]) (
  .seq (
  .seq (
  .region [⟨(some 21), (.mv (.t 5)), none, [], false⟩, ⟨(some 22), (.un .not (.t 21)), none, [], false⟩]) (.cond (.t 22) (
  .seq (
  .region [⟨(some 23), (.mv (.t 3)), none, [], false⟩, ⟨(some 24), (.mv (.t 23)), none, [], false⟩, ⟨(some 25), (.faddr 0 (.t 4)), (some (24, true)), [], false⟩, ⟨(some 26), (.load none (.t 25)), (some (24, true)), [], false⟩, ⟨(some 27), (.lenSl (.t 26)), (some (24, true)), [], false⟩, ⟨(some 28), (.faddr 1 (.t 4)), (some (24, true)), [], false⟩, ⟨(some 29), (.load none (.t 28)), (some (24, true)), [], false⟩, ⟨(some 30), (.lenSl (.t 29)), (some (24, true)), [], false⟩, ⟨(some 31), (.bin .add (.t 27) (.t 30)), (some (24, true)), [], false⟩, ⟨(some 32), (.bin .eql (.t 31) (.c (.int .i64 0))), (some (24, true)), [], false⟩, ⟨(some 33), (.pick (.t 24) (.t 32) (.c (.bool false))), none, [], false⟩, ⟨(some 2), (.mv (.t 33)), none, [], false⟩]) .ret) .skip)) (
  .seq (
  .region [⟨(some 34), (.mv (.t 3)), none, [], false⟩, ⟨(some 35), (.mv (.t 34)), none, [], false⟩, ⟨(some 36), (.faddr 0 (.t 4)), (some (35, true)), [], false⟩, ⟨(some 37), (.load none (.t 36)), (some (35, true)), [], false⟩, ⟨(some 38), (.lenSl (.t 37)), (some (35, true)), [], false⟩, ⟨(some 39), (.faddr 2 (.t 1)), (some (35, true)), [], false⟩, ⟨(some 40), (.load none (.t 39)), (some (35, true)), [], false⟩, ⟨(some 41), (.lenSl (.t 40)), (some (35, true)), [], false⟩, ⟨(some 42), (.bin .lss (.t 38) (.t 41)), (some (35, true)), [], false⟩, ⟨(some 43), (.pick (.t 35) (.t 42) (.c (.bool false))), none, [], false⟩, ⟨(some 44), (.mv (.t 43)), none, [], false⟩, ⟨(some 45), (.faddr 1 (.t 4)), (some (44, true)), [], false⟩, ⟨(some 46), (.load none (.t 45)), (some (44, true)), [], false⟩, ⟨(some 47), (.lenSl (.t 46)), (some (44, true)), [], false⟩, ⟨(some 48), (.bin .gtr (.t 47) (.c (.int .i64 0))), (some (44, true)), [], false⟩, ⟨(some 49), (.pick (.t 44) (.t 48) (.c (.bool false))), none, [], false⟩, ⟨(some 50), (.mv (.t 49)), none, [], false⟩, ⟨(some 51), (.faddr 1 (.t 4)), (some (50, true)), [], false⟩, ⟨(some 52), (.load none (.t 51)), (some (50, true)), [], false⟩, ⟨(some 53), (.lenSl (.t 52)), (some (50, true)), [], false⟩, ⟨(some 54), (.faddr 2 (.t 1)), (some (50, true)), [], false⟩, ⟨(some 55), (.load none (.t 54)), (some (50, true)), [], false⟩, ⟨(some 56), (.lenSl (.t 55)), (some (50, true)), [], false⟩, ⟨(some 57), (.bin .leq (.t 53) (.t 56)), (some (50, true)), [], false⟩, ⟨(some 58), (.pick (.t 50) (.t 57) (.c (.bool false))), none, [], false⟩, ⟨(some 59), (.mv (.t 58)), none, [], false⟩, ⟨(some 60), (.load (some 3) (.t 1)), (some (59, true)), [], false⟩, ⟨(some 61), (.load (some 2) (.t 4)), (some (59, true)), [], false⟩, ⟨(some 62), (.call (.c (.fn (.func 19) [] [])) [(.t 60), (.t 61)]), (some (59, true)), [], false⟩, ⟨(some 63), (.pick (.t 59) (.t 62) (.c (.bool false))), none, [], false⟩, ⟨(some 2), (.mv (.t 63)), none, [], false⟩]) .ret))))))⟩
theorem c4 : compFunc Tryd.prog GL [] Tryd.f4 = some l4 := by kernel_rfl
def l5 : LFunc := ⟨45, [(.tmp 4)],
  (
  .seq (
  .region [⟨(some 2), (.box true (.t 0)), none, [], false⟩, ⟨(some 3), (.box true (.t 1)), none, [], false⟩, ⟨(some 4), (.mv (.c (.bool false))), none, [], false⟩]) (
  .seq (
  .region [⟨(some 8), (.call (.c (.fn (.func 8) [] [])) []), none, [], false⟩, ⟨(some 5), (.mv (.t 8)), none, [], false⟩]) (
  .seq (
  .seq (
  .region [⟨(some 9), (.load (some 3) (.t 2)), none, [], false⟩, ⟨(some 10), (.call (.c (.fn (.func 9) [] [])) [(.t 9)]), none, [], false⟩, ⟨(some 11), (.un .not (.t 10)), none, [], false⟩, ⟨(some 12), (.mv (.t 11)), none, [], false⟩, ⟨(some 13), (.load (some 3) (.t 2)), (some (12, false)), [], false⟩, ⟨(some 14), (.call (.c (.fn (.func 18) [] [])) [(.t 13)]), (some (12, false)), [], false⟩, ⟨(some 15), (.un .not (.t 14)), (some (12, false)), [], false⟩, ⟨(some 16), (.pick (.t 12) (.c (.bool true)) (.t 15)), none, [], false⟩, ⟨(some 17), (.mv (.t 16)), none, [], false⟩, ⟨(some 18), (.load (some 2) (.t 3)), (some (17, false)), [], false⟩, ⟨(some 19), (.call (.c (.fn (.func 20) [] [])) [(.t 18)]), (some (17, false)), [], false⟩, ⟨(some 20), (.un .not (.t 19)), (some (17, false)), [], false⟩, ⟨(some 21), (.pick (.t 17) (.c (.bool true)) (.t 20)), none, [], false⟩, ⟨(some 22), (.mv (.t 21)), none, [], false⟩, ⟨(some 23), (.faddr 0 (.t 2)), (some (22, false)), [], false⟩, ⟨(some 24), (.load none (.t 23)), (some (22, false)), [], false⟩, ⟨(some 25), (.load (some 2) (.t 3)), (some (22, false)), [], false⟩, ⟨(some 26), (.call (.c (.fn (.func 21) [] [])) [(.t 24), (.t 25)]), (some (22, false)), [], false⟩, ⟨(some 27), (.un .not (.t 26)), (some (22, false)), [], false⟩, ⟨(some 28), (.pick (.t 22) (.c (.bool true)) (.t 27)), none, [], false⟩, ⟨(some 29), (.mv (.t 28)), none, [], false⟩, ⟨(some 30), (.load (some 3) (.t 2)), (some (29, false)), [], false⟩, ⟨(some 31), (.load (some 2) (.t 3)), (some (29, false)), [], false⟩, ⟨(some 32), (.call (.c (.fn (.func 19) [] [])) [(.t 30), (.t 31)]), (some (29, false)), [], false⟩, ⟨(some 33), (.un .not (.t 32)), (some (29, false)), [], false⟩, ⟨(some 34), (.pick (.t 29) (.c (.bool true)) (.t 33)), none, [], false⟩]) (.cond (.t 34) (
  .seq (
  .region [⟨(some 35), (.mv (.t 5)), none, [], false⟩, ⟨(some 4), (.mv (.t 35)), none, [], false⟩]) .ret) .skip)) (
  .seq (
  .region [⟨(some 37), (.load (some 3) (.t 2)), none, [], false⟩, ⟨(some 38), (.call (.c (.fn (.func 10) [] [])) [(.t 37)]), none, [], false⟩, ⟨(some 36), (.mv (.t 38)), none, [], false⟩, ⟨(some 39), (.ext (.t 36) 0), none, [], false⟩, ⟨(some 40), (.ext (.t 36) 1), none, [], false⟩, ⟨(some 6), (.alloc [.nils, .nils]), none, [], false⟩, ⟨none, (.store 2 (.t 6) (.t 39)), none, [], false⟩, ⟨(some 7), (.mv (.t 40)), none, [], false⟩]) (
  .seq (
  .region [⟨(some 41), (.mv (.t 5)), none, [], false⟩, ⟨(some 42), (.mv (.t 41)), none, [], false⟩, ⟨(some 43), (.mv (.t 7)), (some (42, true)), [], false⟩, ⟨(some 44), (.pick (.t 42) (.t 43) (.c (.bool false))), none, [], false⟩, ⟨(some 4), (.mv (.t 44)), none, [], false⟩]) .ret)))))⟩
theorem c5 : compFunc Tryd.prog GL [] Tryd.f5 = some l5 := by kernel_rfl
end Go.Proofs.YtohldpfjnllkdaaDoor
