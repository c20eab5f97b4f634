/- Plain forms of functions, by program. -/
import Derived.Test.YtohldpfjnllkdaaDoorProg
import Derived.Test.YtohldpfjnllkdaaDoorPvComp
import Derived.Test.YtohldpfjnllkdaaDoorGl
import Derived.KernelRfl
set_option linter.unusedSimpArgs false
set_option linter.unusedVariables false
namespace Go.Proofs.YtohldpfjnllkdaaDoor
open Go Go.Pv
set_option maxRecDepth 100000
def l10 : LFunc := ⟨82, [(.cell 2 (some 2)), (.tmp 3)],
  (
  .seq (
  .region [⟨(some 1), (.box true (.t 0)), none, [], false⟩, ⟨(some 2), (.alloc [.nils, .nils]), none, [], false⟩, ⟨(some 3), (.mv (.c (.bool false))), none, [], false⟩]) (.scope (
  .seq (
  .seq (
  .region [⟨(some 12), (.load (some 3) (.t 1)), none, [], false⟩, ⟨(some 13), (.call (.c (.fn (.func 24) [] [])) [(.t 12)]), none, [], false⟩, ⟨(some 14), (.un .not (.t 13)), none, [], false⟩]) (.cond (.t 14) (
  .seq (
  .region [⟨(some 15), (.build [.nils, .nils] []), none, [], false⟩, ⟨none, (.store 2 (.t 2) (.t 15)), none, [], false⟩, ⟨(some 3), (.mv (.c (.bool false))), none, [], false⟩]) .ret) .skip)) (
  .seq (
  .region [⟨(some 16), (.load (some 3) (.t 1)), none, [], false⟩, ⟨(some 17), (.call (.c (.fn (.func 27) [] [])) [(.t 16)]), none, [], false⟩, ⟨(some 4), (.alloc [.nils]), none, [], false⟩, ⟨none, (.store 1 (.t 4) (.t 17)), none, [], false⟩]) (
  .seq (
  .region [⟨(some 18), (.mkfn (.func 28) [] [(.t 1)]), none, [], false⟩, ⟨(some 5), (.alloc [.nilf]), none, [], false⟩, ⟨none, (.store 1 (.t 5) (.t 18)), none, [], false⟩]) (
  .seq (
  .region [⟨(some 6), (.alloc [.nils, .nils]), none, [], false⟩]) (
  .seq .skip (
  .seq (
  .seq (
  .region [⟨(some 19), (.load (some 3) (.t 1)), none, [], false⟩, ⟨(some 20), (.faddr 1 (.t 1)), none, [], false⟩, ⟨(some 21), (.load none (.t 20)), none, [], false⟩, ⟨(some 22), (.call (.c (.fn (.func 29) [] [])) [(.t 19), (.t 21)]), none, [], false⟩]) (.block 0 (.rangeFunc (.t 22) [23] (
  .region [⟨(some 7), (.alloc [(.int .i64 0), (.int .i64 0), (.int .i64 0)]), none, [], false⟩, ⟨none, (.store 3 (.t 7) (.t 23)), none, [], false⟩]) (.block 1 (
  .seq (
  .region [⟨(some 24), (.faddr 2 (.t 1)), none, [], false⟩, ⟨(some 25), (.load none (.t 24)), none, [], false⟩, ⟨(some 26), (.faddr 0 (.t 7)), none, [], false⟩, ⟨(some 27), (.load none (.t 26)), none, [], false⟩, ⟨(some 28), (.iaddr 1 (.t 25) (.t 27)), none, [], false⟩, ⟨(some 29), (.load none (.t 28)), none, [], false⟩, ⟨(some 30), (.lenSl (.t 29)), none, [], false⟩, ⟨(some 31), (.mv (.c (.int .i64 0))), none, [], false⟩]) (.block 2 (.loop (
  .seq (
  .region [⟨(some 32), (.bin .lss (.t 31) (.t 30)), none, [], false⟩]) (
  .seq (.cond (.t 32) .skip (.exit 2)) (
  .seq (.block 3 (
  .seq (
  .region [⟨(some 33), (.mv (.t 31)), none, [], false⟩, ⟨(some 34), (.iaddr 1 (.t 29) (.t 31)), none, [], false⟩, ⟨(some 35), (.load none (.t 34)), none, [], false⟩, ⟨(some 8), (.mv (.t 33)), none, [], false⟩, ⟨(some 9), (.mv (.t 35)), none, [], false⟩]) (
  .seq (
  .region [⟨(some 36), (.mv (.t 9)), none, [], false⟩, ⟨(some 37), (.lenSl (.t 36)), none, [], false⟩, ⟨(some 38), (.mv (.c (.int .i64 0))), none, [], false⟩]) (.block 4 (.loop (
  .seq (
  .region [⟨(some 39), (.bin .lss (.t 38) (.t 37)), none, [], false⟩]) (
  .seq (.cond (.t 39) .skip (.exit 4)) (
  .seq (.block 5 (
  .seq (
  .region [⟨(some 40), (.iaddr 2 (.t 36) (.t 38)), none, [], false⟩, ⟨(some 41), (.load (some 2) (.t 40)), none, [], false⟩, ⟨(some 11), (.alloc [(.int .i64 0), (.bool false)]), none, [], false⟩, ⟨none, (.store 2 (.t 11) (.t 41)), none, [], false⟩]) (
  .seq (
  .region [⟨(some 42), (.faddr 1 (.t 11)), none, [], true⟩, ⟨(some 43), (.load none (.t 42)), none, [], true⟩, ⟨(some 44), (.mv (.t 43)), none, [], true⟩, ⟨(some 45), (.load none (.t 4)), (some (44, true)), [], true⟩, ⟨(some 46), (.faddr 0 (.t 11)), (some (44, true)), [], true⟩, ⟨(some 47), (.load none (.t 46)), (some (44, true)), [], true⟩, ⟨(some 48), (.iaddr 1 (.t 45) (.t 47)), (some (44, true)), [], true⟩, ⟨(some 49), (.load none (.t 48)), (some (44, true)), [], true⟩, ⟨(some 50), (.load none (.t 4)), (some (44, true)), [], true⟩, ⟨(some 51), (.faddr 0 (.t 7)), (some (44, true)), [], true⟩, ⟨(some 52), (.load none (.t 51)), (some (44, true)), [], true⟩, ⟨(some 53), (.iaddr 1 (.t 50) (.t 52)), (some (44, true)), [], true⟩, ⟨(some 54), (.load none (.t 53)), (some (44, true)), [], true⟩, ⟨(some 55), (.bin .eql (.t 49) (.t 54)), (some (44, true)), [], true⟩, ⟨(some 56), (.pick (.t 44) (.t 55) (.c (.bool false))), none, [], true⟩]) (.cond (.t 56) (
  .seq (
  .region [⟨(some 57), (.load none (.t 5)), none, [], false⟩, ⟨(some 58), (.faddr 1 (.t 1)), none, [], false⟩, ⟨(some 59), (.load none (.t 58)), none, [], false⟩, ⟨(some 60), (.faddr 0 (.t 7)), none, [], false⟩, ⟨(some 61), (.load none (.t 60)), none, [], false⟩, ⟨(some 62), (.call (.t 57) [(.t 59), (.t 61)]), none, [], false⟩, ⟨(some 63), (.faddr 0 (.t 6)), none, [], false⟩, ⟨none, (.store 1 (.t 63) (.t 62)), none, [], false⟩]) (
  .seq (
  .region [⟨(some 64), (.mv (.t 8)), none, [], false⟩, ⟨(some 65), (.bslice 1 1 [(.int .i64 0)] [(0, (1, (.t 64)))]), none, [], false⟩, ⟨(some 66), (.load none (.t 5)), none, [], false⟩, ⟨(some 67), (.faddr 0 (.t 11)), none, [], false⟩, ⟨(some 68), (.load none (.t 67)), none, [], false⟩, ⟨(some 69), (.bslice 1 1 [(.int .i64 0)] [(0, (1, (.t 68)))]), none, [], false⟩, ⟨(some 70), (.faddr 0 (.t 7)), none, [], false⟩, ⟨(some 71), (.load none (.t 70)), none, [], false⟩, ⟨(some 72), (.call (.t 66) [(.t 69), (.t 71)]), none, [], false⟩, ⟨(some 73), (.append 1 8 (.t 65) (.t 72)), none, [], false⟩, ⟨(some 74), (.faddr 1 (.t 6)), none, [], false⟩, ⟨none, (.store 1 (.t 74) (.t 73)), none, [], false⟩]) (.exit 0))) .skip)))) (
  .region [⟨(some 75), (.bin .add (.t 38) (.c (.int .i64 1))), none, [], false⟩, ⟨(some 38), (.mv (.t 75)), none, [], false⟩]))))))))) (
  .region [⟨(some 76), (.bin .add (.t 31) (.c (.int .i64 1))), none, [], false⟩, ⟨(some 31), (.mv (.t 76)), none, [], false⟩]))))))))))) (
  .seq (
  .region [⟨(some 77), (.load (some 2) (.t 6)), none, [], true⟩, ⟨(some 78), (.faddr 1 (.t 6)), none, [], true⟩, ⟨(some 79), (.load none (.t 78)), none, [], true⟩, ⟨(some 80), (.lenSl (.t 79)), none, [], true⟩, ⟨(some 81), (.bin .gtr (.t 80) (.c (.int .i64 0))), none, [], true⟩, ⟨none, (.store 2 (.t 2) (.t 77)), none, [(79, (none, (.load none (.t 78))))], true⟩, ⟨(some 3), (.mv (.t 81)), none, [], true⟩]) .ret)))))))))⟩
theorem c10 : compFunc Tryd.prog GL [] Tryd.f10 = some l10 := by kernel_rfl
def l28 : LFunc := ⟨48, [(.tmp 5)],
  (
  .seq (
  .region [⟨(some 4), (.box true (.t 1)), none, [], false⟩, ⟨(some 5), (.mv (.c .nils)), none, [], false⟩]) (
  .seq (
  .region [⟨(some 10), (.faddr 2 (.t 2)), none, [], false⟩, ⟨(some 11), (.load none (.t 10)), none, [], false⟩, ⟨(some 12), (.lenSl (.t 11)), none, [], false⟩, ⟨(some 13), (.mkslice 3 24 [(.int .i64 0), (.int .i64 0), (.int .i64 0)] (.t 12) (.t 12)), none, [], false⟩, ⟨(some 6), (.alloc [.nils]), none, [], false⟩, ⟨none, (.store 1 (.t 6) (.t 13)), none, [], false⟩]) (
  .seq (
  .seq (
  .region [⟨(some 14), (.load (some 3) (.t 2)), none, [], false⟩, ⟨(some 15), (.mv (.t 0)), none, [], false⟩, ⟨(some 16), (.call (.c (.fn (.func 29) [] [])) [(.t 14), (.t 15)]), none, [], false⟩]) (.block 0 (.rangeFunc (.t 16) [17] (
  .region [⟨(some 7), (.alloc [(.int .i64 0), (.int .i64 0), (.int .i64 0)]), none, [], false⟩, ⟨none, (.store 3 (.t 7) (.t 17)), none, [], false⟩]) (.block 1 (
  .seq (
  .region [⟨(some 18), (.load none (.t 6)), none, [], false⟩, ⟨(some 19), (.faddr 0 (.t 7)), none, [], false⟩, ⟨(some 20), (.load none (.t 19)), none, [], false⟩, ⟨(some 21), (.load (some 3) (.t 7)), none, [], false⟩, ⟨(some 22), (.iaddr 3 (.t 18) (.t 20)), none, [], false⟩, ⟨none, (.store 3 (.t 22) (.t 21)), none, [], false⟩]) (
  .seq (
  .region [⟨(some 23), (.faddr 0 (.t 7)), none, [], false⟩, ⟨(some 24), (.load none (.t 23)), none, [], false⟩, ⟨(some 25), (.load none (.t 4)), none, [], false⟩, ⟨(some 26), (.bin .eql (.t 24) (.t 25)), none, [], false⟩]) (.cond (.t 26) (.exit 0) .skip))))))) (
  .seq (
  .region [⟨(some 8), (.mv (.c .nils)), none, [], false⟩]) (
  .seq (
  .seq (
  .region [⟨(some 27), (.load none (.t 6)), none, [], false⟩, ⟨(some 28), (.load none (.t 4)), none, [], false⟩, ⟨(some 29), (.iaddr 3 (.t 27) (.t 28)), none, [], false⟩, ⟨(some 30), (.load (some 3) (.t 29)), none, [], false⟩, ⟨(some 9), (.alloc [(.int .i64 0), (.int .i64 0), (.int .i64 0)]), none, [], false⟩, ⟨none, (.store 3 (.t 9) (.t 30)), none, [], false⟩]) (.block 2 (.loop (
  .seq (
  .seq (
  .region [⟨(some 31), (.faddr 1 (.t 9)), none, [], false⟩, ⟨(some 32), (.load none (.t 31)), none, [], false⟩, ⟨(some 33), (.bin .geq (.t 32) (.c (.int .i64 0))), none, [], false⟩]) (.cond (.t 33) .skip (.exit 2))) (
  .seq (.block 3 (
  .region [⟨(some 39), (.mv (.t 8)), none, [], false⟩, ⟨(some 40), (.faddr 2 (.t 9)), none, [], false⟩, ⟨(some 41), (.load none (.t 40)), none, [], false⟩, ⟨(some 42), (.bslice 1 1 [(.int .i64 0)] [(0, (1, (.t 41)))]), none, [], false⟩, ⟨(some 43), (.append 1 8 (.t 39) (.t 42)), none, [], false⟩, ⟨(some 8), (.mv (.t 43)), none, [], false⟩])) (
  .seq (
  .seq (
  .region [⟨(some 44), (.load (some 3) (.t 9)), none, [], false⟩]) (
  .region [⟨(some 9), (.alloc [(.int .i64 0), (.int .i64 0), (.int .i64 0)]), none, [], false⟩, ⟨none, (.store 3 (.t 9) (.t 44)), none, [], false⟩])) (
  .region [⟨(some 34), (.load none (.t 6)), none, [], false⟩, ⟨(some 35), (.faddr 1 (.t 9)), none, [], false⟩, ⟨(some 36), (.load none (.t 35)), none, [], false⟩, ⟨(some 37), (.iaddr 3 (.t 34) (.t 36)), none, [], false⟩, ⟨(some 38), (.load (some 3) (.t 37)), none, [], false⟩, ⟨none, (.store 3 (.t 9) (.t 38)), none, [], false⟩]))))))) (
  .seq (
  .region [⟨(some 45), (.mv (.t 8)), none, [], false⟩, ⟨(some 46), (.call (.c (.fn (.func 30) [] [])) [(.t 45)]), none, [], false⟩]) (
  .seq (
  .region [⟨(some 47), (.mv (.t 8)), none, [], false⟩, ⟨(some 5), (.mv (.t 47)), none, [], false⟩]) .ret)))))))⟩
theorem c28 : compFunc Tryd.prog GL [] Tryd.f28 = some l28 := by kernel_rfl
def l29 : LFunc := ⟨6, [(.tmp 4)],
  (
  .seq (
  .region [⟨(some 2), (.box true (.t 0)), none, [], false⟩, ⟨(some 3), (.box true (.t 1)), none, [], false⟩, ⟨(some 4), (.mv (.c .nilf)), none, [], false⟩]) (
  .seq (
  .region [⟨(some 5), (.mkfn (.func 50) [] [(.t 2), (.t 3)]), none, [], false⟩, ⟨(some 4), (.mv (.t 5)), none, [], false⟩]) .ret))⟩
theorem c29 : compFunc Tryd.prog GL [] Tryd.f29 = some l29 := by kernel_rfl
def l50 : LFunc := ⟨75, [],
  (
  .seq (
  .region [⟨(some 15), (.faddr 2 (.t 1)), none, [], false⟩, ⟨(some 16), (.load none (.t 15)), none, [], false⟩, ⟨(some 17), (.lenSl (.t 16)), none, [], false⟩, ⟨(some 18), (.mkslice 1 1 [(.bool false)] (.t 17) (.t 17)), none, [], false⟩, ⟨(some 4), (.alloc [.nils]), none, [], false⟩, ⟨none, (.store 1 (.t 4) (.t 18)), none, [], false⟩]) (
  .seq (
  .region [⟨(some 5), (.alloc [.nils]), none, [], false⟩]) (
  .seq (
  .region [⟨(some 19), (.mkfn (.func 51) [] [(.t 4), (.t 5)]), none, [], false⟩, ⟨(some 6), (.mv (.t 19)), none, [], false⟩]) (
  .seq (
  .seq (
  .region [⟨(some 20), (.load none (.t 2)), none, [], false⟩, ⟨(some 21), (.lenSl (.t 20)), none, [], false⟩, ⟨(some 22), (.mv (.c (.int .i64 0))), none, [], false⟩]) (.block 0 (.loop (
  .seq (
  .region [⟨(some 23), (.bin .lss (.t 22) (.t 21)), none, [], false⟩]) (
  .seq (.cond (.t 23) .skip (.exit 0)) (
  .seq (.block 1 (
  .seq (
  .region [⟨(some 24), (.iaddr 1 (.t 20) (.t 22)), none, [], false⟩, ⟨(some 25), (.load none (.t 24)), none, [], false⟩, ⟨(some 8), (.mv (.t 25)), none, [], false⟩]) (
  .region [⟨(some 26), (.mv (.t 6)), none, [], false⟩, ⟨(some 27), (.mv (.t 8)), none, [], false⟩, ⟨(some 28), (.build [(.int .i64 0), (.int .i64 0), (.int .i64 0)] [(0, (1, (.t 27))), (1, (1, (.c (.int .i64 (-1)))))]), none, [], false⟩, ⟨(some 29), (.call (.t 26) [(.t 28)]), none, [], false⟩]))) (
  .region [⟨(some 30), (.bin .add (.t 22) (.c (.int .i64 1))), none, [], false⟩, ⟨(some 22), (.mv (.t 30)), none, [], false⟩]))))))) (
  .seq (
  .region [⟨(some 9), (.mv (.c (.int .i64 0))), none, [], false⟩]) (.block 2 (.loop (
  .seq (
  .seq (
  .region [⟨(some 31), (.mv (.t 9)), none, [], false⟩, ⟨(some 32), (.load none (.t 5)), none, [], false⟩, ⟨(some 33), (.lenSl (.t 32)), none, [], false⟩, ⟨(some 34), (.bin .lss (.t 31) (.t 33)), none, [], false⟩]) (.cond (.t 34) .skip (.exit 2))) (
  .seq (.block 3 (
  .seq (
  .region [⟨(some 37), (.load none (.t 5)), none, [], false⟩, ⟨(some 38), (.mv (.t 9)), none, [], false⟩, ⟨(some 39), (.iaddr 3 (.t 37) (.t 38)), none, [], false⟩, ⟨(some 40), (.faddr 0 (.t 39)), none, [], false⟩, ⟨(some 41), (.load none (.t 40)), none, [], false⟩, ⟨(some 10), (.mv (.t 41)), none, [], false⟩]) (
  .seq (
  .seq (
  .region [⟨(some 42), (.mv (.t 0)), none, [], false⟩, ⟨(some 43), (.load none (.t 5)), none, [], false⟩, ⟨(some 44), (.mv (.t 9)), none, [], false⟩, ⟨(some 45), (.iaddr 3 (.t 43) (.t 44)), none, [], false⟩, ⟨(some 46), (.load (some 3) (.t 45)), none, [], false⟩, ⟨(some 47), (.call (.t 42) [(.t 46)]), none, [], false⟩, ⟨(some 48), (.un .not (.t 47)), none, [], false⟩]) (.cond (.t 48) .ret .skip)) (
  .seq (
  .region [⟨(some 49), (.faddr 2 (.t 1)), none, [], false⟩, ⟨(some 50), (.load none (.t 49)), none, [], false⟩, ⟨(some 51), (.mv (.t 10)), none, [], false⟩, ⟨(some 52), (.iaddr 1 (.t 50) (.t 51)), none, [], false⟩, ⟨(some 53), (.load none (.t 52)), none, [], false⟩, ⟨(some 54), (.lenSl (.t 53)), none, [], false⟩, ⟨(some 55), (.mv (.c (.int .i64 0))), none, [], false⟩]) (.block 4 (.loop (
  .seq (
  .region [⟨(some 56), (.bin .lss (.t 55) (.t 54)), none, [], false⟩]) (
  .seq (.cond (.t 56) .skip (.exit 4)) (
  .seq (.block 5 (
  .seq (
  .region [⟨(some 57), (.mv (.t 55)), none, [], false⟩, ⟨(some 58), (.iaddr 1 (.t 53) (.t 55)), none, [], false⟩, ⟨(some 59), (.load none (.t 58)), none, [], false⟩, ⟨(some 11), (.mv (.t 57)), none, [], false⟩, ⟨(some 12), (.mv (.t 59)), none, [], false⟩]) (
  .seq (
  .region [⟨(some 60), (.mv (.t 12)), none, [], false⟩, ⟨(some 61), (.lenSl (.t 60)), none, [], false⟩, ⟨(some 62), (.mv (.c (.int .i64 0))), none, [], false⟩]) (.block 6 (.loop (
  .seq (
  .region [⟨(some 63), (.bin .lss (.t 62) (.t 61)), none, [], false⟩]) (
  .seq (.cond (.t 63) .skip (.exit 6)) (
  .seq (.block 7 (
  .seq (
  .region [⟨(some 64), (.iaddr 2 (.t 60) (.t 62)), none, [], false⟩, ⟨(some 65), (.load (some 2) (.t 64)), none, [], false⟩, ⟨(some 14), (.alloc [(.int .i64 0), (.bool false)]), none, [], false⟩, ⟨none, (.store 2 (.t 14) (.t 65)), none, [], false⟩]) (
  .region [⟨(some 66), (.mv (.t 6)), none, [], false⟩, ⟨(some 67), (.faddr 0 (.t 14)), none, [], false⟩, ⟨(some 68), (.load none (.t 67)), none, [], false⟩, ⟨(some 69), (.mv (.t 10)), none, [], false⟩, ⟨(some 70), (.mv (.t 11)), none, [], false⟩, ⟨(some 71), (.build [(.int .i64 0), (.int .i64 0), (.int .i64 0)] [(0, (1, (.t 68))), (1, (1, (.t 69))), (2, (1, (.t 70)))]), none, [], false⟩, ⟨(some 72), (.call (.t 66) [(.t 71)]), none, [], false⟩]))) (
  .region [⟨(some 73), (.bin .add (.t 62) (.c (.int .i64 1))), none, [], false⟩, ⟨(some 62), (.mv (.t 73)), none, [], false⟩]))))))))) (
  .region [⟨(some 74), (.bin .add (.t 55) (.c (.int .i64 1))), none, [], false⟩, ⟨(some 55), (.mv (.t 74)), none, [], false⟩])))))))))) (
  .region [⟨(some 35), (.mv (.t 9)), none, [], false⟩, ⟨(some 36), (.bin .add (.t 35) (.c (.int .i64 1))), none, [], false⟩, ⟨(some 9), (.mv (.t 36)), none, [], false⟩]))))))))))⟩
theorem c50 : compFunc Tryd.prog GL [] Tryd.f50 = some l50 := by kernel_rfl
def l51 : LFunc := ⟨18, [],
  (
  .seq (
  .region [⟨(some 3), (.box true (.t 0)), none, [], false⟩]) (
  .seq (
  .region [⟨(some 4), (.load none (.t 1)), none, [], false⟩, ⟨(some 5), (.faddr 0 (.t 3)), none, [], false⟩, ⟨(some 6), (.load none (.t 5)), none, [], false⟩, ⟨(some 7), (.iaddr 1 (.t 4) (.t 6)), none, [], false⟩, ⟨(some 8), (.load none (.t 7)), none, [], false⟩, ⟨(some 9), (.un .not (.t 8)), none, [], false⟩]) (.cond (.t 9) (
  .seq (
  .region [⟨(some 10), (.load none (.t 1)), none, [], false⟩, ⟨(some 11), (.faddr 0 (.t 3)), none, [], false⟩, ⟨(some 12), (.load none (.t 11)), none, [], false⟩, ⟨(some 13), (.iaddr 1 (.t 10) (.t 12)), none, [], false⟩, ⟨none, (.store 1 (.t 13) (.c (.bool true))), none, [], false⟩]) (
  .region [⟨(some 14), (.load none (.t 2)), none, [], false⟩, ⟨(some 15), (.load (some 3) (.t 3)), none, [], false⟩, ⟨(some 16), (.bslice 3 1 [(.int .i64 0), (.int .i64 0), (.int .i64 0)] [(0, (3, (.t 15)))]), none, [], false⟩, ⟨(some 17), (.append 3 24 (.t 14) (.t 16)), none, [], false⟩, ⟨none, (.store 1 (.t 2) (.t 17)), none, [], false⟩])) .skip)))⟩
theorem c51 : compFunc Tryd.prog GL [] Tryd.f51 = some l51 := by kernel_rfl
def l30 : LFunc := ⟨28, [],
  (
  .seq (
  .region [⟨(some 4), (.mv (.t 0)), none, [], false⟩, ⟨(some 5), (.lenSl (.t 4)), none, [], false⟩, ⟨(some 6), (.bin .sub (.t 5) (.c (.int .i64 1))), none, [], false⟩, ⟨(some 2), (.mv (.c (.int .i64 0))), none, [], false⟩, ⟨(some 3), (.mv (.t 6)), none, [], false⟩]) (.block 0 (.loop (
  .seq (
  .seq (
  .region [⟨(some 7), (.mv (.t 2)), none, [], false⟩, ⟨(some 8), (.mv (.t 3)), none, [], false⟩, ⟨(some 9), (.bin .lss (.t 7) (.t 8)), none, [], false⟩]) (.cond (.t 9) .skip (.exit 0))) (
  .seq (.block 1 (
  .region [⟨(some 14), (.mv (.t 0)), none, [], true⟩, ⟨(some 15), (.mv (.t 2)), none, [], true⟩, ⟨(some 16), (.mv (.t 0)), none, [], true⟩, ⟨(some 17), (.mv (.t 3)), none, [], true⟩, ⟨(some 18), (.mv (.t 0)), none, [], true⟩, ⟨(some 19), (.mv (.t 3)), none, [], true⟩, ⟨(some 20), (.iaddr 1 (.t 18) (.t 19)), none, [], true⟩, ⟨(some 21), (.load none (.t 20)), none, [], true⟩, ⟨(some 22), (.mv (.t 0)), none, [], true⟩, ⟨(some 23), (.mv (.t 2)), none, [], true⟩, ⟨(some 24), (.iaddr 1 (.t 22) (.t 23)), none, [], true⟩, ⟨(some 25), (.load none (.t 24)), none, [], true⟩, ⟨(some 26), (.iaddr 1 (.t 14) (.t 15)), none, [], true⟩, ⟨none, (.store 1 (.t 26) (.t 21)), none, [], true⟩, ⟨(some 27), (.iaddr 1 (.t 16) (.t 17)), none, [], true⟩, ⟨none, (.store 1 (.t 27) (.t 25)), none, [], true⟩])) (
  .region [⟨(some 10), (.mv (.t 2)), none, [], false⟩, ⟨(some 11), (.bin .add (.t 10) (.c (.int .i64 1))), none, [], false⟩, ⟨(some 12), (.mv (.t 3)), none, [], false⟩, ⟨(some 13), (.bin .sub (.t 12) (.c (.int .i64 1))), none, [], false⟩, ⟨(some 2), (.mv (.t 11)), none, [], false⟩, ⟨(some 3), (.mv (.t 13)), none, [], false⟩]))))))⟩
theorem c30 : compFunc Tryd.prog GL [] Tryd.f30 = some l30 := by kernel_rfl
def l27 : LFunc := ⟨39, [(.tmp 2)],
  (
  .seq (
  .region [⟨(some 1), (.box true (.t 0)), none, [], false⟩, ⟨(some 2), (.mv (.c .nils)), none, [], false⟩]) (
  .seq (
  .region [⟨(some 10), (.faddr 2 (.t 1)), none, [], false⟩, ⟨(some 11), (.load none (.t 10)), none, [], false⟩, ⟨(some 12), (.lenSl (.t 11)), none, [], false⟩, ⟨(some 13), (.mkslice 1 8 [(.int .i64 0)] (.t 12) (.t 12)), none, [], false⟩, ⟨(some 3), (.alloc [.nils]), none, [], false⟩, ⟨none, (.store 1 (.t 3) (.t 13)), none, [], false⟩]) (
  .seq (
  .region [⟨(some 14), (.faddr 2 (.t 1)), none, [], false⟩, ⟨(some 15), (.load none (.t 14)), none, [], false⟩, ⟨(some 16), (.lenSl (.t 15)), none, [], false⟩, ⟨(some 17), (.mkslice 1 8 [(.int .i64 0)] (.t 16) (.t 16)), none, [], false⟩, ⟨(some 4), (.alloc [.nils]), none, [], false⟩, ⟨none, (.store 1 (.t 4) (.t 17)), none, [], false⟩]) (
  .seq (
  .region [⟨(some 18), (.faddr 2 (.t 1)), none, [], false⟩, ⟨(some 19), (.load none (.t 18)), none, [], false⟩, ⟨(some 20), (.lenSl (.t 19)), none, [], false⟩, ⟨(some 21), (.mkslice 1 8 [(.int .i64 0)] (.t 20) (.t 20)), none, [], false⟩, ⟨(some 5), (.alloc [.nils]), none, [], false⟩, ⟨none, (.store 1 (.t 5) (.t 21)), none, [], false⟩]) (
  .seq (
  .region [⟨(some 6), (.alloc [.nils]), none, [], false⟩]) (
  .seq (
  .region [⟨(some 7), (.alloc [(.int .i64 0)]), none, [], false⟩, ⟨none, (.store 1 (.t 7) (.c (.int .i64 0))), none, [], false⟩]) (
  .seq (
  .region [⟨(some 8), (.alloc [.nilf]), none, [], false⟩]) (
  .seq (
  .region [⟨(some 22), (.mkfn (.func 49) [] [(.t 7), (.t 4), (.t 5), (.t 6), (.t 1), (.t 8), (.t 3)]), none, [], false⟩, ⟨none, (.store 1 (.t 8) (.t 22)), none, [], false⟩]) (
  .seq (
  .seq (
  .region [⟨(some 23), (.faddr 2 (.t 1)), none, [], false⟩, ⟨(some 24), (.load none (.t 23)), none, [], false⟩, ⟨(some 25), (.lenSl (.t 24)), none, [], false⟩, ⟨(some 26), (.mv (.c (.int .i64 0))), none, [], false⟩]) (.block 0 (.loop (
  .seq (
  .region [⟨(some 27), (.bin .lss (.t 26) (.t 25)), none, [], false⟩]) (
  .seq (.cond (.t 27) .skip (.exit 0)) (
  .seq (.block 1 (
  .seq (
  .region [⟨(some 28), (.mv (.t 26)), none, [], false⟩, ⟨(some 9), (.mv (.t 28)), none, [], false⟩]) (
  .seq (
  .region [⟨(some 29), (.load none (.t 4)), none, [], false⟩, ⟨(some 30), (.mv (.t 9)), none, [], false⟩, ⟨(some 31), (.iaddr 1 (.t 29) (.t 30)), none, [], false⟩, ⟨(some 32), (.load none (.t 31)), none, [], false⟩, ⟨(some 33), (.bin .eql (.t 32) (.c (.int .i64 0))), none, [], false⟩]) (.cond (.t 33) (
  .region [⟨(some 34), (.load none (.t 8)), none, [], false⟩, ⟨(some 35), (.mv (.t 9)), none, [], false⟩, ⟨(some 36), (.call (.t 34) [(.t 35)]), none, [], false⟩]) .skip)))) (
  .region [⟨(some 37), (.bin .add (.t 26) (.c (.int .i64 1))), none, [], false⟩, ⟨(some 26), (.mv (.t 37)), none, [], false⟩]))))))) (
  .seq (
  .region [⟨(some 38), (.load none (.t 3)), none, [], false⟩, ⟨(some 2), (.mv (.t 38)), none, [], false⟩]) .ret))))))))))⟩
theorem c27 : compFunc Tryd.prog GL [] Tryd.f27 = some l27 := by kernel_rfl
def l49 : LFunc := ⟨105, [],
  (
  .seq (
  .region [⟨(some 14), (.load none (.t 1)), none, [], false⟩, ⟨(some 15), (.bin .add (.t 14) (.c (.int .i64 1))), none, [], false⟩, ⟨none, (.store 1 (.t 1) (.t 15)), none, [], false⟩]) (
  .seq (
  .region [⟨(some 16), (.load none (.t 2)), none, [], true⟩, ⟨(some 17), (.mv (.t 0)), none, [], true⟩, ⟨(some 18), (.load none (.t 3)), none, [], true⟩, ⟨(some 19), (.mv (.t 0)), none, [], true⟩, ⟨(some 20), (.load none (.t 1)), none, [], true⟩, ⟨(some 21), (.load none (.t 1)), none, [], true⟩, ⟨(some 22), (.iaddr 1 (.t 16) (.t 17)), none, [], true⟩, ⟨none, (.store 1 (.t 22) (.t 20)), none, [(18, (none, (.load none (.t 3)))), (21, (none, (.load none (.t 1))))], true⟩, ⟨(some 23), (.iaddr 1 (.t 18) (.t 19)), none, [], true⟩, ⟨none, (.store 1 (.t 23) (.t 21)), none, [], true⟩]) (
  .seq (
  .region [⟨(some 24), (.load none (.t 4)), none, [], false⟩, ⟨(some 25), (.mv (.t 0)), none, [], false⟩, ⟨(some 26), (.bslice 1 1 [(.int .i64 0)] [(0, (1, (.t 25)))]), none, [], false⟩, ⟨(some 27), (.append 1 8 (.t 24) (.t 26)), none, [], false⟩, ⟨none, (.store 1 (.t 4) (.t 27)), none, [], false⟩]) (
  .seq (
  .seq (
  .region [⟨(some 28), (.faddr 2 (.t 5)), none, [], false⟩, ⟨(some 29), (.load none (.t 28)), none, [], false⟩, ⟨(some 30), (.mv (.t 0)), none, [], false⟩, ⟨(some 31), (.iaddr 1 (.t 29) (.t 30)), none, [], false⟩, ⟨(some 32), (.load none (.t 31)), none, [], false⟩, ⟨(some 33), (.lenSl (.t 32)), none, [], false⟩, ⟨(some 34), (.mv (.c (.int .i64 0))), none, [], false⟩]) (.block 0 (.loop (
  .seq (
  .region [⟨(some 35), (.bin .lss (.t 34) (.t 33)), none, [], false⟩]) (
  .seq (.cond (.t 35) .skip (.exit 0)) (
  .seq (.block 1 (
  .seq (
  .region [⟨(some 36), (.iaddr 1 (.t 32) (.t 34)), none, [], false⟩, ⟨(some 37), (.load none (.t 36)), none, [], false⟩, ⟨(some 10), (.mv (.t 37)), none, [], false⟩]) (
  .seq (
  .region [⟨(some 38), (.mv (.t 10)), none, [], false⟩, ⟨(some 39), (.lenSl (.t 38)), none, [], false⟩, ⟨(some 40), (.mv (.c (.int .i64 0))), none, [], false⟩]) (.block 2 (.loop (
  .seq (
  .region [⟨(some 41), (.bin .lss (.t 40) (.t 39)), none, [], false⟩]) (
  .seq (.cond (.t 41) .skip (.exit 2)) (
  .seq (.block 3 (
  .seq (
  .region [⟨(some 42), (.iaddr 2 (.t 38) (.t 40)), none, [], false⟩, ⟨(some 43), (.load (some 2) (.t 42)), none, [], false⟩, ⟨(some 12), (.alloc [(.int .i64 0), (.bool false)]), none, [], false⟩, ⟨none, (.store 2 (.t 12) (.t 43)), none, [], false⟩]) (
  .seq (
  .seq (
  .region [⟨(some 44), (.load none (.t 2)), none, [], false⟩, ⟨(some 45), (.faddr 0 (.t 12)), none, [], false⟩, ⟨(some 46), (.load none (.t 45)), none, [], false⟩, ⟨(some 47), (.iaddr 1 (.t 44) (.t 46)), none, [], false⟩, ⟨(some 48), (.load none (.t 47)), none, [], false⟩, ⟨(some 49), (.bin .eql (.t 48) (.c (.int .i64 0))), none, [], false⟩]) (.cond (.t 49) (
  .region [⟨(some 50), (.load none (.t 6)), none, [], false⟩, ⟨(some 51), (.faddr 0 (.t 12)), none, [], false⟩, ⟨(some 52), (.load none (.t 51)), none, [], false⟩, ⟨(some 53), (.call (.t 50) [(.t 52)]), none, [], false⟩]) .skip)) (
  .seq (
  .region [⟨(some 54), (.load none (.t 7)), none, [], false⟩, ⟨(some 55), (.faddr 0 (.t 12)), none, [], false⟩, ⟨(some 56), (.load none (.t 55)), none, [], false⟩, ⟨(some 57), (.iaddr 1 (.t 54) (.t 56)), none, [], false⟩, ⟨(some 58), (.load none (.t 57)), none, [], false⟩, ⟨(some 59), (.bin .eql (.t 58) (.c (.int .i64 0))), none, [], false⟩]) (.cond (.t 59) (
  .region [⟨(some 60), (.load none (.t 3)), none, [], true⟩, ⟨(some 61), (.mv (.t 0)), none, [], true⟩, ⟨(some 62), (.load none (.t 3)), none, [], true⟩, ⟨(some 63), (.mv (.t 0)), none, [], true⟩, ⟨(some 64), (.iaddr 1 (.t 62) (.t 63)), none, [], true⟩, ⟨(some 65), (.load none (.t 64)), none, [], true⟩, ⟨(some 66), (.load none (.t 3)), none, [], true⟩, ⟨(some 67), (.faddr 0 (.t 12)), none, [], true⟩, ⟨(some 68), (.load none (.t 67)), none, [], true⟩, ⟨(some 69), (.iaddr 1 (.t 66) (.t 68)), none, [], true⟩, ⟨(some 70), (.load none (.t 69)), none, [], true⟩, ⟨(some 71), (.minmax false [(.t 65), (.t 70)]), none, [], true⟩, ⟨(some 72), (.iaddr 1 (.t 60) (.t 61)), none, [], true⟩, ⟨none, (.store 1 (.t 72) (.t 71)), none, [], true⟩]) .skip))))) (
  .region [⟨(some 73), (.bin .add (.t 40) (.c (.int .i64 1))), none, [], false⟩, ⟨(some 40), (.mv (.t 73)), none, [], false⟩]))))))))) (
  .region [⟨(some 74), (.bin .add (.t 34) (.c (.int .i64 1))), none, [], false⟩, ⟨(some 34), (.mv (.t 74)), none, [], false⟩]))))))) (
  .seq (
  .seq (
  .region [⟨(some 75), (.load none (.t 3)), none, [], true⟩, ⟨(some 76), (.mv (.t 0)), none, [], true⟩, ⟨(some 77), (.iaddr 1 (.t 75) (.t 76)), none, [], true⟩, ⟨(some 78), (.load none (.t 77)), none, [], true⟩, ⟨(some 79), (.load none (.t 2)), none, [], true⟩, ⟨(some 80), (.mv (.t 0)), none, [], true⟩, ⟨(some 81), (.iaddr 1 (.t 79) (.t 80)), none, [], true⟩, ⟨(some 82), (.load none (.t 81)), none, [], true⟩, ⟨(some 83), (.bin .lss (.t 78) (.t 82)), none, [], true⟩]) (.cond (.t 83) .ret .skip)) (
  .seq (
  .region [⟨(some 13), (.mv (.c (.int .i64 (-1)))), none, [], false⟩]) (.block 4 (.loop (
  .seq (
  .seq (
  .region [⟨(some 84), (.mv (.t 13)), none, [], false⟩, ⟨(some 85), (.mv (.t 0)), none, [], false⟩, ⟨(some 86), (.bin .neq (.t 84) (.t 85)), none, [], false⟩]) (.cond (.t 86) .skip (.exit 4))) (.block 5 (
  .seq (
  .region [⟨(some 87), (.load none (.t 4)), none, [], false⟩, ⟨(some 88), (.load none (.t 4)), none, [], false⟩, ⟨(some 89), (.lenSl (.t 88)), none, [], false⟩, ⟨(some 90), (.bin .sub (.t 89) (.c (.int .i64 1))), none, [], false⟩, ⟨(some 91), (.iaddr 1 (.t 87) (.t 90)), none, [], false⟩, ⟨(some 92), (.load none (.t 91)), none, [], false⟩, ⟨(some 13), (.mv (.t 92)), none, [], false⟩]) (
  .seq (
  .region [⟨(some 93), (.load none (.t 4)), none, [], false⟩, ⟨(some 94), (.load none (.t 4)), none, [], false⟩, ⟨(some 95), (.lenSl (.t 94)), none, [], false⟩, ⟨(some 96), (.bin .sub (.t 95) (.c (.int .i64 1))), none, [], false⟩, ⟨(some 97), (.slice 1 (.t 93) none (some (.t 96))), none, [], false⟩, ⟨none, (.store 1 (.t 4) (.t 97)), none, [], false⟩]) (
  .region [⟨(some 98), (.load none (.t 7)), none, [], true⟩, ⟨(some 99), (.mv (.t 13)), none, [], true⟩, ⟨(some 100), (.load none (.t 2)), none, [], true⟩, ⟨(some 101), (.mv (.t 0)), none, [], true⟩, ⟨(some 102), (.iaddr 1 (.t 100) (.t 101)), none, [], true⟩, ⟨(some 103), (.load none (.t 102)), none, [], true⟩, ⟨(some 104), (.iaddr 1 (.t 98) (.t 99)), none, [], true⟩, ⟨none, (.store 1 (.t 104) (.t 103)), none, [], true⟩])))))))))))))⟩
theorem c49 : compFunc Tryd.prog GL [] Tryd.f49 = some l49 := by kernel_rfl
end Go.Proofs.YtohldpfjnllkdaaDoor
