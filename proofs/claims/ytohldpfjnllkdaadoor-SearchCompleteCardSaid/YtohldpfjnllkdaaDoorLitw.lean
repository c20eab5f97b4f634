/- Plain forms of functions, by program. -/
import Derived.Test.YtohldpfjnllkdaaDoorProg
import Derived.Test.YtohldpfjnllkdaaDoorPvComp
import Derived.Test.YtohldpfjnllkdaaDoorGl
import Derived.KernelRfl
set_option linter.unusedSimpArgs false
set_option linter.unusedVariables false
namespace Go.Proofs.YtohldpfjnllkdaaDoor
open Go Go.Pv
set_option maxRecDepth 100000
def l62 : LFunc := ⟨9, [(.cell 2 (some 2))],
  (
  .seq (
  .region [⟨(some 1), (.box true (.t 0)), none, [], false⟩, ⟨(some 2), (.alloc [.nils, .nils]), none, [], false⟩]) (
  .seq (
  .seq (
  .region [⟨(some 3), (.load (some 2) (.t 1)), none, [], false⟩, ⟨(some 4), (.call (.c (.fn (.func 60) [] [])) [(.t 3)]), none, [], false⟩, ⟨(some 5), (.un .not (.t 4)), none, [], false⟩]) (.cond (.t 5) (
  .seq (
  .region [⟨(some 6), (.build [.nils, .nils] []), none, [], false⟩, ⟨none, (.store 2 (.t 2) (.t 6)), none, [], false⟩]) .ret) .skip)) (
  .seq (
  .region [⟨(some 7), (.load (some 2) (.t 1)), none, [], false⟩, ⟨(some 8), (.call (.c (.fn (.func 77) [] [])) [(.t 7)]), none, [], false⟩, ⟨none, (.store 2 (.t 2) (.t 8)), none, [], false⟩]) .ret)))⟩
theorem c62 : compFunc Tryd.prog GL [] Tryd.f62 = some l62 := by kernel_rfl
def l37 : LFunc := ⟨19, [(.tmp 4)],
  (
  .seq (
  .region [⟨(some 3), (.box true (.t 1)), none, [], false⟩, ⟨(some 4), (.mv (.c (.bool false))), none, [], false⟩]) (
  .seq (
  .region [⟨(some 5), (.load (some 2) (.t 3)), none, [], false⟩, ⟨(some 6), (.call (.c (.fn (.func 60) [] [])) [(.t 5)]), none, [], false⟩, ⟨(some 7), (.mv (.t 6)), none, [], false⟩, ⟨(some 8), (.faddr 0 (.t 3)), (some (7, true)), [], false⟩, ⟨(some 9), (.load none (.t 8)), (some (7, true)), [], false⟩, ⟨(some 10), (.mv (.t 0)), (some (7, true)), [], false⟩, ⟨(some 11), (.call (.c (.fn (.func 61) [] [])) [(.t 9), (.t 10)]), (some (7, true)), [], false⟩, ⟨(some 12), (.pick (.t 7) (.t 11) (.c (.bool false))), none, [], false⟩, ⟨(some 13), (.mv (.t 12)), none, [], false⟩, ⟨(some 14), (.faddr 1 (.t 3)), (some (13, true)), [], false⟩, ⟨(some 15), (.load none (.t 14)), (some (13, true)), [], false⟩, ⟨(some 16), (.mv (.t 0)), (some (13, true)), [], false⟩, ⟨(some 17), (.call (.c (.fn (.func 61) [] [])) [(.t 15), (.t 16)]), (some (13, true)), [], false⟩, ⟨(some 18), (.pick (.t 13) (.t 17) (.c (.bool false))), none, [], false⟩, ⟨(some 4), (.mv (.t 18)), none, [], false⟩]) .ret))⟩
theorem c37 : compFunc Tryd.prog GL [] Tryd.f37 = some l37 := by kernel_rfl
def l61 : LFunc := ⟨21, [(.tmp 4)],
  (
  .seq (
  .region [⟨(some 4), (.mv (.c (.bool false))), none, [], false⟩]) (
  .seq (
  .seq (
  .region [⟨(some 7), (.mv (.t 0)), none, [], false⟩, ⟨(some 8), (.lenSl (.t 7)), none, [], false⟩, ⟨(some 9), (.mv (.c (.int .i64 0))), none, [], false⟩]) (.block 0 (.loop (
  .seq (
  .region [⟨(some 10), (.bin .lss (.t 9) (.t 8)), none, [], false⟩]) (
  .seq (.cond (.t 10) .skip (.exit 0)) (
  .seq (.block 1 (
  .seq (
  .region [⟨(some 11), (.iaddr 1 (.t 7) (.t 9)), none, [], false⟩, ⟨(some 12), (.load none (.t 11)), none, [], false⟩, ⟨(some 6), (.mv (.t 12)), none, [], false⟩]) (
  .seq (
  .region [⟨(some 13), (.mv (.t 6)), none, [], false⟩, ⟨(some 14), (.bin .lss (.t 13) (.c (.int .i64 0))), none, [], false⟩, ⟨(some 15), (.mv (.t 14)), none, [], false⟩, ⟨(some 16), (.mv (.t 6)), (some (15, false)), [], false⟩, ⟨(some 17), (.mv (.t 1)), (some (15, false)), [], false⟩, ⟨(some 18), (.bin .geq (.t 16) (.t 17)), (some (15, false)), [], false⟩, ⟨(some 19), (.pick (.t 15) (.c (.bool true)) (.t 18)), none, [], false⟩]) (.cond (.t 19) (
  .seq (
  .region [⟨(some 4), (.mv (.c (.bool false))), none, [], false⟩]) .ret) .skip)))) (
  .region [⟨(some 20), (.bin .add (.t 9) (.c (.int .i64 1))), none, [], false⟩, ⟨(some 9), (.mv (.t 20)), none, [], false⟩]))))))) (
  .seq (
  .region [⟨(some 4), (.mv (.c (.bool true))), none, [], false⟩]) .ret)))⟩
theorem c61 : compFunc Tryd.prog GL [] Tryd.f61 = some l61 := by kernel_rfl
def l60 : LFunc := ⟨27, [(.tmp 2)],
  (
  .seq (
  .region [⟨(some 1), (.box true (.t 0)), none, [], false⟩, ⟨(some 2), (.mv (.c (.bool false))), none, [], false⟩]) (
  .seq (
  .seq (
  .region [⟨(some 3), (.faddr 0 (.t 1)), none, [], false⟩, ⟨(some 4), (.load none (.t 3)), none, [], false⟩, ⟨(some 5), (.lenSl (.t 4)), none, [], false⟩, ⟨(some 6), (.bin .gtr (.t 5) (.c (.int .i64 60))), none, [], false⟩, ⟨(some 7), (.mv (.t 6)), none, [], false⟩, ⟨(some 8), (.faddr 1 (.t 1)), (some (7, false)), [], false⟩, ⟨(some 9), (.load none (.t 8)), (some (7, false)), [], false⟩, ⟨(some 10), (.lenSl (.t 9)), (some (7, false)), [], false⟩, ⟨(some 11), (.bin .lss (.t 10) (.c (.int .i64 1))), (some (7, false)), [], false⟩, ⟨(some 12), (.pick (.t 7) (.c (.bool true)) (.t 11)), none, [], false⟩, ⟨(some 13), (.mv (.t 12)), none, [], false⟩, ⟨(some 14), (.faddr 1 (.t 1)), (some (13, false)), [], false⟩, ⟨(some 15), (.load none (.t 14)), (some (13, false)), [], false⟩, ⟨(some 16), (.lenSl (.t 15)), (some (13, false)), [], false⟩, ⟨(some 17), (.bin .gtr (.t 16) (.c (.int .i64 40))), (some (13, false)), [], false⟩, ⟨(some 18), (.pick (.t 13) (.c (.bool true)) (.t 17)), none, [], false⟩]) (.cond (.t 18) (
  .seq (
  .region [⟨(some 2), (.mv (.c (.bool false))), none, [], false⟩]) .ret) .skip)) (
  .seq (
  .region [⟨(some 19), (.faddr 0 (.t 1)), none, [], false⟩, ⟨(some 20), (.load none (.t 19)), none, [], false⟩, ⟨(some 21), (.call (.c (.fn (.func 61) [] [])) [(.t 20), (.c (.int .i64 64))]), none, [], false⟩, ⟨(some 22), (.mv (.t 21)), none, [], false⟩, ⟨(some 23), (.faddr 1 (.t 1)), (some (22, true)), [], false⟩, ⟨(some 24), (.load none (.t 23)), (some (22, true)), [], false⟩, ⟨(some 25), (.call (.c (.fn (.func 61) [] [])) [(.t 24), (.c (.int .i64 64))]), (some (22, true)), [], false⟩, ⟨(some 26), (.pick (.t 22) (.t 25) (.c (.bool false))), none, [], false⟩, ⟨(some 2), (.mv (.t 26)), none, [], false⟩]) .ret)))⟩
theorem c60 : compFunc Tryd.prog GL [] Tryd.f60 = some l60 := by kernel_rfl
def l77 : LFunc := ⟨55, [(.cell 2 (some 2))],
  (
  .seq (
  .region [⟨(some 1), (.box true (.t 0)), none, [], false⟩, ⟨(some 2), (.alloc [.nils, .nils]), none, [], false⟩]) (
  .seq (
  .region [⟨(some 7), (.faddr 1 (.t 1)), none, [], true⟩, ⟨(some 8), (.load none (.t 7)), none, [], true⟩, ⟨(some 9), (.faddr 1 (.t 1)), none, [], true⟩, ⟨(some 10), (.load none (.t 9)), none, [], true⟩, ⟨(some 11), (.call (.c (.fn (.func 82) [] [])) [(.t 10)]), none, [(8, (none, (.load none (.t 7))))], true⟩, ⟨(some 12), (.slice 1 (.t 8) none (some (.t 11))), none, [], true⟩, ⟨(some 3), (.mv (.t 12)), none, [], true⟩]) (
  .seq (
  .region [⟨(some 13), (.mv (.t 3)), none, [], false⟩, ⟨(some 14), (.lenSl (.t 13)), none, [], false⟩, ⟨(some 4), (.mv (.t 14)), none, [], false⟩]) (
  .seq (
  .region [⟨(some 15), (.faddr 0 (.t 1)), none, [], false⟩, ⟨(some 16), (.load none (.t 15)), none, [], false⟩, ⟨(some 17), (.lenSl (.t 16)), none, [], false⟩, ⟨(some 5), (.mv (.t 17)), none, [], false⟩, ⟨(some 6), (.mv (.c (.int .i64 0))), none, [], false⟩]) (
  .seq (.block 0 (.loop (
  .seq (
  .seq (
  .region [⟨(some 18), (.mv (.t 5)), none, [], true⟩, ⟨(some 19), (.bin .gtr (.t 18) (.c (.int .i64 0))), none, [], true⟩, ⟨(some 20), (.mv (.t 19)), none, [], true⟩, ⟨(some 21), (.faddr 0 (.t 1)), (some (20, true)), [], true⟩, ⟨(some 22), (.load none (.t 21)), (some (20, true)), [], true⟩, ⟨(some 23), (.mv (.t 5)), (some (20, true)), [], true⟩, ⟨(some 24), (.bin .sub (.t 23) (.c (.int .i64 1))), (some (20, true)), [], true⟩, ⟨(some 25), (.iaddr 1 (.t 22) (.t 24)), (some (20, true)), [], true⟩, ⟨(some 26), (.load none (.t 25)), (some (20, true)), [], true⟩, ⟨(some 27), (.mv (.t 3)), (some (20, true)), [], true⟩, ⟨(some 28), (.mv (.t 4)), (some (20, true)), [], true⟩, ⟨(some 29), (.bin .sub (.t 28) (.c (.int .i64 1))), (some (20, true)), [], true⟩, ⟨(some 30), (.mv (.t 6)), (some (20, true)), [], true⟩, ⟨(some 31), (.bin .sub (.t 29) (.t 30)), (some (20, true)), [], true⟩, ⟨(some 32), (.iaddr 1 (.t 27) (.t 31)), (some (20, true)), [], true⟩, ⟨(some 33), (.load none (.t 32)), (some (20, true)), [], true⟩, ⟨(some 34), (.bin .eql (.t 26) (.t 33)), (some (20, true)), [], true⟩, ⟨(some 35), (.pick (.t 20) (.t 34) (.c (.bool false))), none, [], true⟩]) (.cond (.t 35) .skip (.exit 0))) (.block 1 (
  .seq (
  .region [⟨(some 36), (.mv (.t 5)), none, [], false⟩, ⟨(some 37), (.bin .sub (.t 36) (.c (.int .i64 1))), none, [], false⟩, ⟨(some 5), (.mv (.t 37)), none, [], false⟩]) (
  .region [⟨(some 38), (.mv (.t 6)), none, [], false⟩, ⟨(some 39), (.bin .add (.t 38) (.c (.int .i64 1))), none, [], false⟩, ⟨(some 40), (.mv (.t 4)), none, [], false⟩, ⟨(some 41), (.bin .rem (.t 39) (.t 40)), none, [], false⟩, ⟨(some 6), (.mv (.t 41)), none, [], false⟩])))))) (
  .seq (
  .region [⟨(some 42), (.faddr 0 (.t 1)), none, [], true⟩, ⟨(some 43), (.load none (.t 42)), none, [], true⟩, ⟨(some 44), (.mv (.t 5)), none, [], true⟩, ⟨(some 45), (.slice 1 (.t 43) none (some (.t 44))), none, [], true⟩, ⟨(some 47), (.mv (.t 3)), none, [], true⟩, ⟨(some 48), (.mv (.t 4)), none, [], true⟩, ⟨(some 49), (.mv (.t 6)), none, [], true⟩, ⟨(some 50), (.bin .sub (.t 48) (.t 49)), none, [], true⟩, ⟨(some 51), (.mv (.t 4)), none, [], true⟩, ⟨(some 52), (.bin .rem (.t 50) (.t 51)), none, [], true⟩, ⟨(some 46), (.call (.c (.fn (.func 83) [] [])) [(.t 45)]), none, [], true⟩, ⟨(some 53), (.call (.c (.fn (.func 84) [] [])) [(.t 47), (.t 52)]), none, [], true⟩, ⟨(some 54), (.build [.nils, .nils] [(0, (1, (.t 46))), (1, (1, (.t 53)))]), none, [], true⟩, ⟨none, (.store 2 (.t 2) (.t 54)), none, [], true⟩]) .ret))))))⟩
theorem c77 : compFunc Tryd.prog GL [] Tryd.f77 = some l77 := by kernel_rfl
def l82 : LFunc := ⟨30, [(.tmp 2)],
  (
  .seq (
  .region [⟨(some 2), (.mv (.c (.int .i64 0))), none, [], false⟩]) (
  .seq (
  .seq (
  .region [⟨(some 3), (.mv (.c (.int .i64 1))), none, [], false⟩]) (.block 0 (.loop (
  .seq (
  .seq (
  .region [⟨(some 4), (.mv (.t 3)), none, [], false⟩, ⟨(some 5), (.mv (.t 0)), none, [], false⟩, ⟨(some 6), (.lenSl (.t 5)), none, [], false⟩, ⟨(some 7), (.bin .lss (.t 4) (.t 6)), none, [], false⟩]) (.cond (.t 7) .skip (.exit 0))) (
  .seq (.block 1 (
  .seq (
  .region [⟨(some 10), (.mv (.t 0)), none, [], true⟩, ⟨(some 11), (.lenSl (.t 10)), none, [], true⟩, ⟨(some 12), (.mv (.t 3)), none, [], true⟩, ⟨(some 13), (.bin .rem (.t 11) (.t 12)), none, [], true⟩, ⟨(some 14), (.bin .eql (.t 13) (.c (.int .i64 0))), none, [], true⟩, ⟨(some 15), (.mv (.t 14)), none, [], true⟩, ⟨(some 16), (.mv (.t 0)), (some (15, true)), [], true⟩, ⟨(some 17), (.mv (.t 3)), (some (15, true)), [], true⟩, ⟨(some 18), (.slice 1 (.t 16) (some (.t 17)) none), (some (15, true)), [], true⟩, ⟨(some 19), (.mv (.t 0)), (some (15, true)), [], true⟩, ⟨(some 20), (.mv (.t 0)), (some (15, true)), [], true⟩, ⟨(some 21), (.lenSl (.t 20)), (some (15, true)), [], true⟩, ⟨(some 22), (.mv (.t 3)), (some (15, true)), [], true⟩, ⟨(some 23), (.bin .sub (.t 21) (.t 22)), (some (15, true)), [], true⟩, ⟨(some 24), (.slice 1 (.t 19) none (some (.t 23))), (some (15, true)), [], true⟩, ⟨(some 25), (.call (.c (.fn (.func 95) [] [])) [(.t 18), (.t 24)]), (some (15, true)), [], true⟩, ⟨(some 26), (.pick (.t 15) (.t 25) (.c (.bool false))), none, [], true⟩]) (.cond (.t 26) (
  .seq (
  .region [⟨(some 27), (.mv (.t 3)), none, [], false⟩, ⟨(some 2), (.mv (.t 27)), none, [], false⟩]) .ret) .skip))) (
  .region [⟨(some 8), (.mv (.t 3)), none, [], false⟩, ⟨(some 9), (.bin .add (.t 8) (.c (.int .i64 1))), none, [], false⟩, ⟨(some 3), (.mv (.t 9)), none, [], false⟩])))))) (
  .seq (
  .region [⟨(some 28), (.mv (.t 0)), none, [], false⟩, ⟨(some 29), (.lenSl (.t 28)), none, [], false⟩, ⟨(some 2), (.mv (.t 29)), none, [], false⟩]) .ret)))⟩
theorem c82 : compFunc Tryd.prog GL [] Tryd.f82 = some l82 := by kernel_rfl
def l84 : LFunc := ⟨23, [(.tmp 4)],
  (
  .seq (
  .region [⟨(some 4), (.mv (.c .nils)), none, [], false⟩]) (
  .seq (
  .region [⟨(some 7), (.mv (.t 0)), none, [], false⟩, ⟨(some 8), (.lenSl (.t 7)), none, [], false⟩, ⟨(some 9), (.mkslice 1 8 [(.int .i64 0)] (.t 8) (.t 8)), none, [], false⟩, ⟨(some 5), (.mv (.t 9)), none, [], false⟩]) (
  .seq (
  .region [⟨(some 10), (.mv (.t 5)), none, [], false⟩, ⟨(some 11), (.mv (.t 0)), none, [], false⟩, ⟨(some 12), (.mv (.t 1)), none, [], false⟩, ⟨(some 13), (.slice 1 (.t 11) (some (.t 12)) none), none, [], false⟩, ⟨(some 14), (.copy 1 (.t 10) (.t 13)), none, [], false⟩, ⟨(some 6), (.mv (.t 14)), none, [], false⟩]) (
  .seq (
  .region [⟨(some 15), (.mv (.t 5)), none, [], true⟩, ⟨(some 16), (.mv (.t 6)), none, [], true⟩, ⟨(some 17), (.slice 1 (.t 15) (some (.t 16)) none), none, [], true⟩, ⟨(some 18), (.mv (.t 0)), none, [], true⟩, ⟨(some 19), (.mv (.t 1)), none, [], true⟩, ⟨(some 20), (.slice 1 (.t 18) none (some (.t 19))), none, [], true⟩, ⟨(some 21), (.copy 1 (.t 17) (.t 20)), none, [], true⟩]) (
  .seq (
  .region [⟨(some 22), (.mv (.t 5)), none, [], false⟩, ⟨(some 4), (.mv (.t 22)), none, [], false⟩]) .ret)))))⟩
theorem c84 : compFunc Tryd.prog GL [] Tryd.f84 = some l84 := by kernel_rfl
def l68 : LFunc := ⟨9, [(.tmp 2)],
  (
  .seq (
  .region [⟨(some 2), (.mv (.c (.bool false))), none, [], false⟩]) (
  .seq (
  .region [⟨(some 3), (.mv (.t 0)), none, [], false⟩, ⟨(some 4), (.bin .geq (.t 3) (.c (.int .i64 0))), none, [], false⟩, ⟨(some 5), (.mv (.t 4)), none, [], false⟩, ⟨(some 6), (.mv (.t 0)), (some (5, true)), [], false⟩, ⟨(some 7), (.bin .lss (.t 6) (.c (.int .i64 64))), (some (5, true)), [], false⟩, ⟨(some 8), (.pick (.t 5) (.t 7) (.c (.bool false))), none, [], false⟩, ⟨(some 2), (.mv (.t 8)), none, [], false⟩]) .ret))⟩
theorem c68 : compFunc Tryd.prog GL [] Tryd.f68 = some l68 := by kernel_rfl
def l83 : LFunc := ⟨8, [(.tmp 2)],
  (
  .seq (
  .region [⟨(some 2), (.mv (.c .nils)), none, [], false⟩]) (
  .seq (
  .seq (
  .region [⟨(some 3), (.mv (.t 0)), none, [], false⟩, ⟨(some 4), (.eq false .slc (.t 3) (.c .nils)), none, [], false⟩]) (.cond (.t 4) (
  .seq (
  .region [⟨(some 2), (.mv (.c .nils)), none, [], false⟩]) .ret) .skip)) (
  .seq (
  .region [⟨(some 5), (.bslice 1 0 [(.int .i64 0)] []), none, [], false⟩, ⟨(some 6), (.mv (.t 0)), none, [], false⟩, ⟨(some 7), (.append 1 8 (.t 5) (.t 6)), none, [], false⟩, ⟨(some 2), (.mv (.t 7)), none, [], false⟩]) .ret)))⟩
theorem c83 : compFunc Tryd.prog GL [] Tryd.f83 = some l83 := by kernel_rfl
def l95 : LFunc := ⟨26, [(.tmp 4)],
  (
  .seq (
  .region [⟨(some 4), (.mv (.c (.bool false))), none, [], false⟩]) (
  .seq (
  .seq (
  .region [⟨(some 6), (.mv (.t 0)), none, [], false⟩, ⟨(some 7), (.lenSl (.t 6)), none, [], false⟩, ⟨(some 8), (.mv (.t 1)), none, [], false⟩, ⟨(some 9), (.lenSl (.t 8)), none, [], false⟩, ⟨(some 10), (.bin .neq (.t 7) (.t 9)), none, [], false⟩]) (.cond (.t 10) (
  .seq (
  .region [⟨(some 4), (.mv (.c (.bool false))), none, [], false⟩]) .ret) .skip)) (
  .seq (
  .seq (
  .region [⟨(some 11), (.mv (.t 0)), none, [], false⟩, ⟨(some 12), (.lenSl (.t 11)), none, [], false⟩, ⟨(some 13), (.mv (.c (.int .i64 0))), none, [], false⟩]) (.block 0 (.loop (
  .seq (
  .region [⟨(some 14), (.bin .lss (.t 13) (.t 12)), none, [], false⟩]) (
  .seq (.cond (.t 14) .skip (.exit 0)) (
  .seq (.block 1 (
  .seq (
  .region [⟨(some 15), (.mv (.t 13)), none, [], false⟩, ⟨(some 5), (.mv (.t 15)), none, [], false⟩]) (
  .seq (
  .region [⟨(some 16), (.mv (.t 0)), none, [], true⟩, ⟨(some 17), (.mv (.t 5)), none, [], true⟩, ⟨(some 18), (.iaddr 1 (.t 16) (.t 17)), none, [], true⟩, ⟨(some 19), (.load none (.t 18)), none, [], true⟩, ⟨(some 20), (.mv (.t 1)), none, [], true⟩, ⟨(some 21), (.mv (.t 5)), none, [], true⟩, ⟨(some 22), (.iaddr 1 (.t 20) (.t 21)), none, [], true⟩, ⟨(some 23), (.load none (.t 22)), none, [], true⟩, ⟨(some 24), (.bin .neq (.t 19) (.t 23)), none, [], true⟩]) (.cond (.t 24) (
  .seq (
  .region [⟨(some 4), (.mv (.c (.bool false))), none, [], false⟩]) .ret) .skip)))) (
  .region [⟨(some 25), (.bin .add (.t 13) (.c (.int .i64 1))), none, [], false⟩, ⟨(some 13), (.mv (.t 25)), none, [], false⟩]))))))) (
  .seq (
  .region [⟨(some 4), (.mv (.c (.bool true))), none, [], false⟩]) .ret))))⟩
theorem c95 : compFunc Tryd.prog GL [] Tryd.f95 = some l95 := by kernel_rfl
end Go.Proofs.YtohldpfjnllkdaaDoor
