/- Plain forms of functions, by program. -/
import Derived.Test.YtmfpcofncfhklaaProg
import Derived.Test.YtmfpcofncfhklaaPvCall
import Derived.KernelRfl
namespace Go.Proofs.Ytmfpcofncfhklaa
open Go Go.Pv
set_option maxRecDepth 100000
def l5 : LFunc := ⟨118, [(.tmp 6)],
  (
  .seq (
  .region [⟨(some 3), (.box true (.t 0)), none, [], false⟩, ⟨(some 4), (.box true (.t 1)), none, [], false⟩, ⟨(some 6), (.mv (.c (.bool false))), none, [], false⟩]) (
  .seq (
  .region [⟨(some 13), (.call (.c (.fn (.func 8) [] [])) []), none, [], false⟩, ⟨(some 7), (.mv (.t 13)), none, [], false⟩]) (
  .seq (
  .seq (
  .region [⟨(some 14), (.load (some 4) (.t 3)), none, [], false⟩, ⟨(some 15), (.call (.c (.fn (.func 14) [] [])) [(.t 14)]), none, [], false⟩, ⟨(some 16), (.un .not (.t 15)), none, [], false⟩, ⟨(some 17), (.mv (.t 16)), none, [], false⟩, ⟨(some 18), (.load (some 4) (.t 3)), (some (17, false)), [], false⟩, ⟨(some 19), (.call (.c (.fn (.func 15) [] [])) [(.t 18)]), (some (17, false)), [], false⟩, ⟨(some 20), (.un .not (.t 19)), (some (17, false)), [], false⟩, ⟨(some 21), (.pick (.t 17) (.c (.bool true)) (.t 20)), none, [], false⟩, ⟨(some 22), (.mv (.t 21)), none, [], false⟩, ⟨(some 23), (.load (some 2) (.t 4)), (some (22, false)), [], false⟩, ⟨(some 24), (.call (.c (.fn (.func 16) [] [])) [(.t 23)]), (some (22, false)), [], false⟩, ⟨(some 25), (.un .not (.t 24)), (some (22, false)), [], false⟩, ⟨(some 26), (.pick (.t 22) (.c (.bool true)) (.t 25)), none, [], false⟩, ⟨(some 27), (.mv (.t 26)), none, [], false⟩, ⟨(some 28), (.faddr 0 (.t 3)), (some (27, false)), [], false⟩, ⟨(some 29), (.load none (.t 28)), (some (27, false)), [], false⟩, ⟨(some 30), (.load (some 2) (.t 4)), (some (27, false)), [], false⟩, ⟨(some 31), (.call (.c (.fn (.func 17) [] [])) [(.t 29), (.t 30)]), (some (27, false)), [], false⟩, ⟨(some 32), (.un .not (.t 31)), (some (27, false)), [], false⟩, ⟨(some 33), (.pick (.t 27) (.c (.bool true)) (.t 32)), none, [], false⟩]) (.cond (.t 33) (
  .seq (
  .region [⟨(some 34), (.mv (.t 7)), none, [], false⟩, ⟨(some 6), (.mv (.t 34)), none, [], false⟩]) .ret) .skip)) (
  .seq (
  .region [⟨(some 35), (.load (some 4) (.t 3)), none, [], false⟩, ⟨(some 36), (.load (some 2) (.t 4)), none, [], false⟩, ⟨(some 37), (.call (.c (.fn (.func 12) [] [])) [(.t 35), (.t 36)]), none, [], false⟩, ⟨(some 8), (.mv (.t 37)), none, [], false⟩]) (
  .seq (
  .seq (
  .region [⟨(some 38), (.load (some 4) (.t 3)), none, [], true⟩, ⟨(some 39), (.load (some 2) (.t 4)), none, [], true⟩, ⟨(some 42), (.mv (.t 8)), none, [], true⟩, ⟨(some 40), (.call (.c (.fn (.func 20) [] [])) [(.t 39)]), none, [(38, (none, (.load (some 4) (.t 3))))], true⟩, ⟨(some 41), (.call (.c (.fn (.func 12) [] [])) [(.t 38), (.t 40)]), none, [], true⟩, ⟨(some 43), (.eq true .bool (.t 41) (.t 42)), none, [], true⟩]) (.cond (.t 43) (
  .seq (
  .region [⟨(some 6), (.mv (.c (.bool false))), none, [], false⟩]) .ret) .skip)) (
  .seq (
  .region [⟨(some 44), (.bslice 1 0 [(.int .i64 0)] []), none, [], true⟩, ⟨(some 45), (.faddr 0 (.t 4)), none, [], true⟩, ⟨(some 46), (.load none (.t 45)), none, [], true⟩, ⟨(some 48), (.faddr 1 (.t 4)), none, [], true⟩, ⟨(some 49), (.load none (.t 48)), none, [], true⟩, ⟨(some 50), (.iaddr 1 (.t 49) (.c (.int .i64 0))), none, [], true⟩, ⟨(some 51), (.load none (.t 50)), none, [], true⟩, ⟨(some 52), (.bslice 1 1 [(.int .i64 0)] [(0, (1, (.t 51)))]), none, [(46, (none, (.load none (.t 45)))), (49, (none, (.load none (.t 48)))), (51, (none, (.load none (.t 50))))], true⟩, ⟨(some 54), (.bslice 1 0 [(.int .i64 0)] []), none, [(46, (none, (.load none (.t 45)))), (49, (none, (.load none (.t 48)))), (51, (none, (.load none (.t 50))))], true⟩, ⟨(some 55), (.faddr 1 (.t 4)), none, [], true⟩, ⟨(some 56), (.load none (.t 55)), none, [], true⟩, ⟨(some 57), (.slice 1 (.t 56) (some (.c (.int .i64 1))) none), none, [], true⟩, ⟨(some 59), (.faddr 1 (.t 4)), none, [], true⟩, ⟨(some 60), (.load none (.t 59)), none, [], true⟩, ⟨(some 61), (.iaddr 1 (.t 60) (.c (.int .i64 0))), none, [], true⟩, ⟨(some 62), (.load none (.t 61)), none, [], true⟩, ⟨(some 63), (.bslice 1 1 [(.int .i64 0)] [(0, (1, (.t 62)))]), none, [(46, (none, (.load none (.t 45)))), (49, (none, (.load none (.t 48)))), (51, (none, (.load none (.t 50)))), (56, (none, (.load none (.t 55)))), (60, (none, (.load none (.t 59)))), (62, (none, (.load none (.t 61))))], true⟩, ⟨(some 9), (.alloc [.nils, .nils]), none, [(46, (none, (.load none (.t 45)))), (49, (none, (.load none (.t 48)))), (51, (none, (.load none (.t 50)))), (56, (none, (.load none (.t 55)))), (60, (none, (.load none (.t 59)))), (62, (none, (.load none (.t 61))))], true⟩, ⟨(some 47), (.append 1 8 (.t 44) (.t 46)), none, [(49, (none, (.load none (.t 48)))), (51, (none, (.load none (.t 50)))), (56, (none, (.load none (.t 55)))), (60, (none, (.load none (.t 59)))), (62, (none, (.load none (.t 61))))], true⟩, ⟨(some 53), (.append 1 8 (.t 47) (.t 52)), none, [(56, (none, (.load none (.t 55)))), (60, (none, (.load none (.t 59)))), (62, (none, (.load none (.t 61))))], true⟩, ⟨(some 58), (.append 1 8 (.t 54) (.t 57)), none, [(60, (none, (.load none (.t 59)))), (62, (none, (.load none (.t 61))))], true⟩, ⟨(some 64), (.append 1 8 (.t 58) (.t 63)), none, [], true⟩, ⟨(some 65), (.build [.nils, .nils] [(0, (1, (.t 53))), (1, (1, (.t 64)))]), none, [], true⟩, ⟨none, (.store 2 (.t 9) (.t 65)), none, [], true⟩]) (
  .seq (
  .seq (
  .region [⟨(some 66), (.faddr 0 (.t 3)), none, [], false⟩, ⟨(some 67), (.load none (.t 66)), none, [], false⟩, ⟨(some 68), (.load (some 2) (.t 9)), none, [], false⟩, ⟨(some 69), (.call (.c (.fn (.func 17) [] [])) [(.t 67), (.t 68)]), none, [], false⟩, ⟨(some 70), (.mv (.t 69)), none, [], false⟩, ⟨(some 71), (.load (some 4) (.t 3)), (some (70, true)), [], false⟩, ⟨(some 72), (.load (some 2) (.t 9)), (some (70, true)), [], false⟩, ⟨(some 73), (.call (.c (.fn (.func 12) [] [])) [(.t 71), (.t 72)]), (some (70, true)), [], false⟩, ⟨(some 74), (.mv (.t 8)), (some (70, true)), [], false⟩, ⟨(some 75), (.eq true .bool (.t 73) (.t 74)), (some (70, true)), [], false⟩, ⟨(some 76), (.pick (.t 70) (.t 75) (.c (.bool false))), none, [], false⟩]) (.cond (.t 76) (
  .seq (
  .region [⟨(some 6), (.mv (.c (.bool false))), none, [], false⟩]) .ret) .skip)) (
  .seq (
  .region [⟨(some 77), (.mv (.t 2)), none, [], false⟩, ⟨(some 78), (.convInt .i64 (.t 77)), none, [], false⟩, ⟨(some 79), (.faddr 0 (.t 3)), none, [], false⟩, ⟨(some 80), (.load none (.t 79)), none, [], false⟩, ⟨(some 81), (.bin .rem (.t 78) (.t 80)), none, [], false⟩, ⟨(some 10), (.mv (.t 81)), none, [], false⟩]) (
  .seq (
  .region [⟨(some 82), (.mv (.t 10)), none, [], true⟩, ⟨(some 83), (.bslice 1 1 [(.int .i64 0)] [(0, (1, (.t 82)))]), none, [], true⟩, ⟨(some 84), (.faddr 0 (.t 4)), none, [], true⟩, ⟨(some 85), (.load none (.t 84)), none, [], true⟩, ⟨(some 87), (.faddr 1 (.t 4)), none, [], true⟩, ⟨(some 88), (.load none (.t 87)), none, [], true⟩, ⟨(some 11), (.alloc [.nils, .nils]), none, [(85, (none, (.load none (.t 84)))), (88, (none, (.load none (.t 87))))], true⟩, ⟨(some 86), (.append 1 8 (.t 83) (.t 85)), none, [(88, (none, (.load none (.t 87))))], true⟩, ⟨(some 89), (.build [.nils, .nils] [(0, (1, (.t 86))), (1, (1, (.t 88)))]), none, [], true⟩, ⟨none, (.store 2 (.t 11) (.t 89)), none, [], true⟩]) (
  .seq (
  .region [⟨(some 90), (.load (some 4) (.t 3)), none, [], false⟩, ⟨(some 12), (.alloc [(.int .i64 0), (.int .i64 0), .nils, .nils]), none, [], false⟩, ⟨none, (.store 4 (.t 12) (.t 90)), none, [], false⟩]) (
  .seq (
  .region [⟨(some 91), (.faddr 2 (.t 3)), none, [], false⟩, ⟨(some 92), (.load none (.t 91)), none, [], false⟩, ⟨(some 93), (.faddr 1 (.t 3)), none, [], false⟩, ⟨(some 94), (.load none (.t 93)), none, [], false⟩, ⟨(some 95), (.iaddr 1 (.t 92) (.t 94)), none, [], false⟩, ⟨(some 96), (.load none (.t 95)), none, [], false⟩, ⟨(some 97), (.mv (.t 10)), none, [], false⟩, ⟨(some 98), (.iaddr 1 (.t 96) (.t 97)), none, [], false⟩, ⟨(some 99), (.load none (.t 98)), none, [], false⟩, ⟨(some 100), (.faddr 1 (.t 12)), none, [], false⟩, ⟨none, (.store 1 (.t 100) (.t 99)), none, [], false⟩]) (
  .seq (
  .region [⟨(some 101), (.mv (.t 7)), none, [], true⟩, ⟨(some 102), (.mv (.t 101)), none, [], true⟩, ⟨(some 103), (.faddr 0 (.t 3)), (some (102, true)), [], true⟩, ⟨(some 104), (.load none (.t 103)), (some (102, true)), [], true⟩, ⟨(some 105), (.load (some 2) (.t 11)), (some (102, true)), [], true⟩, ⟨(some 106), (.call (.c (.fn (.func 17) [] [])) [(.t 104), (.t 105)]), (some (102, true)), [], true⟩, ⟨(some 107), (.un .not (.t 106)), (some (102, true)), [], true⟩, ⟨(some 108), (.mv (.t 107)), (some (102, true)), [], true⟩, ⟨(some 109), (.load (some 4) (.t 3)), (some (108, false)), [], true⟩, ⟨(some 110), (.load (some 2) (.t 11)), (some (108, false)), [], true⟩, ⟨(some 112), (.load (some 4) (.t 12)), (some (108, false)), [], true⟩, ⟨(some 113), (.load (some 2) (.t 4)), (some (108, false)), [], true⟩, ⟨(some 111), (.call (.c (.fn (.func 12) [] [])) [(.t 109), (.t 110)]), (some (108, false)), [(112, ((some (108, false)), (.load (some 4) (.t 12)))), (113, ((some (108, false)), (.load (some 2) (.t 4))))], true⟩, ⟨(some 114), (.call (.c (.fn (.func 12) [] [])) [(.t 112), (.t 113)]), (some (108, false)), [], true⟩, ⟨(some 115), (.eq false .bool (.t 111) (.t 114)), (some (108, false)), [], true⟩, ⟨(some 116), (.pick (.t 108) (.c (.bool true)) (.t 115)), (some (102, true)), [], true⟩, ⟨(some 117), (.pick (.t 102) (.t 116) (.c (.bool false))), none, [], true⟩, ⟨(some 6), (.mv (.t 117)), none, [], true⟩]) .ret))))))))))))⟩
theorem c5 : compFunc Try.prog [] [] Try.f5 = some l5 := by kernel_rfl
def l20 : LFunc := ⟨9, [(.cell 2 (some 2))],
  (
  .seq (
  .region [⟨(some 1), (.box true (.t 0)), none, [], false⟩, ⟨(some 2), (.alloc [.nils, .nils]), none, [], false⟩]) (
  .seq (
  .seq (
  .region [⟨(some 3), (.load (some 2) (.t 1)), none, [], false⟩, ⟨(some 4), (.call (.c (.fn (.func 40) [] [])) [(.t 3)]), none, [], false⟩, ⟨(some 5), (.un .not (.t 4)), none, [], false⟩]) (.cond (.t 5) (
  .seq (
  .region [⟨(some 6), (.build [.nils, .nils] []), none, [], false⟩, ⟨none, (.store 2 (.t 2) (.t 6)), none, [], false⟩]) .ret) .skip)) (
  .seq (
  .region [⟨(some 7), (.load (some 2) (.t 1)), none, [], false⟩, ⟨(some 8), (.call (.c (.fn (.func 41) [] [])) [(.t 7)]), none, [], false⟩, ⟨none, (.store 2 (.t 2) (.t 8)), none, [], false⟩]) .ret)))⟩
theorem c20 : compFunc Try.prog [] [] Try.f20 = some l20 := by kernel_rfl
def l41 : LFunc := ⟨55, [(.cell 2 (some 2))],
  (
  .seq (
  .region [⟨(some 1), (.box true (.t 0)), none, [], false⟩, ⟨(some 2), (.alloc [.nils, .nils]), none, [], false⟩]) (
  .seq (
  .region [⟨(some 7), (.faddr 1 (.t 1)), none, [], true⟩, ⟨(some 8), (.load none (.t 7)), none, [], true⟩, ⟨(some 9), (.faddr 1 (.t 1)), none, [], true⟩, ⟨(some 10), (.load none (.t 9)), none, [], true⟩, ⟨(some 11), (.call (.c (.fn (.func 58) [] [])) [(.t 10)]), none, [(8, (none, (.load none (.t 7))))], true⟩, ⟨(some 12), (.slice 1 (.t 8) none (some (.t 11))), none, [], true⟩, ⟨(some 3), (.mv (.t 12)), none, [], true⟩]) (
  .seq (
  .region [⟨(some 13), (.mv (.t 3)), none, [], false⟩, ⟨(some 14), (.lenSl (.t 13)), none, [], false⟩, ⟨(some 4), (.mv (.t 14)), none, [], false⟩]) (
  .seq (
  .region [⟨(some 15), (.faddr 0 (.t 1)), none, [], false⟩, ⟨(some 16), (.load none (.t 15)), none, [], false⟩, ⟨(some 17), (.lenSl (.t 16)), none, [], false⟩, ⟨(some 5), (.mv (.t 17)), none, [], false⟩, ⟨(some 6), (.mv (.c (.int .i64 0))), none, [], false⟩]) (
  .seq (.block 0 (.loop (
  .seq (
  .seq (
  .region [⟨(some 18), (.mv (.t 5)), none, [], true⟩, ⟨(some 19), (.bin .gtr (.t 18) (.c (.int .i64 0))), none, [], true⟩, ⟨(some 20), (.mv (.t 19)), none, [], true⟩, ⟨(some 21), (.faddr 0 (.t 1)), (some (20, true)), [], true⟩, ⟨(some 22), (.load none (.t 21)), (some (20, true)), [], true⟩, ⟨(some 23), (.mv (.t 5)), (some (20, true)), [], true⟩, ⟨(some 24), (.bin .sub (.t 23) (.c (.int .i64 1))), (some (20, true)), [], true⟩, ⟨(some 25), (.iaddr 1 (.t 22) (.t 24)), (some (20, true)), [], true⟩, ⟨(some 26), (.load none (.t 25)), (some (20, true)), [], true⟩, ⟨(some 27), (.mv (.t 3)), (some (20, true)), [], true⟩, ⟨(some 28), (.mv (.t 4)), (some (20, true)), [], true⟩, ⟨(some 29), (.bin .sub (.t 28) (.c (.int .i64 1))), (some (20, true)), [], true⟩, ⟨(some 30), (.mv (.t 6)), (some (20, true)), [], true⟩, ⟨(some 31), (.bin .sub (.t 29) (.t 30)), (some (20, true)), [], true⟩, ⟨(some 32), (.iaddr 1 (.t 27) (.t 31)), (some (20, true)), [], true⟩, ⟨(some 33), (.load none (.t 32)), (some (20, true)), [], true⟩, ⟨(some 34), (.bin .eql (.t 26) (.t 33)), (some (20, true)), [], true⟩, ⟨(some 35), (.pick (.t 20) (.t 34) (.c (.bool false))), none, [], true⟩]) (.cond (.t 35) .skip (.exit 0))) (.block 1 (
  .seq (
  .region [⟨(some 36), (.mv (.t 5)), none, [], false⟩, ⟨(some 37), (.bin .sub (.t 36) (.c (.int .i64 1))), none, [], false⟩, ⟨(some 5), (.mv (.t 37)), none, [], false⟩]) (
  .region [⟨(some 38), (.mv (.t 6)), none, [], false⟩, ⟨(some 39), (.bin .add (.t 38) (.c (.int .i64 1))), none, [], false⟩, ⟨(some 40), (.mv (.t 4)), none, [], false⟩, ⟨(some 41), (.bin .rem (.t 39) (.t 40)), none, [], false⟩, ⟨(some 6), (.mv (.t 41)), none, [], false⟩])))))) (
  .seq (
  .region [⟨(some 42), (.faddr 0 (.t 1)), none, [], true⟩, ⟨(some 43), (.load none (.t 42)), none, [], true⟩, ⟨(some 44), (.mv (.t 5)), none, [], true⟩, ⟨(some 45), (.slice 1 (.t 43) none (some (.t 44))), none, [], true⟩, ⟨(some 47), (.mv (.t 3)), none, [], true⟩, ⟨(some 48), (.mv (.t 4)), none, [], true⟩, ⟨(some 49), (.mv (.t 6)), none, [], true⟩, ⟨(some 50), (.bin .sub (.t 48) (.t 49)), none, [], true⟩, ⟨(some 51), (.mv (.t 4)), none, [], true⟩, ⟨(some 52), (.bin .rem (.t 50) (.t 51)), none, [], true⟩, ⟨(some 46), (.call (.c (.fn (.func 39) [] [])) [(.t 45)]), none, [], true⟩, ⟨(some 53), (.call (.c (.fn (.func 59) [] [])) [(.t 47), (.t 52)]), none, [], true⟩, ⟨(some 54), (.build [.nils, .nils] [(0, (1, (.t 46))), (1, (1, (.t 53)))]), none, [], true⟩, ⟨none, (.store 2 (.t 2) (.t 54)), none, [], true⟩]) .ret))))))⟩
theorem c41 : compFunc Try.prog [] [] Try.f41 = some l41 := by kernel_rfl
def l58 : LFunc := ⟨30, [(.tmp 2)],
  (
  .seq (
  .region [⟨(some 2), (.mv (.c (.int .i64 0))), none, [], false⟩]) (
  .seq (
  .seq (
  .region [⟨(some 3), (.mv (.c (.int .i64 1))), none, [], false⟩]) (.block 0 (.loop (
  .seq (
  .seq (
  .region [⟨(some 4), (.mv (.t 3)), none, [], false⟩, ⟨(some 5), (.mv (.t 0)), none, [], false⟩, ⟨(some 6), (.lenSl (.t 5)), none, [], false⟩, ⟨(some 7), (.bin .lss (.t 4) (.t 6)), none, [], false⟩]) (.cond (.t 7) .skip (.exit 0))) (
  .seq (.block 1 (
  .seq (
  .region [⟨(some 10), (.mv (.t 0)), none, [], true⟩, ⟨(some 11), (.lenSl (.t 10)), none, [], true⟩, ⟨(some 12), (.mv (.t 3)), none, [], true⟩, ⟨(some 13), (.bin .rem (.t 11) (.t 12)), none, [], true⟩, ⟨(some 14), (.bin .eql (.t 13) (.c (.int .i64 0))), none, [], true⟩, ⟨(some 15), (.mv (.t 14)), none, [], true⟩, ⟨(some 16), (.mv (.t 0)), (some (15, true)), [], true⟩, ⟨(some 17), (.mv (.t 3)), (some (15, true)), [], true⟩, ⟨(some 18), (.slice 1 (.t 16) (some (.t 17)) none), (some (15, true)), [], true⟩, ⟨(some 19), (.mv (.t 0)), (some (15, true)), [], true⟩, ⟨(some 20), (.mv (.t 0)), (some (15, true)), [], true⟩, ⟨(some 21), (.lenSl (.t 20)), (some (15, true)), [], true⟩, ⟨(some 22), (.mv (.t 3)), (some (15, true)), [], true⟩, ⟨(some 23), (.bin .sub (.t 21) (.t 22)), (some (15, true)), [], true⟩, ⟨(some 24), (.slice 1 (.t 19) none (some (.t 23))), (some (15, true)), [], true⟩, ⟨(some 25), (.call (.c (.fn (.func 69) [] [])) [(.t 18), (.t 24)]), (some (15, true)), [], true⟩, ⟨(some 26), (.pick (.t 15) (.t 25) (.c (.bool false))), none, [], true⟩]) (.cond (.t 26) (
  .seq (
  .region [⟨(some 27), (.mv (.t 3)), none, [], false⟩, ⟨(some 2), (.mv (.t 27)), none, [], false⟩]) .ret) .skip))) (
  .region [⟨(some 8), (.mv (.t 3)), none, [], false⟩, ⟨(some 9), (.bin .add (.t 8) (.c (.int .i64 1))), none, [], false⟩, ⟨(some 3), (.mv (.t 9)), none, [], false⟩])))))) (
  .seq (
  .region [⟨(some 28), (.mv (.t 0)), none, [], false⟩, ⟨(some 29), (.lenSl (.t 28)), none, [], false⟩, ⟨(some 2), (.mv (.t 29)), none, [], false⟩]) .ret)))⟩
theorem c58 : compFunc Try.prog [] [] Try.f58 = some l58 := by kernel_rfl
def l59 : LFunc := ⟨23, [(.tmp 4)],
  (
  .seq (
  .region [⟨(some 4), (.mv (.c .nils)), none, [], false⟩]) (
  .seq (
  .region [⟨(some 7), (.mv (.t 0)), none, [], false⟩, ⟨(some 8), (.lenSl (.t 7)), none, [], false⟩, ⟨(some 9), (.mkslice 1 8 [(.int .i64 0)] (.t 8) (.t 8)), none, [], false⟩, ⟨(some 5), (.mv (.t 9)), none, [], false⟩]) (
  .seq (
  .region [⟨(some 10), (.mv (.t 5)), none, [], false⟩, ⟨(some 11), (.mv (.t 0)), none, [], false⟩, ⟨(some 12), (.mv (.t 1)), none, [], false⟩, ⟨(some 13), (.slice 1 (.t 11) (some (.t 12)) none), none, [], false⟩, ⟨(some 14), (.copy 1 (.t 10) (.t 13)), none, [], false⟩, ⟨(some 6), (.mv (.t 14)), none, [], false⟩]) (
  .seq (
  .region [⟨(some 15), (.mv (.t 5)), none, [], true⟩, ⟨(some 16), (.mv (.t 6)), none, [], true⟩, ⟨(some 17), (.slice 1 (.t 15) (some (.t 16)) none), none, [], true⟩, ⟨(some 18), (.mv (.t 0)), none, [], true⟩, ⟨(some 19), (.mv (.t 1)), none, [], true⟩, ⟨(some 20), (.slice 1 (.t 18) none (some (.t 19))), none, [], true⟩, ⟨(some 21), (.copy 1 (.t 17) (.t 20)), none, [], true⟩]) (
  .seq (
  .region [⟨(some 22), (.mv (.t 5)), none, [], false⟩, ⟨(some 4), (.mv (.t 22)), none, [], false⟩]) .ret)))))⟩
theorem c59 : compFunc Try.prog [] [] Try.f59 = some l59 := by kernel_rfl
def l69 : LFunc := ⟨26, [(.tmp 4)],
  (
  .seq (
  .region [⟨(some 4), (.mv (.c (.bool false))), none, [], false⟩]) (
  .seq (
  .seq (
  .region [⟨(some 6), (.mv (.t 0)), none, [], false⟩, ⟨(some 7), (.lenSl (.t 6)), none, [], false⟩, ⟨(some 8), (.mv (.t 1)), none, [], false⟩, ⟨(some 9), (.lenSl (.t 8)), none, [], false⟩, ⟨(some 10), (.bin .neq (.t 7) (.t 9)), none, [], false⟩]) (.cond (.t 10) (
  .seq (
  .region [⟨(some 4), (.mv (.c (.bool false))), none, [], false⟩]) .ret) .skip)) (
  .seq (
  .seq (
  .region [⟨(some 11), (.mv (.t 0)), none, [], false⟩, ⟨(some 12), (.lenSl (.t 11)), none, [], false⟩, ⟨(some 13), (.mv (.c (.int .i64 0))), none, [], false⟩]) (.block 0 (.loop (
  .seq (
  .region [⟨(some 14), (.bin .lss (.t 13) (.t 12)), none, [], false⟩]) (
  .seq (.cond (.t 14) .skip (.exit 0)) (
  .seq (.block 1 (
  .seq (
  .region [⟨(some 15), (.mv (.t 13)), none, [], false⟩, ⟨(some 5), (.mv (.t 15)), none, [], false⟩]) (
  .seq (
  .region [⟨(some 16), (.mv (.t 0)), none, [], true⟩, ⟨(some 17), (.mv (.t 5)), none, [], true⟩, ⟨(some 18), (.iaddr 1 (.t 16) (.t 17)), none, [], true⟩, ⟨(some 19), (.load none (.t 18)), none, [], true⟩, ⟨(some 20), (.mv (.t 1)), none, [], true⟩, ⟨(some 21), (.mv (.t 5)), none, [], true⟩, ⟨(some 22), (.iaddr 1 (.t 20) (.t 21)), none, [], true⟩, ⟨(some 23), (.load none (.t 22)), none, [], true⟩, ⟨(some 24), (.bin .neq (.t 19) (.t 23)), none, [], true⟩]) (.cond (.t 24) (
  .seq (
  .region [⟨(some 4), (.mv (.c (.bool false))), none, [], false⟩]) .ret) .skip)))) (
  .region [⟨(some 25), (.bin .add (.t 13) (.c (.int .i64 1))), none, [], false⟩, ⟨(some 13), (.mv (.t 25)), none, [], false⟩]))))))) (
  .seq (
  .region [⟨(some 4), (.mv (.c (.bool true))), none, [], false⟩]) .ret))))⟩
theorem c69 : compFunc Try.prog [] [] Try.f69 = some l69 := by kernel_rfl
end Go.Proofs.Ytmfpcofncfhklaa
