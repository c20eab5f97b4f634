/- Plain forms of functions, by program. -/
import Derived.Test.YtmfpcofncfhklaaProg
import Derived.Test.YtmfpcofncfhklaaPvRow
import Derived.KernelRfl
namespace Go.Proofs.Ytmfpcofncfhklaa
open Go Go.Pv
set_option maxRecDepth 100000
def l4 : LFunc := ⟨60, [(.tmp 4)],
  (
  .seq (
  .region [⟨(some 2), (.box true (.t 0)), none, [], false⟩, ⟨(some 3), (.box true (.t 1)), none, [], false⟩, ⟨(some 4), (.mv (.c (.bool false))), none, [], false⟩]) (
  .seq (
  .region [⟨(some 7), (.call (.c (.fn (.func 8) [] [])) []), none, [], false⟩, ⟨(some 5), (.mv (.t 7)), none, [], false⟩]) (
  .seq (
  .seq (
  .region [⟨(some 8), (.load (some 4) (.t 2)), none, [], false⟩, ⟨(some 9), (.call (.c (.fn (.func 14) [] [])) [(.t 8)]), none, [], false⟩, ⟨(some 10), (.un .not (.t 9)), none, [], false⟩, ⟨(some 11), (.mv (.t 10)), none, [], false⟩, ⟨(some 12), (.load (some 4) (.t 2)), (some (11, false)), [], false⟩, ⟨(some 13), (.call (.c (.fn (.func 15) [] [])) [(.t 12)]), (some (11, false)), [], false⟩, ⟨(some 14), (.un .not (.t 13)), (some (11, false)), [], false⟩, ⟨(some 15), (.pick (.t 11) (.c (.bool true)) (.t 14)), none, [], false⟩, ⟨(some 16), (.mv (.t 15)), none, [], false⟩, ⟨(some 17), (.load (some 2) (.t 3)), (some (16, false)), [], false⟩, ⟨(some 18), (.call (.c (.fn (.func 16) [] [])) [(.t 17)]), (some (16, false)), [], false⟩, ⟨(some 19), (.un .not (.t 18)), (some (16, false)), [], false⟩, ⟨(some 20), (.pick (.t 16) (.c (.bool true)) (.t 19)), none, [], false⟩, ⟨(some 21), (.mv (.t 20)), none, [], false⟩, ⟨(some 22), (.faddr 0 (.t 2)), (some (21, false)), [], false⟩, ⟨(some 23), (.load none (.t 22)), (some (21, false)), [], false⟩, ⟨(some 24), (.load (some 2) (.t 3)), (some (21, false)), [], false⟩, ⟨(some 25), (.call (.c (.fn (.func 17) [] [])) [(.t 23), (.t 24)]), (some (21, false)), [], false⟩, ⟨(some 26), (.un .not (.t 25)), (some (21, false)), [], false⟩, ⟨(some 27), (.pick (.t 21) (.c (.bool true)) (.t 26)), none, [], false⟩, ⟨(some 28), (.mv (.t 27)), none, [], false⟩, ⟨(some 29), (.load (some 4) (.t 2)), (some (28, false)), [], false⟩, ⟨(some 30), (.call (.c (.fn (.func 18) [] [])) [(.t 29)]), (some (28, false)), [], false⟩, ⟨(some 31), (.bin .gtr (.t 30) (.c (.int .i64 10000))), (some (28, false)), [], false⟩, ⟨(some 32), (.pick (.t 28) (.c (.bool true)) (.t 31)), none, [], false⟩]) (.cond (.t 32) (
  .seq (
  .region [⟨(some 33), (.mv (.t 5)), none, [], false⟩, ⟨(some 4), (.mv (.t 33)), none, [], false⟩]) .ret) .skip)) (
  .seq (
  .region [⟨(some 34), (.load (some 4) (.t 2)), none, [], false⟩, ⟨(some 35), (.call (.c (.fn (.func 19) [] [])) [(.t 34)]), none, [], false⟩, ⟨(some 6), (.alloc [(.int .i64 0), (.int .i64 0), .nils, .nils]), none, [], false⟩, ⟨none, (.store 4 (.t 6) (.t 35)), none, [], false⟩]) (
  .seq (
  .region [⟨(some 36), (.mv (.t 5)), none, [], true⟩, ⟨(some 37), (.mv (.t 36)), none, [], true⟩, ⟨(some 38), (.load (some 4) (.t 6)), (some (37, true)), [], true⟩, ⟨(some 39), (.call (.c (.fn (.func 11) [] [])) [(.t 38)]), (some (37, true)), [], true⟩, ⟨(some 40), (.pick (.t 37) (.t 39) (.c (.bool false))), none, [], true⟩, ⟨(some 41), (.mv (.t 40)), none, [], true⟩, ⟨(some 42), (.load (some 4) (.t 6)), (some (41, true)), [], true⟩, ⟨(some 43), (.load (some 2) (.t 3)), (some (41, true)), [], true⟩, ⟨(some 45), (.load (some 4) (.t 2)), (some (41, true)), [], true⟩, ⟨(some 46), (.load (some 2) (.t 3)), (some (41, true)), [], true⟩, ⟨(some 44), (.call (.c (.fn (.func 12) [] [])) [(.t 42), (.t 43)]), (some (41, true)), [(45, ((some (41, true)), (.load (some 4) (.t 2)))), (46, ((some (41, true)), (.load (some 2) (.t 3))))], true⟩, ⟨(some 47), (.call (.c (.fn (.func 12) [] [])) [(.t 45), (.t 46)]), (some (41, true)), [], true⟩, ⟨(some 48), (.eq true .bool (.t 44) (.t 47)), (some (41, true)), [], true⟩, ⟨(some 49), (.pick (.t 41) (.t 48) (.c (.bool false))), none, [], true⟩, ⟨(some 50), (.mv (.t 49)), none, [], true⟩, ⟨(some 51), (.load (some 4) (.t 6)), (some (50, true)), [], true⟩, ⟨(some 53), (.load (some 2) (.t 3)), (some (50, true)), [], true⟩, ⟨(some 55), (.load (some 4) (.t 2)), (some (50, true)), [], true⟩, ⟨(some 56), (.load (some 2) (.t 3)), (some (50, true)), [], true⟩, ⟨(some 52), (.call (.c (.fn (.func 19) [] [])) [(.t 51)]), (some (50, true)), [(53, ((some (50, true)), (.load (some 2) (.t 3)))), (55, ((some (50, true)), (.load (some 4) (.t 2)))), (56, ((some (50, true)), (.load (some 2) (.t 3))))], true⟩, ⟨(some 54), (.call (.c (.fn (.func 12) [] [])) [(.t 52), (.t 53)]), (some (50, true)), [(55, ((some (50, true)), (.load (some 4) (.t 2)))), (56, ((some (50, true)), (.load (some 2) (.t 3))))], true⟩, ⟨(some 57), (.call (.c (.fn (.func 12) [] [])) [(.t 55), (.t 56)]), (some (50, true)), [], true⟩, ⟨(some 58), (.eq false .bool (.t 54) (.t 57)), (some (50, true)), [], true⟩, ⟨(some 59), (.pick (.t 50) (.t 58) (.c (.bool false))), none, [], true⟩, ⟨(some 4), (.mv (.t 59)), none, [], true⟩]) .ret)))))⟩
theorem c4 : compFunc Try.prog [] [] Try.f4 = some l4 := by kernel_rfl
def l6 : LFunc := ⟨58, [(.tmp 6)],
  (
  .seq (
  .region [⟨(some 3), (.box true (.t 0)), none, [], false⟩, ⟨(some 4), (.box true (.t 1)), none, [], false⟩, ⟨(some 6), (.mv (.c (.bool false))), none, [], false⟩]) (
  .seq (
  .region [⟨(some 9), (.call (.c (.fn (.func 8) [] [])) []), none, [], false⟩, ⟨(some 7), (.mv (.t 9)), none, [], false⟩]) (
  .seq (
  .seq (
  .region [⟨(some 10), (.load (some 4) (.t 3)), none, [], false⟩, ⟨(some 11), (.call (.c (.fn (.func 14) [] [])) [(.t 10)]), none, [], false⟩, ⟨(some 12), (.un .not (.t 11)), none, [], false⟩, ⟨(some 13), (.mv (.t 12)), none, [], false⟩, ⟨(some 14), (.load (some 4) (.t 3)), (some (13, false)), [], false⟩, ⟨(some 15), (.call (.c (.fn (.func 15) [] [])) [(.t 14)]), (some (13, false)), [], false⟩, ⟨(some 16), (.un .not (.t 15)), (some (13, false)), [], false⟩, ⟨(some 17), (.pick (.t 13) (.c (.bool true)) (.t 16)), none, [], false⟩, ⟨(some 18), (.mv (.t 17)), none, [], false⟩, ⟨(some 19), (.load (some 2) (.t 4)), (some (18, false)), [], false⟩, ⟨(some 20), (.call (.c (.fn (.func 16) [] [])) [(.t 19)]), (some (18, false)), [], false⟩, ⟨(some 21), (.un .not (.t 20)), (some (18, false)), [], false⟩, ⟨(some 22), (.pick (.t 18) (.c (.bool true)) (.t 21)), none, [], false⟩, ⟨(some 23), (.mv (.t 22)), none, [], false⟩, ⟨(some 24), (.faddr 0 (.t 3)), (some (23, false)), [], false⟩, ⟨(some 25), (.load none (.t 24)), (some (23, false)), [], false⟩, ⟨(some 26), (.load (some 2) (.t 4)), (some (23, false)), [], false⟩, ⟨(some 27), (.call (.c (.fn (.func 17) [] [])) [(.t 25), (.t 26)]), (some (23, false)), [], false⟩, ⟨(some 28), (.un .not (.t 27)), (some (23, false)), [], false⟩, ⟨(some 29), (.pick (.t 23) (.c (.bool true)) (.t 28)), none, [], false⟩, ⟨(some 30), (.mv (.t 29)), none, [], false⟩, ⟨(some 31), (.load (some 4) (.t 3)), (some (30, false)), [], false⟩, ⟨(some 32), (.call (.c (.fn (.func 18) [] [])) [(.t 31)]), (some (30, false)), [], false⟩, ⟨(some 33), (.bin .gtr (.t 32) (.c (.int .i64 6000))), (some (30, false)), [], false⟩, ⟨(some 34), (.pick (.t 30) (.c (.bool true)) (.t 33)), none, [], false⟩]) (.cond (.t 34) (
  .seq (
  .region [⟨(some 35), (.mv (.t 7)), none, [], false⟩, ⟨(some 6), (.mv (.t 35)), none, [], false⟩]) .ret) .skip)) (
  .seq (
  .region [⟨(some 36), (.load (some 4) (.t 3)), none, [], false⟩, ⟨(some 37), (.mv (.t 2)), none, [], false⟩, ⟨(some 38), (.convInt .i64 (.t 37)), none, [], false⟩, ⟨(some 39), (.call (.c (.fn (.func 21) [] [])) [(.t 36), (.t 38)]), none, [], false⟩, ⟨(some 8), (.alloc [(.int .i64 0), (.int .i64 0), .nils, .nils]), none, [], false⟩, ⟨none, (.store 4 (.t 8) (.t 39)), none, [], false⟩]) (
  .seq (
  .region [⟨(some 40), (.mv (.t 7)), none, [], true⟩, ⟨(some 41), (.mv (.t 40)), none, [], true⟩, ⟨(some 42), (.load (some 4) (.t 8)), (some (41, true)), [], true⟩, ⟨(some 43), (.call (.c (.fn (.func 11) [] [])) [(.t 42)]), (some (41, true)), [], true⟩, ⟨(some 44), (.pick (.t 41) (.t 43) (.c (.bool false))), none, [], true⟩, ⟨(some 45), (.mv (.t 44)), none, [], true⟩, ⟨(some 46), (.load (some 4) (.t 8)), (some (45, true)), [], true⟩, ⟨(some 47), (.load (some 2) (.t 4)), (some (45, true)), [], true⟩, ⟨(some 49), (.load (some 4) (.t 3)), (some (45, true)), [], true⟩, ⟨(some 50), (.load (some 2) (.t 4)), (some (45, true)), [], true⟩, ⟨(some 53), (.mv (.t 2)), (some (45, true)), [], true⟩, ⟨(some 54), (.bin .rem (.t 53) (.c (.int .u8 2))), (some (45, true)), [], true⟩, ⟨(some 55), (.bin .eql (.t 54) (.c (.int .u8 0))), (some (45, true)), [], true⟩, ⟨(some 48), (.call (.c (.fn (.func 12) [] [])) [(.t 46), (.t 47)]), (some (45, true)), [(49, ((some (45, true)), (.load (some 4) (.t 3)))), (50, ((some (45, true)), (.load (some 2) (.t 4))))], true⟩, ⟨(some 51), (.call (.c (.fn (.func 12) [] [])) [(.t 49), (.t 50)]), (some (45, true)), [], true⟩, ⟨(some 52), (.eq false .bool (.t 48) (.t 51)), (some (45, true)), [], true⟩, ⟨(some 56), (.eq false .bool (.t 52) (.t 55)), (some (45, true)), [], true⟩, ⟨(some 57), (.pick (.t 45) (.t 56) (.c (.bool false))), none, [], true⟩, ⟨(some 6), (.mv (.t 57)), none, [], true⟩]) .ret)))))⟩
theorem c6 : compFunc Try.prog [] [] Try.f6 = some l6 := by kernel_rfl
def l11 : LFunc := ⟨107, [(.tmp 2)],
  (
  .seq (
  .region [⟨(some 1), (.box true (.t 0)), none, [], false⟩, ⟨(some 2), (.mv (.c (.bool false))), none, [], false⟩]) (
  .seq (
  .region [⟨(some 8), (.faddr 2 (.t 1)), none, [], false⟩, ⟨(some 9), (.load none (.t 8)), none, [], false⟩, ⟨(some 10), (.lenSl (.t 9)), none, [], false⟩, ⟨(some 3), (.mv (.t 10)), none, [], false⟩]) (
  .seq (
  .seq (
  .region [⟨(some 11), (.faddr 0 (.t 1)), none, [], false⟩, ⟨(some 12), (.load none (.t 11)), none, [], false⟩, ⟨(some 13), (.bin .lss (.t 12) (.c (.int .i64 1))), none, [], false⟩, ⟨(some 14), (.mv (.t 13)), none, [], false⟩, ⟨(some 15), (.faddr 0 (.t 1)), (some (14, false)), [], false⟩, ⟨(some 16), (.load none (.t 15)), (some (14, false)), [], false⟩, ⟨(some 17), (.bin .gtr (.t 16) (.c (.int .i64 64))), (some (14, false)), [], false⟩, ⟨(some 18), (.pick (.t 14) (.c (.bool true)) (.t 17)), none, [], false⟩, ⟨(some 19), (.mv (.t 18)), none, [], false⟩, ⟨(some 20), (.mv (.t 3)), (some (19, false)), [], false⟩, ⟨(some 21), (.bin .lss (.t 20) (.c (.int .i64 1))), (some (19, false)), [], false⟩, ⟨(some 22), (.pick (.t 19) (.c (.bool true)) (.t 21)), none, [], false⟩, ⟨(some 23), (.mv (.t 22)), none, [], false⟩, ⟨(some 24), (.mv (.t 3)), (some (23, false)), [], false⟩, ⟨(some 25), (.bin .gtr (.t 24) (.c (.int .i64 3000))), (some (23, false)), [], false⟩, ⟨(some 26), (.pick (.t 23) (.c (.bool true)) (.t 25)), none, [], false⟩, ⟨(some 27), (.mv (.t 26)), none, [], false⟩, ⟨(some 28), (.faddr 3 (.t 1)), (some (27, false)), [], false⟩, ⟨(some 29), (.load none (.t 28)), (some (27, false)), [], false⟩, ⟨(some 30), (.lenSl (.t 29)), (some (27, false)), [], false⟩, ⟨(some 31), (.mv (.t 3)), (some (27, false)), [], false⟩, ⟨(some 32), (.bin .neq (.t 30) (.t 31)), (some (27, false)), [], false⟩, ⟨(some 33), (.pick (.t 27) (.c (.bool true)) (.t 32)), none, [], false⟩, ⟨(some 34), (.mv (.t 33)), none, [], false⟩, ⟨(some 35), (.faddr 1 (.t 1)), (some (34, false)), [], false⟩, ⟨(some 36), (.load none (.t 35)), (some (34, false)), [], false⟩, ⟨(some 37), (.bin .lss (.t 36) (.c (.int .i64 0))), (some (34, false)), [], false⟩, ⟨(some 38), (.pick (.t 34) (.c (.bool true)) (.t 37)), none, [], false⟩, ⟨(some 39), (.mv (.t 38)), none, [], false⟩, ⟨(some 40), (.faddr 1 (.t 1)), (some (39, false)), [], false⟩, ⟨(some 41), (.load none (.t 40)), (some (39, false)), [], false⟩, ⟨(some 42), (.mv (.t 3)), (some (39, false)), [], false⟩, ⟨(some 43), (.bin .geq (.t 41) (.t 42)), (some (39, false)), [], false⟩, ⟨(some 44), (.pick (.t 39) (.c (.bool true)) (.t 43)), none, [], false⟩]) (.cond (.t 44) (
  .seq (
  .region [⟨(some 2), (.mv (.c (.bool false))), none, [], false⟩]) .ret) .skip)) (
  .seq (
  .seq (
  .region [⟨(some 45), (.faddr 2 (.t 1)), none, [], false⟩, ⟨(some 46), (.load none (.t 45)), none, [], false⟩, ⟨(some 47), (.lenSl (.t 46)), none, [], false⟩, ⟨(some 48), (.mv (.c (.int .i64 0))), none, [], false⟩]) (.block 0 (.loop (
  .seq (
  .region [⟨(some 49), (.bin .lss (.t 48) (.t 47)), none, [], false⟩]) (
  .seq (.cond (.t 49) .skip (.exit 0)) (
  .seq (.block 1 (
  .seq (
  .region [⟨(some 50), (.mv (.t 48)), none, [], false⟩, ⟨(some 51), (.iaddr 1 (.t 46) (.t 48)), none, [], false⟩, ⟨(some 52), (.load none (.t 51)), none, [], false⟩, ⟨(some 4), (.mv (.t 50)), none, [], false⟩, ⟨(some 5), (.mv (.t 52)), none, [], false⟩]) (
  .seq (
  .seq (
  .region [⟨(some 53), (.mv (.t 5)), none, [], true⟩, ⟨(some 54), (.lenSl (.t 53)), none, [], true⟩, ⟨(some 55), (.faddr 0 (.t 1)), none, [], true⟩, ⟨(some 56), (.load none (.t 55)), none, [], true⟩, ⟨(some 57), (.bin .neq (.t 54) (.t 56)), none, [], true⟩, ⟨(some 58), (.mv (.t 57)), none, [], true⟩, ⟨(some 59), (.faddr 3 (.t 1)), (some (58, false)), [], true⟩, ⟨(some 60), (.load none (.t 59)), (some (58, false)), [], true⟩, ⟨(some 61), (.mv (.t 4)), (some (58, false)), [], true⟩, ⟨(some 62), (.iaddr 1 (.t 60) (.t 61)), (some (58, false)), [], true⟩, ⟨(some 63), (.load none (.t 62)), (some (58, false)), [], true⟩, ⟨(some 64), (.lenSl (.t 63)), (some (58, false)), [], true⟩, ⟨(some 65), (.faddr 0 (.t 1)), (some (58, false)), [], true⟩, ⟨(some 66), (.load none (.t 65)), (some (58, false)), [], true⟩, ⟨(some 67), (.bin .neq (.t 64) (.t 66)), (some (58, false)), [], true⟩, ⟨(some 68), (.pick (.t 58) (.c (.bool true)) (.t 67)), none, [], true⟩]) (.cond (.t 68) (
  .seq (
  .region [⟨(some 2), (.mv (.c (.bool false))), none, [], false⟩]) .ret) .skip)) (
  .seq (
  .region [⟨(some 69), (.mv (.t 5)), none, [], false⟩, ⟨(some 70), (.lenSl (.t 69)), none, [], false⟩, ⟨(some 71), (.mv (.c (.int .i64 0))), none, [], false⟩]) (.block 2 (.loop (
  .seq (
  .region [⟨(some 72), (.bin .lss (.t 71) (.t 70)), none, [], false⟩]) (
  .seq (.cond (.t 72) .skip (.exit 2)) (
  .seq (.block 3 (
  .seq (
  .region [⟨(some 73), (.mv (.t 71)), none, [], false⟩, ⟨(some 74), (.iaddr 1 (.t 69) (.t 71)), none, [], false⟩, ⟨(some 75), (.load none (.t 74)), none, [], false⟩, ⟨(some 6), (.mv (.t 73)), none, [], false⟩, ⟨(some 7), (.mv (.t 75)), none, [], false⟩]) (
  .seq (
  .region [⟨(some 76), (.mv (.t 7)), none, [], false⟩, ⟨(some 77), (.bin .lss (.t 76) (.c (.int .i64 0))), none, [], false⟩, ⟨(some 78), (.mv (.t 77)), none, [], false⟩, ⟨(some 79), (.mv (.t 7)), (some (78, false)), [], false⟩, ⟨(some 80), (.mv (.t 3)), (some (78, false)), [], false⟩, ⟨(some 81), (.bin .geq (.t 79) (.t 80)), (some (78, false)), [], false⟩, ⟨(some 82), (.pick (.t 78) (.c (.bool true)) (.t 81)), none, [], false⟩, ⟨(some 83), (.mv (.t 82)), none, [], false⟩, ⟨(some 84), (.faddr 3 (.t 1)), (some (83, false)), [], false⟩, ⟨(some 85), (.load none (.t 84)), (some (83, false)), [], false⟩, ⟨(some 86), (.mv (.t 4)), (some (83, false)), [], false⟩, ⟨(some 87), (.iaddr 1 (.t 85) (.t 86)), (some (83, false)), [], false⟩, ⟨(some 88), (.load none (.t 87)), (some (83, false)), [], false⟩, ⟨(some 89), (.mv (.t 6)), (some (83, false)), [], false⟩, ⟨(some 90), (.iaddr 1 (.t 88) (.t 89)), (some (83, false)), [], false⟩, ⟨(some 91), (.load none (.t 90)), (some (83, false)), [], false⟩, ⟨(some 92), (.bin .lss (.t 91) (.c (.int .i64 0))), (some (83, false)), [], false⟩, ⟨(some 93), (.pick (.t 83) (.c (.bool true)) (.t 92)), none, [], false⟩, ⟨(some 94), (.mv (.t 93)), none, [], false⟩, ⟨(some 95), (.faddr 3 (.t 1)), (some (94, false)), [], false⟩, ⟨(some 96), (.load none (.t 95)), (some (94, false)), [], false⟩, ⟨(some 97), (.mv (.t 4)), (some (94, false)), [], false⟩, ⟨(some 98), (.iaddr 1 (.t 96) (.t 97)), (some (94, false)), [], false⟩, ⟨(some 99), (.load none (.t 98)), (some (94, false)), [], false⟩, ⟨(some 100), (.mv (.t 6)), (some (94, false)), [], false⟩, ⟨(some 101), (.iaddr 1 (.t 99) (.t 100)), (some (94, false)), [], false⟩, ⟨(some 102), (.load none (.t 101)), (some (94, false)), [], false⟩, ⟨(some 103), (.bin .gtr (.t 102) (.c (.int .i64 20000))), (some (94, false)), [], false⟩, ⟨(some 104), (.pick (.t 94) (.c (.bool true)) (.t 103)), none, [], false⟩]) (.cond (.t 104) (
  .seq (
  .region [⟨(some 2), (.mv (.c (.bool false))), none, [], false⟩]) .ret) .skip)))) (
  .region [⟨(some 105), (.bin .add (.t 71) (.c (.int .i64 1))), none, [], false⟩, ⟨(some 71), (.mv (.t 105)), none, [], false⟩])))))))))) (
  .region [⟨(some 106), (.bin .add (.t 48) (.c (.int .i64 1))), none, [], false⟩, ⟨(some 48), (.mv (.t 106)), none, [], false⟩]))))))) (
  .seq (
  .region [⟨(some 2), (.mv (.c (.bool true))), none, [], false⟩]) .ret)))))⟩
theorem c11 : compFunc Try.prog [] [] Try.f11 = some l11 := by kernel_rfl
def l12 : LFunc := ⟨53, [(.tmp 4)],
  (
  .seq (
  .region [⟨(some 2), (.box true (.t 0)), none, [], false⟩, ⟨(some 3), (.box true (.t 1)), none, [], false⟩, ⟨(some 4), (.mv (.c (.bool false))), none, [], false⟩]) (
  .seq (
  .seq (
  .region [⟨(some 11), (.load (some 4) (.t 2)), none, [], false⟩, ⟨(some 12), (.call (.c (.fn (.func 11) [] [])) [(.t 11)]), none, [], false⟩, ⟨(some 13), (.un .not (.t 12)), none, [], false⟩, ⟨(some 14), (.mv (.t 13)), none, [], false⟩, ⟨(some 15), (.faddr 0 (.t 2)), (some (14, false)), [], false⟩, ⟨(some 16), (.load none (.t 15)), (some (14, false)), [], false⟩, ⟨(some 17), (.load (some 2) (.t 3)), (some (14, false)), [], false⟩, ⟨(some 18), (.call (.c (.fn (.func 26) [] [])) [(.t 16), (.t 17)]), (some (14, false)), [], false⟩, ⟨(some 19), (.un .not (.t 18)), (some (14, false)), [], false⟩, ⟨(some 20), (.pick (.t 14) (.c (.bool true)) (.t 19)), none, [], false⟩]) (.cond (.t 20) (
  .seq (
  .region [⟨(some 4), (.mv (.c (.bool false))), none, [], false⟩]) .ret) .skip)) (
  .seq (
  .region [⟨(some 21), (.faddr 1 (.t 2)), none, [], false⟩, ⟨(some 22), (.load none (.t 21)), none, [], false⟩, ⟨(some 5), (.alloc [(.int .i64 0)]), none, [], false⟩, ⟨none, (.store 1 (.t 5) (.t 22)), none, [], false⟩]) (
  .seq (
  .region [⟨(some 23), (.mkfn (.func 31) [] [(.t 2), (.t 5)]), none, [], false⟩, ⟨(some 6), (.mv (.t 23)), none, [], false⟩]) (
  .seq (
  .region [⟨(some 24), (.mv (.t 6)), none, [], false⟩, ⟨(some 25), (.faddr 0 (.t 3)), none, [], false⟩, ⟨(some 26), (.load none (.t 25)), none, [], false⟩, ⟨(some 27), (.call (.t 24) [(.t 26)]), none, [], false⟩]) (
  .seq (
  .region [⟨(some 7), (.mv (.c .nils)), none, [], false⟩]) (
  .seq (
  .region [⟨(some 28), (.mkmap none), none, [], false⟩, ⟨(some 8), (.mv (.t 28)), none, [], false⟩]) (.block 0 (.loop (.block 1 (
  .seq (
  .region [⟨(some 30), (.mv (.t 8)), none, [], false⟩, ⟨(some 31), (.load none (.t 5)), none, [], false⟩, ⟨(some 32), (.mlook (.int .i64) (.int .i64 0) true (.t 30) (.t 31)), none, [], false⟩, ⟨(some 29), (.mv (.t 32)), none, [], false⟩, ⟨(some 33), (.ext (.t 29) 0), none, [], false⟩, ⟨(some 34), (.ext (.t 29) 1), none, [], false⟩, ⟨(some 9), (.mv (.t 33)), none, [], false⟩, ⟨(some 10), (.mv (.t 34)), none, [], false⟩]) (
  .seq (
  .seq (
  .region [⟨(some 35), (.mv (.t 10)), none, [], false⟩]) (.cond (.t 35) (
  .seq (
  .region [⟨(some 36), (.mv (.t 7)), none, [], false⟩, ⟨(some 37), (.mv (.t 9)), none, [], false⟩, ⟨(some 38), (.slice 1 (.t 36) (some (.t 37)) none), none, [], false⟩, ⟨(some 39), (.call (.c (.fn (.func 32) [] [])) [(.t 38)]), none, [], false⟩, ⟨(some 40), (.bin .rem (.t 39) (.c (.int .i64 2))), none, [], false⟩, ⟨(some 41), (.bin .eql (.t 40) (.c (.int .i64 0))), none, [], false⟩, ⟨(some 4), (.mv (.t 41)), none, [], false⟩]) .ret) .skip)) (
  .seq (
  .region [⟨(some 42), (.mv (.t 8)), none, [], false⟩, ⟨(some 43), (.load none (.t 5)), none, [], false⟩, ⟨(some 44), (.mv (.t 7)), none, [], false⟩, ⟨(some 45), (.lenSl (.t 44)), none, [], false⟩, ⟨none, (.mupd (.int .i64) (.t 42) (.t 43) (.t 45)), none, [], false⟩]) (
  .region [⟨(some 46), (.mv (.t 7)), none, [], false⟩, ⟨(some 47), (.mv (.t 6)), none, [], false⟩, ⟨(some 48), (.faddr 1 (.t 3)), none, [], false⟩, ⟨(some 49), (.load none (.t 48)), none, [], false⟩, ⟨(some 50), (.call (.t 47) [(.t 49)]), none, [], false⟩, ⟨(some 51), (.bslice 1 1 [(.int .i64 0)] [(0, (1, (.t 50)))]), none, [], false⟩, ⟨(some 52), (.append 1 8 (.t 46) (.t 51)), none, [], false⟩, ⟨(some 7), (.mv (.t 52)), none, [], false⟩]))))))))))))))⟩
theorem c12 : compFunc Try.prog [] [] Try.f12 = some l12 := by kernel_rfl
def l14 : LFunc := ⟨43, [(.tmp 2)],
  (
  .seq (
  .region [⟨(some 1), (.box true (.t 0)), none, [], false⟩, ⟨(some 2), (.mv (.c (.bool false))), none, [], false⟩]) (
  .seq (
  .seq (
  .region [⟨(some 5), (.faddr 2 (.t 1)), none, [], false⟩, ⟨(some 6), (.load none (.t 5)), none, [], false⟩, ⟨(some 7), (.lenSl (.t 6)), none, [], false⟩, ⟨(some 8), (.bin .gtr (.t 7) (.c (.int .i64 60))), none, [], false⟩, ⟨(some 9), (.mv (.t 8)), none, [], false⟩, ⟨(some 10), (.faddr 3 (.t 1)), (some (9, false)), [], false⟩, ⟨(some 11), (.load none (.t 10)), (some (9, false)), [], false⟩, ⟨(some 12), (.lenSl (.t 11)), (some (9, false)), [], false⟩, ⟨(some 13), (.bin .gtr (.t 12) (.c (.int .i64 60))), (some (9, false)), [], false⟩, ⟨(some 14), (.pick (.t 9) (.c (.bool true)) (.t 13)), none, [], false⟩]) (.cond (.t 14) (
  .seq (
  .region [⟨(some 2), (.mv (.c (.bool false))), none, [], false⟩]) .ret) .skip)) (
  .seq (
  .seq (
  .region [⟨(some 3), (.mv (.c (.int .i64 0))), none, [], false⟩]) (.block 0 (.loop (
  .seq (
  .seq (
  .region [⟨(some 15), (.mv (.t 3)), none, [], false⟩, ⟨(some 16), (.faddr 2 (.t 1)), none, [], false⟩, ⟨(some 17), (.load none (.t 16)), none, [], false⟩, ⟨(some 18), (.lenSl (.t 17)), none, [], false⟩, ⟨(some 19), (.bin .lss (.t 15) (.t 18)), none, [], false⟩]) (.cond (.t 19) .skip (.exit 0))) (
  .seq (.block 1 (
  .seq (
  .region [⟨(some 22), (.faddr 2 (.t 1)), none, [], false⟩, ⟨(some 23), (.load none (.t 22)), none, [], false⟩, ⟨(some 24), (.mv (.t 3)), none, [], false⟩, ⟨(some 25), (.iaddr 1 (.t 23) (.t 24)), none, [], false⟩, ⟨(some 26), (.load none (.t 25)), none, [], false⟩, ⟨(some 27), (.lenSl (.t 26)), none, [], false⟩, ⟨(some 28), (.bin .gtr (.t 27) (.c (.int .i64 16))), none, [], false⟩]) (.cond (.t 28) (
  .seq (
  .region [⟨(some 2), (.mv (.c (.bool false))), none, [], false⟩]) .ret) .skip))) (
  .region [⟨(some 20), (.mv (.t 3)), none, [], false⟩, ⟨(some 21), (.bin .add (.t 20) (.c (.int .i64 1))), none, [], false⟩, ⟨(some 3), (.mv (.t 21)), none, [], false⟩])))))) (
  .seq (
  .seq (
  .region [⟨(some 4), (.mv (.c (.int .i64 0))), none, [], false⟩]) (.block 2 (.loop (
  .seq (
  .seq (
  .region [⟨(some 29), (.mv (.t 4)), none, [], false⟩, ⟨(some 30), (.faddr 3 (.t 1)), none, [], false⟩, ⟨(some 31), (.load none (.t 30)), none, [], false⟩, ⟨(some 32), (.lenSl (.t 31)), none, [], false⟩, ⟨(some 33), (.bin .lss (.t 29) (.t 32)), none, [], false⟩]) (.cond (.t 33) .skip (.exit 2))) (
  .seq (.block 3 (
  .seq (
  .region [⟨(some 36), (.faddr 3 (.t 1)), none, [], false⟩, ⟨(some 37), (.load none (.t 36)), none, [], false⟩, ⟨(some 38), (.mv (.t 4)), none, [], false⟩, ⟨(some 39), (.iaddr 1 (.t 37) (.t 38)), none, [], false⟩, ⟨(some 40), (.load none (.t 39)), none, [], false⟩, ⟨(some 41), (.lenSl (.t 40)), none, [], false⟩, ⟨(some 42), (.bin .gtr (.t 41) (.c (.int .i64 16))), none, [], false⟩]) (.cond (.t 42) (
  .seq (
  .region [⟨(some 2), (.mv (.c (.bool false))), none, [], false⟩]) .ret) .skip))) (
  .region [⟨(some 34), (.mv (.t 4)), none, [], false⟩, ⟨(some 35), (.bin .add (.t 34) (.c (.int .i64 1))), none, [], false⟩, ⟨(some 4), (.mv (.t 35)), none, [], false⟩])))))) (
  .seq (
  .region [⟨(some 2), (.mv (.c (.bool true))), none, [], false⟩]) .ret)))))⟩
theorem c14 : compFunc Try.prog [] [] Try.f14 = some l14 := by kernel_rfl
def l15 : LFunc := ⟨118, [(.tmp 2)],
  (
  .seq (
  .region [⟨(some 1), (.box true (.t 0)), none, [], false⟩, ⟨(some 2), (.mv (.c (.bool false))), none, [], false⟩]) (
  .seq (
  .region [⟨(some 6), (.faddr 2 (.t 1)), none, [], false⟩, ⟨(some 7), (.load none (.t 6)), none, [], false⟩, ⟨(some 8), (.lenSl (.t 7)), none, [], false⟩, ⟨(some 3), (.mv (.t 8)), none, [], false⟩]) (
  .seq (
  .seq (
  .region [⟨(some 9), (.faddr 0 (.t 1)), none, [], false⟩, ⟨(some 10), (.load none (.t 9)), none, [], false⟩, ⟨(some 11), (.bin .lss (.t 10) (.c (.int .i64 1))), none, [], false⟩, ⟨(some 12), (.mv (.t 11)), none, [], false⟩, ⟨(some 13), (.faddr 0 (.t 1)), (some (12, false)), [], false⟩, ⟨(some 14), (.load none (.t 13)), (some (12, false)), [], false⟩, ⟨(some 15), (.bin .gtr (.t 14) (.c (.int .i64 64))), (some (12, false)), [], false⟩, ⟨(some 16), (.pick (.t 12) (.c (.bool true)) (.t 15)), none, [], false⟩, ⟨(some 17), (.mv (.t 16)), none, [], false⟩, ⟨(some 18), (.mv (.t 3)), (some (17, false)), [], false⟩, ⟨(some 19), (.bin .lss (.t 18) (.c (.int .i64 1))), (some (17, false)), [], false⟩, ⟨(some 20), (.pick (.t 17) (.c (.bool true)) (.t 19)), none, [], false⟩, ⟨(some 21), (.mv (.t 20)), none, [], false⟩, ⟨(some 22), (.mv (.t 3)), (some (21, false)), [], false⟩, ⟨(some 23), (.bin .gtr (.t 22) (.c (.int .i64 3000))), (some (21, false)), [], false⟩, ⟨(some 24), (.pick (.t 21) (.c (.bool true)) (.t 23)), none, [], false⟩, ⟨(some 25), (.mv (.t 24)), none, [], false⟩, ⟨(some 26), (.faddr 3 (.t 1)), (some (25, false)), [], false⟩, ⟨(some 27), (.load none (.t 26)), (some (25, false)), [], false⟩, ⟨(some 28), (.lenSl (.t 27)), (some (25, false)), [], false⟩, ⟨(some 29), (.mv (.t 3)), (some (25, false)), [], false⟩, ⟨(some 30), (.bin .neq (.t 28) (.t 29)), (some (25, false)), [], false⟩, ⟨(some 31), (.pick (.t 25) (.c (.bool true)) (.t 30)), none, [], false⟩, ⟨(some 32), (.mv (.t 31)), none, [], false⟩, ⟨(some 33), (.faddr 1 (.t 1)), (some (32, false)), [], false⟩, ⟨(some 34), (.load none (.t 33)), (some (32, false)), [], false⟩, ⟨(some 35), (.bin .lss (.t 34) (.c (.int .i64 0))), (some (32, false)), [], false⟩, ⟨(some 36), (.pick (.t 32) (.c (.bool true)) (.t 35)), none, [], false⟩, ⟨(some 37), (.mv (.t 36)), none, [], false⟩, ⟨(some 38), (.faddr 1 (.t 1)), (some (37, false)), [], false⟩, ⟨(some 39), (.load none (.t 38)), (some (37, false)), [], false⟩, ⟨(some 40), (.mv (.t 3)), (some (37, false)), [], false⟩, ⟨(some 41), (.bin .geq (.t 39) (.t 40)), (some (37, false)), [], false⟩, ⟨(some 42), (.pick (.t 37) (.c (.bool true)) (.t 41)), none, [], false⟩]) (.cond (.t 42) (
  .seq (
  .region [⟨(some 2), (.mv (.c (.bool false))), none, [], false⟩]) .ret) .skip)) (
  .seq (
  .seq (
  .region [⟨(some 4), (.mv (.c (.int .i64 0))), none, [], false⟩]) (.block 0 (.loop (
  .seq (
  .seq (
  .region [⟨(some 43), (.mv (.t 4)), none, [], false⟩, ⟨(some 44), (.mv (.t 3)), none, [], false⟩, ⟨(some 45), (.bin .lss (.t 43) (.t 44)), none, [], false⟩]) (.cond (.t 45) .skip (.exit 0))) (
  .seq (.block 1 (
  .seq (
  .seq (
  .region [⟨(some 48), (.faddr 2 (.t 1)), none, [], true⟩, ⟨(some 49), (.load none (.t 48)), none, [], true⟩, ⟨(some 50), (.mv (.t 4)), none, [], true⟩, ⟨(some 51), (.iaddr 1 (.t 49) (.t 50)), none, [], true⟩, ⟨(some 52), (.load none (.t 51)), none, [], true⟩, ⟨(some 53), (.lenSl (.t 52)), none, [], true⟩, ⟨(some 54), (.faddr 0 (.t 1)), none, [], true⟩, ⟨(some 55), (.load none (.t 54)), none, [], true⟩, ⟨(some 56), (.bin .neq (.t 53) (.t 55)), none, [], true⟩, ⟨(some 57), (.mv (.t 56)), none, [], true⟩, ⟨(some 58), (.faddr 3 (.t 1)), (some (57, false)), [], true⟩, ⟨(some 59), (.load none (.t 58)), (some (57, false)), [], true⟩, ⟨(some 60), (.mv (.t 4)), (some (57, false)), [], true⟩, ⟨(some 61), (.iaddr 1 (.t 59) (.t 60)), (some (57, false)), [], true⟩, ⟨(some 62), (.load none (.t 61)), (some (57, false)), [], true⟩, ⟨(some 63), (.lenSl (.t 62)), (some (57, false)), [], true⟩, ⟨(some 64), (.faddr 0 (.t 1)), (some (57, false)), [], true⟩, ⟨(some 65), (.load none (.t 64)), (some (57, false)), [], true⟩, ⟨(some 66), (.bin .neq (.t 63) (.t 65)), (some (57, false)), [], true⟩, ⟨(some 67), (.pick (.t 57) (.c (.bool true)) (.t 66)), none, [], true⟩]) (.cond (.t 67) (
  .seq (
  .region [⟨(some 2), (.mv (.c (.bool false))), none, [], false⟩]) .ret) .skip)) (
  .seq (
  .region [⟨(some 5), (.mv (.c (.int .i64 0))), none, [], false⟩]) (.block 2 (.loop (
  .seq (
  .seq (
  .region [⟨(some 68), (.mv (.t 5)), none, [], false⟩, ⟨(some 69), (.faddr 0 (.t 1)), none, [], false⟩, ⟨(some 70), (.load none (.t 69)), none, [], false⟩, ⟨(some 71), (.bin .lss (.t 68) (.t 70)), none, [], false⟩]) (.cond (.t 71) .skip (.exit 2))) (
  .seq (.block 3 (
  .seq (
  .region [⟨(some 74), (.faddr 2 (.t 1)), none, [], true⟩, ⟨(some 75), (.load none (.t 74)), none, [], true⟩, ⟨(some 76), (.mv (.t 4)), none, [], true⟩, ⟨(some 77), (.iaddr 1 (.t 75) (.t 76)), none, [], true⟩, ⟨(some 78), (.load none (.t 77)), none, [], true⟩, ⟨(some 79), (.mv (.t 5)), none, [], true⟩, ⟨(some 80), (.iaddr 1 (.t 78) (.t 79)), none, [], true⟩, ⟨(some 81), (.load none (.t 80)), none, [], true⟩, ⟨(some 82), (.bin .lss (.t 81) (.c (.int .i64 0))), none, [], true⟩, ⟨(some 83), (.mv (.t 82)), none, [], true⟩, ⟨(some 84), (.faddr 2 (.t 1)), (some (83, false)), [], true⟩, ⟨(some 85), (.load none (.t 84)), (some (83, false)), [], true⟩, ⟨(some 86), (.mv (.t 4)), (some (83, false)), [], true⟩, ⟨(some 87), (.iaddr 1 (.t 85) (.t 86)), (some (83, false)), [], true⟩, ⟨(some 88), (.load none (.t 87)), (some (83, false)), [], true⟩, ⟨(some 89), (.mv (.t 5)), (some (83, false)), [], true⟩, ⟨(some 90), (.iaddr 1 (.t 88) (.t 89)), (some (83, false)), [], true⟩, ⟨(some 91), (.load none (.t 90)), (some (83, false)), [], true⟩, ⟨(some 92), (.mv (.t 3)), (some (83, false)), [], true⟩, ⟨(some 93), (.bin .geq (.t 91) (.t 92)), (some (83, false)), [], true⟩, ⟨(some 94), (.pick (.t 83) (.c (.bool true)) (.t 93)), none, [], true⟩, ⟨(some 95), (.mv (.t 94)), none, [], true⟩, ⟨(some 96), (.faddr 3 (.t 1)), (some (95, false)), [], true⟩, ⟨(some 97), (.load none (.t 96)), (some (95, false)), [], true⟩, ⟨(some 98), (.mv (.t 4)), (some (95, false)), [], true⟩, ⟨(some 99), (.iaddr 1 (.t 97) (.t 98)), (some (95, false)), [], true⟩, ⟨(some 100), (.load none (.t 99)), (some (95, false)), [], true⟩, ⟨(some 101), (.mv (.t 5)), (some (95, false)), [], true⟩, ⟨(some 102), (.iaddr 1 (.t 100) (.t 101)), (some (95, false)), [], true⟩, ⟨(some 103), (.load none (.t 102)), (some (95, false)), [], true⟩, ⟨(some 104), (.bin .lss (.t 103) (.c (.int .i64 0))), (some (95, false)), [], true⟩, ⟨(some 105), (.pick (.t 95) (.c (.bool true)) (.t 104)), none, [], true⟩, ⟨(some 106), (.mv (.t 105)), none, [], true⟩, ⟨(some 107), (.faddr 3 (.t 1)), (some (106, false)), [], true⟩, ⟨(some 108), (.load none (.t 107)), (some (106, false)), [], true⟩, ⟨(some 109), (.mv (.t 4)), (some (106, false)), [], true⟩, ⟨(some 110), (.iaddr 1 (.t 108) (.t 109)), (some (106, false)), [], true⟩, ⟨(some 111), (.load none (.t 110)), (some (106, false)), [], true⟩, ⟨(some 112), (.mv (.t 5)), (some (106, false)), [], true⟩, ⟨(some 113), (.iaddr 1 (.t 111) (.t 112)), (some (106, false)), [], true⟩, ⟨(some 114), (.load none (.t 113)), (some (106, false)), [], true⟩, ⟨(some 115), (.call (.c (.fn (.func 37) [] [])) []), (some (106, false)), [(108, ((some (106, false)), (.load none (.t 107)))), (111, ((some (106, false)), (.load none (.t 110)))), (114, ((some (106, false)), (.load none (.t 113))))], true⟩, ⟨(some 116), (.bin .gtr (.t 114) (.t 115)), (some (106, false)), [], true⟩, ⟨(some 117), (.pick (.t 106) (.c (.bool true)) (.t 116)), none, [], true⟩]) (.cond (.t 117) (
  .seq (
  .region [⟨(some 2), (.mv (.c (.bool false))), none, [], false⟩]) .ret) .skip))) (
  .region [⟨(some 72), (.mv (.t 5)), none, [], false⟩, ⟨(some 73), (.bin .add (.t 72) (.c (.int .i64 1))), none, [], false⟩, ⟨(some 5), (.mv (.t 73)), none, [], false⟩])))))))) (
  .region [⟨(some 46), (.mv (.t 4)), none, [], false⟩, ⟨(some 47), (.bin .add (.t 46) (.c (.int .i64 1))), none, [], false⟩, ⟨(some 4), (.mv (.t 47)), none, [], false⟩])))))) (
  .seq (
  .region [⟨(some 2), (.mv (.c (.bool true))), none, [], false⟩]) .ret)))))⟩
theorem c15 : compFunc Try.prog [] [] Try.f15 = some l15 := by kernel_rfl
def l16 : LFunc := ⟨13, [(.tmp 2)],
  (
  .seq (
  .region [⟨(some 1), (.box true (.t 0)), none, [], false⟩, ⟨(some 2), (.mv (.c (.bool false))), none, [], false⟩]) (
  .seq (
  .region [⟨(some 3), (.faddr 0 (.t 1)), none, [], false⟩, ⟨(some 4), (.load none (.t 3)), none, [], false⟩, ⟨(some 5), (.lenSl (.t 4)), none, [], false⟩, ⟨(some 6), (.bin .leq (.t 5) (.c (.int .i64 80))), none, [], false⟩, ⟨(some 7), (.mv (.t 6)), none, [], false⟩, ⟨(some 8), (.faddr 1 (.t 1)), (some (7, true)), [], false⟩, ⟨(some 9), (.load none (.t 8)), (some (7, true)), [], false⟩, ⟨(some 10), (.lenSl (.t 9)), (some (7, true)), [], false⟩, ⟨(some 11), (.bin .leq (.t 10) (.c (.int .i64 80))), (some (7, true)), [], false⟩, ⟨(some 12), (.pick (.t 7) (.t 11) (.c (.bool false))), none, [], false⟩, ⟨(some 2), (.mv (.t 12)), none, [], false⟩]) .ret))⟩
theorem c16 : compFunc Try.prog [] [] Try.f16 = some l16 := by kernel_rfl
def l17 : LFunc := ⟨37, [(.tmp 4)],
  (
  .seq (
  .region [⟨(some 3), (.box true (.t 1)), none, [], false⟩, ⟨(some 4), (.mv (.c (.bool false))), none, [], false⟩]) (
  .seq (
  .seq (
  .region [⟨(some 5), (.mv (.c (.int .i64 0))), none, [], false⟩]) (.block 0 (.loop (
  .seq (
  .seq (
  .region [⟨(some 7), (.mv (.t 5)), none, [], false⟩, ⟨(some 8), (.faddr 0 (.t 3)), none, [], false⟩, ⟨(some 9), (.load none (.t 8)), none, [], false⟩, ⟨(some 10), (.lenSl (.t 9)), none, [], false⟩, ⟨(some 11), (.bin .lss (.t 7) (.t 10)), none, [], false⟩]) (.cond (.t 11) .skip (.exit 0))) (
  .seq (.block 1 (
  .seq (
  .region [⟨(some 14), (.faddr 0 (.t 3)), none, [], false⟩, ⟨(some 15), (.load none (.t 14)), none, [], false⟩, ⟨(some 16), (.mv (.t 5)), none, [], false⟩, ⟨(some 17), (.iaddr 1 (.t 15) (.t 16)), none, [], false⟩, ⟨(some 18), (.load none (.t 17)), none, [], false⟩, ⟨(some 19), (.mv (.t 0)), none, [], false⟩, ⟨(some 20), (.bin .geq (.t 18) (.t 19)), none, [], false⟩]) (.cond (.t 20) (
  .seq (
  .region [⟨(some 4), (.mv (.c (.bool false))), none, [], false⟩]) .ret) .skip))) (
  .region [⟨(some 12), (.mv (.t 5)), none, [], false⟩, ⟨(some 13), (.bin .add (.t 12) (.c (.int .i64 1))), none, [], false⟩, ⟨(some 5), (.mv (.t 13)), none, [], false⟩])))))) (
  .seq (
  .seq (
  .region [⟨(some 6), (.mv (.c (.int .i64 0))), none, [], false⟩]) (.block 2 (.loop (
  .seq (
  .seq (
  .region [⟨(some 21), (.mv (.t 6)), none, [], false⟩, ⟨(some 22), (.faddr 1 (.t 3)), none, [], false⟩, ⟨(some 23), (.load none (.t 22)), none, [], false⟩, ⟨(some 24), (.lenSl (.t 23)), none, [], false⟩, ⟨(some 25), (.bin .lss (.t 21) (.t 24)), none, [], false⟩]) (.cond (.t 25) .skip (.exit 2))) (
  .seq (.block 3 (
  .seq (
  .region [⟨(some 28), (.faddr 1 (.t 3)), none, [], false⟩, ⟨(some 29), (.load none (.t 28)), none, [], false⟩, ⟨(some 30), (.mv (.t 6)), none, [], false⟩, ⟨(some 31), (.iaddr 1 (.t 29) (.t 30)), none, [], false⟩, ⟨(some 32), (.load none (.t 31)), none, [], false⟩, ⟨(some 33), (.mv (.t 0)), none, [], false⟩, ⟨(some 34), (.bin .geq (.t 32) (.t 33)), none, [], false⟩]) (.cond (.t 34) (
  .seq (
  .region [⟨(some 4), (.mv (.c (.bool false))), none, [], false⟩]) .ret) .skip))) (
  .region [⟨(some 26), (.mv (.t 6)), none, [], false⟩, ⟨(some 27), (.bin .add (.t 26) (.c (.int .i64 1))), none, [], false⟩, ⟨(some 6), (.mv (.t 27)), none, [], false⟩])))))) (
  .seq (
  .region [⟨(some 35), (.load (some 2) (.t 3)), none, [], false⟩, ⟨(some 36), (.call (.c (.fn (.func 38) [] [])) [(.t 35)]), none, [], false⟩, ⟨(some 4), (.mv (.t 36)), none, [], false⟩]) .ret))))⟩
theorem c17 : compFunc Try.prog [] [] Try.f17 = some l17 := by kernel_rfl
def l18 : LFunc := ⟨34, [(.tmp 2)],
  (
  .seq (
  .region [⟨(some 1), (.box true (.t 0)), none, [], false⟩, ⟨(some 2), (.mv (.c (.int .i64 0))), none, [], false⟩]) (
  .seq (
  .region [⟨(some 3), (.mv (.c (.int .i64 0))), none, [], false⟩]) (
  .seq (
  .seq (
  .region [⟨(some 4), (.mv (.c (.int .i64 0))), none, [], false⟩]) (.block 0 (.loop (
  .seq (
  .seq (
  .region [⟨(some 6), (.mv (.t 4)), none, [], false⟩, ⟨(some 7), (.faddr 3 (.t 1)), none, [], false⟩, ⟨(some 8), (.load none (.t 7)), none, [], false⟩, ⟨(some 9), (.lenSl (.t 8)), none, [], false⟩, ⟨(some 10), (.bin .lss (.t 6) (.t 9)), none, [], false⟩]) (.cond (.t 10) .skip (.exit 0))) (
  .seq (.block 1 (
  .seq (
  .region [⟨(some 5), (.mv (.c (.int .i64 0))), none, [], false⟩]) (.block 2 (.loop (
  .seq (
  .seq (
  .region [⟨(some 13), (.mv (.t 5)), none, [], false⟩, ⟨(some 14), (.faddr 3 (.t 1)), none, [], false⟩, ⟨(some 15), (.load none (.t 14)), none, [], false⟩, ⟨(some 16), (.mv (.t 4)), none, [], false⟩, ⟨(some 17), (.iaddr 1 (.t 15) (.t 16)), none, [], false⟩, ⟨(some 18), (.load none (.t 17)), none, [], false⟩, ⟨(some 19), (.lenSl (.t 18)), none, [], false⟩, ⟨(some 20), (.bin .lss (.t 13) (.t 19)), none, [], false⟩]) (.cond (.t 20) .skip (.exit 2))) (
  .seq (.block 3 (
  .region [⟨(some 23), (.mv (.t 3)), none, [], false⟩, ⟨(some 24), (.faddr 3 (.t 1)), none, [], false⟩, ⟨(some 25), (.load none (.t 24)), none, [], false⟩, ⟨(some 26), (.mv (.t 4)), none, [], false⟩, ⟨(some 27), (.iaddr 1 (.t 25) (.t 26)), none, [], false⟩, ⟨(some 28), (.load none (.t 27)), none, [], false⟩, ⟨(some 29), (.mv (.t 5)), none, [], false⟩, ⟨(some 30), (.iaddr 1 (.t 28) (.t 29)), none, [], false⟩, ⟨(some 31), (.load none (.t 30)), none, [], false⟩, ⟨(some 32), (.minmax true [(.t 23), (.t 31)]), none, [], false⟩, ⟨(some 3), (.mv (.t 32)), none, [], false⟩])) (
  .region [⟨(some 21), (.mv (.t 5)), none, [], false⟩, ⟨(some 22), (.bin .add (.t 21) (.c (.int .i64 1))), none, [], false⟩, ⟨(some 5), (.mv (.t 22)), none, [], false⟩]))))))) (
  .region [⟨(some 11), (.mv (.t 4)), none, [], false⟩, ⟨(some 12), (.bin .add (.t 11) (.c (.int .i64 1))), none, [], false⟩, ⟨(some 4), (.mv (.t 12)), none, [], false⟩])))))) (
  .seq (
  .region [⟨(some 33), (.mv (.t 3)), none, [], false⟩, ⟨(some 2), (.mv (.t 33)), none, [], false⟩]) .ret))))⟩
theorem c18 : compFunc Try.prog [] [] Try.f18 = some l18 := by kernel_rfl
def l19 : LFunc := ⟨64, [(.cell 2 (some 4))],
  (
  .seq (
  .region [⟨(some 1), (.box true (.t 0)), none, [], false⟩, ⟨(some 2), (.alloc [(.int .i64 0), (.int .i64 0), .nils, .nils]), none, [], false⟩]) (
  .seq (
  .seq (
  .region [⟨(some 8), (.load (some 4) (.t 1)), none, [], false⟩, ⟨(some 9), (.call (.c (.fn (.func 11) [] [])) [(.t 8)]), none, [], false⟩, ⟨(some 10), (.un .not (.t 9)), none, [], false⟩]) (.cond (.t 10) (
  .seq (
  .region [⟨(some 11), (.build [(.int .i64 0), (.int .i64 0), .nils, .nils] []), none, [], false⟩, ⟨none, (.store 4 (.t 2) (.t 11)), none, [], false⟩]) .ret) .skip)) (
  .seq (
  .region [⟨(some 12), (.faddr 0 (.t 1)), none, [], false⟩, ⟨(some 13), (.load none (.t 12)), none, [], false⟩, ⟨(some 14), (.faddr 1 (.t 1)), none, [], false⟩, ⟨(some 15), (.load none (.t 14)), none, [], false⟩, ⟨(some 16), (.build [(.int .i64 0), (.int .i64 0), .nils, .nils] [(0, (1, (.t 13))), (1, (1, (.t 15)))]), none, [], false⟩, ⟨(some 3), (.alloc [(.int .i64 0), (.int .i64 0), .nils, .nils]), none, [], false⟩, ⟨none, (.store 4 (.t 3) (.t 16)), none, [], false⟩]) (
  .seq (
  .seq (
  .region [⟨(some 17), (.faddr 2 (.t 1)), none, [], false⟩, ⟨(some 18), (.load none (.t 17)), none, [], false⟩, ⟨(some 19), (.lenSl (.t 18)), none, [], false⟩, ⟨(some 20), (.mv (.c (.int .i64 0))), none, [], false⟩]) (.block 0 (.loop (
  .seq (
  .region [⟨(some 21), (.bin .lss (.t 20) (.t 19)), none, [], false⟩]) (
  .seq (.cond (.t 21) .skip (.exit 0)) (
  .seq (.block 1 (
  .seq (
  .region [⟨(some 22), (.mv (.t 20)), none, [], false⟩, ⟨(some 23), (.iaddr 1 (.t 18) (.t 20)), none, [], false⟩, ⟨(some 24), (.load none (.t 23)), none, [], false⟩, ⟨(some 4), (.mv (.t 22)), none, [], false⟩, ⟨(some 5), (.mv (.t 24)), none, [], false⟩]) (
  .seq (
  .region [⟨(some 25), (.faddr 3 (.t 1)), none, [], false⟩, ⟨(some 26), (.load none (.t 25)), none, [], false⟩, ⟨(some 27), (.mv (.t 4)), none, [], false⟩, ⟨(some 28), (.iaddr 1 (.t 26) (.t 27)), none, [], false⟩, ⟨(some 29), (.load none (.t 28)), none, [], false⟩, ⟨(some 30), (.call (.c (.fn (.func 39) [] [])) [(.t 29)]), none, [], false⟩, ⟨(some 6), (.mv (.t 30)), none, [], false⟩]) (
  .seq (
  .seq (
  .region [⟨(some 31), (.mv (.t 6)), none, [], false⟩, ⟨(some 32), (.lenSl (.t 31)), none, [], false⟩, ⟨(some 33), (.mv (.c (.int .i64 0))), none, [], false⟩]) (.block 2 (.loop (
  .seq (
  .region [⟨(some 34), (.bin .lss (.t 33) (.t 32)), none, [], false⟩]) (
  .seq (.cond (.t 34) .skip (.exit 2)) (
  .seq (.block 3 (
  .seq (
  .region [⟨(some 35), (.mv (.t 33)), none, [], false⟩, ⟨(some 7), (.mv (.t 35)), none, [], false⟩]) (
  .seq (
  .region [⟨(some 36), (.mv (.t 6)), none, [], false⟩, ⟨(some 37), (.mv (.t 7)), none, [], false⟩, ⟨(some 38), (.iaddr 1 (.t 36) (.t 37)), none, [], false⟩, ⟨(some 39), (.load none (.t 38)), none, [], false⟩, ⟨(some 40), (.bin .add (.t 39) (.c (.int .i64 1))), none, [], false⟩, ⟨(some 41), (.iaddr 1 (.t 36) (.t 37)), none, [], false⟩, ⟨none, (.store 1 (.t 41) (.t 40)), none, [], false⟩]) (
  .seq (
  .region [⟨(some 42), (.mv (.t 6)), none, [], false⟩, ⟨(some 43), (.mv (.t 7)), none, [], false⟩, ⟨(some 44), (.iaddr 1 (.t 42) (.t 43)), none, [], false⟩, ⟨(some 45), (.load none (.t 44)), none, [], false⟩, ⟨(some 46), (.bin .gtr (.t 45) (.c (.int .i64 20000))), none, [], false⟩]) (.cond (.t 46) (
  .seq (
  .region [⟨(some 47), (.build [(.int .i64 0), (.int .i64 0), .nils, .nils] []), none, [], false⟩, ⟨none, (.store 4 (.t 2) (.t 47)), none, [], false⟩]) .ret) .skip))))) (
  .region [⟨(some 48), (.bin .add (.t 33) (.c (.int .i64 1))), none, [], false⟩, ⟨(some 33), (.mv (.t 48)), none, [], false⟩]))))))) (
  .seq (
  .region [⟨(some 49), (.faddr 2 (.t 3)), none, [], true⟩, ⟨(some 50), (.load none (.t 49)), none, [], true⟩, ⟨(some 51), (.mv (.t 5)), none, [], true⟩, ⟨(some 52), (.call (.c (.fn (.func 39) [] [])) [(.t 51)]), none, [(50, (none, (.load none (.t 49))))], true⟩, ⟨(some 53), (.bslice 1 1 [.nils] [(0, (1, (.t 52)))]), none, [(50, (none, (.load none (.t 49))))], true⟩, ⟨(some 54), (.append 1 24 (.t 50) (.t 53)), none, [], true⟩, ⟨(some 55), (.faddr 2 (.t 3)), none, [], true⟩, ⟨none, (.store 1 (.t 55) (.t 54)), none, [], true⟩]) (
  .region [⟨(some 56), (.faddr 3 (.t 3)), none, [], false⟩, ⟨(some 57), (.load none (.t 56)), none, [], false⟩, ⟨(some 58), (.mv (.t 6)), none, [], false⟩, ⟨(some 59), (.bslice 1 1 [.nils] [(0, (1, (.t 58)))]), none, [], false⟩, ⟨(some 60), (.append 1 24 (.t 57) (.t 59)), none, [], false⟩, ⟨(some 61), (.faddr 3 (.t 3)), none, [], false⟩, ⟨none, (.store 1 (.t 61) (.t 60)), none, [], false⟩])))))) (
  .region [⟨(some 62), (.bin .add (.t 20) (.c (.int .i64 1))), none, [], false⟩, ⟨(some 20), (.mv (.t 62)), none, [], false⟩]))))))) (
  .seq (
  .region [⟨(some 63), (.load (some 4) (.t 3)), none, [], false⟩, ⟨none, (.store 4 (.t 2) (.t 63)), none, [], false⟩]) .ret)))))⟩
theorem c19 : compFunc Try.prog [] [] Try.f19 = some l19 := by kernel_rfl
def l21 : LFunc := ⟨50, [(.cell 4 (some 4))],
  (
  .seq (
  .region [⟨(some 2), (.box true (.t 0)), none, [], false⟩, ⟨(some 4), (.alloc [(.int .i64 0), (.int .i64 0), .nils, .nils]), none, [], false⟩]) (
  .seq (
  .region [⟨(some 9), (.load (some 4) (.t 2)), none, [], false⟩, ⟨(some 5), (.alloc [(.int .i64 0), (.int .i64 0), .nils, .nils]), none, [], false⟩, ⟨none, (.store 4 (.t 5) (.t 9)), none, [], false⟩]) (
  .seq (
  .region [⟨(some 10), (.faddr 3 (.t 5)), none, [], false⟩, ⟨none, (.store 1 (.t 10) (.c .nils)), none, [], false⟩]) (
  .seq (
  .seq (
  .region [⟨(some 6), (.mv (.c (.int .i64 0))), none, [], false⟩]) (.block 0 (.loop (
  .seq (
  .seq (
  .region [⟨(some 11), (.mv (.t 6)), none, [], false⟩, ⟨(some 12), (.faddr 3 (.t 2)), none, [], false⟩, ⟨(some 13), (.load none (.t 12)), none, [], false⟩, ⟨(some 14), (.lenSl (.t 13)), none, [], false⟩, ⟨(some 15), (.bin .lss (.t 11) (.t 14)), none, [], false⟩]) (.cond (.t 15) .skip (.exit 0))) (
  .seq (.block 1 (
  .seq (
  .region [⟨(some 18), (.bslice 1 0 [(.int .i64 0)] []), none, [], false⟩, ⟨(some 7), (.mv (.t 18)), none, [], false⟩]) (
  .seq (
  .seq (
  .region [⟨(some 8), (.mv (.c (.int .i64 0))), none, [], false⟩]) (.block 2 (.loop (
  .seq (
  .seq (
  .region [⟨(some 19), (.mv (.t 8)), none, [], false⟩, ⟨(some 20), (.faddr 3 (.t 2)), none, [], false⟩, ⟨(some 21), (.load none (.t 20)), none, [], false⟩, ⟨(some 22), (.mv (.t 6)), none, [], false⟩, ⟨(some 23), (.iaddr 1 (.t 21) (.t 22)), none, [], false⟩, ⟨(some 24), (.load none (.t 23)), none, [], false⟩, ⟨(some 25), (.lenSl (.t 24)), none, [], false⟩, ⟨(some 26), (.bin .lss (.t 19) (.t 25)), none, [], false⟩]) (.cond (.t 26) .skip (.exit 2))) (
  .seq (.block 3 (
  .region [⟨(some 29), (.mv (.t 7)), none, [], false⟩, ⟨(some 30), (.faddr 3 (.t 2)), none, [], false⟩, ⟨(some 31), (.load none (.t 30)), none, [], false⟩, ⟨(some 32), (.mv (.t 6)), none, [], false⟩, ⟨(some 33), (.iaddr 1 (.t 31) (.t 32)), none, [], false⟩, ⟨(some 34), (.load none (.t 33)), none, [], false⟩, ⟨(some 35), (.mv (.t 8)), none, [], false⟩, ⟨(some 36), (.iaddr 1 (.t 34) (.t 35)), none, [], false⟩, ⟨(some 37), (.load none (.t 36)), none, [], false⟩, ⟨(some 38), (.bin .mul (.c (.int .i64 3)) (.t 37)), none, [], false⟩, ⟨(some 39), (.mv (.t 1)), none, [], false⟩, ⟨(some 40), (.bin .add (.t 38) (.t 39)), none, [], false⟩, ⟨(some 41), (.bslice 1 1 [(.int .i64 0)] [(0, (1, (.t 40)))]), none, [], false⟩, ⟨(some 42), (.append 1 8 (.t 29) (.t 41)), none, [], false⟩, ⟨(some 7), (.mv (.t 42)), none, [], false⟩])) (
  .region [⟨(some 27), (.mv (.t 8)), none, [], false⟩, ⟨(some 28), (.bin .add (.t 27) (.c (.int .i64 1))), none, [], false⟩, ⟨(some 8), (.mv (.t 28)), none, [], false⟩])))))) (
  .region [⟨(some 43), (.faddr 3 (.t 5)), none, [], false⟩, ⟨(some 44), (.load none (.t 43)), none, [], false⟩, ⟨(some 45), (.mv (.t 7)), none, [], false⟩, ⟨(some 46), (.bslice 1 1 [.nils] [(0, (1, (.t 45)))]), none, [], false⟩, ⟨(some 47), (.append 1 24 (.t 44) (.t 46)), none, [], false⟩, ⟨(some 48), (.faddr 3 (.t 5)), none, [], false⟩, ⟨none, (.store 1 (.t 48) (.t 47)), none, [], false⟩])))) (
  .region [⟨(some 16), (.mv (.t 6)), none, [], false⟩, ⟨(some 17), (.bin .add (.t 16) (.c (.int .i64 1))), none, [], false⟩, ⟨(some 6), (.mv (.t 17)), none, [], false⟩])))))) (
  .seq (
  .region [⟨(some 49), (.load (some 4) (.t 5)), none, [], false⟩, ⟨none, (.store 4 (.t 4) (.t 49)), none, [], false⟩]) .ret)))))⟩
theorem c21 : compFunc Try.prog [] [] Try.f21 = some l21 := by kernel_rfl
def l26 : LFunc := ⟨19, [(.tmp 4)],
  (
  .seq (
  .region [⟨(some 3), (.box true (.t 1)), none, [], false⟩, ⟨(some 4), (.mv (.c (.bool false))), none, [], false⟩]) (
  .seq (
  .region [⟨(some 5), (.load (some 2) (.t 3)), none, [], false⟩, ⟨(some 6), (.call (.c (.fn (.func 40) [] [])) [(.t 5)]), none, [], false⟩, ⟨(some 7), (.mv (.t 6)), none, [], false⟩, ⟨(some 8), (.faddr 0 (.t 3)), (some (7, true)), [], false⟩, ⟨(some 9), (.load none (.t 8)), (some (7, true)), [], false⟩, ⟨(some 10), (.mv (.t 0)), (some (7, true)), [], false⟩, ⟨(some 11), (.call (.c (.fn (.func 45) [] [])) [(.t 9), (.t 10)]), (some (7, true)), [], false⟩, ⟨(some 12), (.pick (.t 7) (.t 11) (.c (.bool false))), none, [], false⟩, ⟨(some 13), (.mv (.t 12)), none, [], false⟩, ⟨(some 14), (.faddr 1 (.t 3)), (some (13, true)), [], false⟩, ⟨(some 15), (.load none (.t 14)), (some (13, true)), [], false⟩, ⟨(some 16), (.mv (.t 0)), (some (13, true)), [], false⟩, ⟨(some 17), (.call (.c (.fn (.func 45) [] [])) [(.t 15), (.t 16)]), (some (13, true)), [], false⟩, ⟨(some 18), (.pick (.t 13) (.t 17) (.c (.bool false))), none, [], false⟩, ⟨(some 4), (.mv (.t 18)), none, [], false⟩]) .ret))⟩
theorem c26 : compFunc Try.prog [] [] Try.f26 = some l26 := by kernel_rfl
def l31 : LFunc := ⟨34, [(.tmp 4)],
  (
  .seq (
  .region [⟨(some 4), (.mv (.c (.int .i64 0))), none, [], false⟩]) (
  .seq (
  .region [⟨(some 5), (.mv (.c (.int .i64 20000))), none, [], false⟩]) (
  .seq (
  .seq (
  .region [⟨(some 8), (.mv (.t 0)), none, [], false⟩, ⟨(some 9), (.lenSl (.t 8)), none, [], false⟩, ⟨(some 10), (.mv (.c (.int .i64 0))), none, [], false⟩]) (.block 0 (.loop (
  .seq (
  .region [⟨(some 11), (.bin .lss (.t 10) (.t 9)), none, [], false⟩]) (
  .seq (.cond (.t 11) .skip (.exit 0)) (
  .seq (.block 1 (
  .seq (
  .region [⟨(some 12), (.iaddr 1 (.t 8) (.t 10)), none, [], false⟩, ⟨(some 13), (.load none (.t 12)), none, [], false⟩, ⟨(some 7), (.mv (.t 13)), none, [], false⟩]) (
  .seq (
  .region [⟨(some 14), (.mv (.t 5)), none, [], false⟩, ⟨(some 15), (.faddr 3 (.t 1)), none, [], false⟩, ⟨(some 16), (.load none (.t 15)), none, [], false⟩, ⟨(some 17), (.load none (.t 2)), none, [], false⟩, ⟨(some 18), (.iaddr 1 (.t 16) (.t 17)), none, [], false⟩, ⟨(some 19), (.load none (.t 18)), none, [], false⟩, ⟨(some 20), (.mv (.t 7)), none, [], false⟩, ⟨(some 21), (.iaddr 1 (.t 19) (.t 20)), none, [], false⟩, ⟨(some 22), (.load none (.t 21)), none, [], false⟩, ⟨(some 23), (.minmax false [(.t 14), (.t 22)]), none, [], false⟩, ⟨(some 5), (.mv (.t 23)), none, [], false⟩]) (
  .region [⟨(some 24), (.faddr 2 (.t 1)), none, [], false⟩, ⟨(some 25), (.load none (.t 24)), none, [], false⟩, ⟨(some 26), (.load none (.t 2)), none, [], false⟩, ⟨(some 27), (.iaddr 1 (.t 25) (.t 26)), none, [], false⟩, ⟨(some 28), (.load none (.t 27)), none, [], false⟩, ⟨(some 29), (.mv (.t 7)), none, [], false⟩, ⟨(some 30), (.iaddr 1 (.t 28) (.t 29)), none, [], false⟩, ⟨(some 31), (.load none (.t 30)), none, [], false⟩, ⟨none, (.store 1 (.t 2) (.t 31)), none, [], false⟩])))) (
  .region [⟨(some 32), (.bin .add (.t 10) (.c (.int .i64 1))), none, [], false⟩, ⟨(some 10), (.mv (.t 32)), none, [], false⟩]))))))) (
  .seq (
  .region [⟨(some 33), (.mv (.t 5)), none, [], false⟩, ⟨(some 4), (.mv (.t 33)), none, [], false⟩]) .ret))))⟩
theorem c31 : compFunc Try.prog [] [] Try.f31 = some l31 := by kernel_rfl
def l32 : LFunc := ⟨25, [(.tmp 2)],
  (
  .seq (
  .region [⟨(some 2), (.mv (.c (.int .i64 0))), none, [], false⟩]) (
  .seq (
  .seq (
  .region [⟨(some 5), (.mv (.t 0)), none, [], false⟩, ⟨(some 6), (.lenSl (.t 5)), none, [], false⟩, ⟨(some 7), (.bin .lss (.t 6) (.c (.int .i64 1))), none, [], false⟩]) (.cond (.t 7) .bad .skip)) (
  .seq (
  .region [⟨(some 9), (.mv (.t 0)), none, [], false⟩, ⟨(some 10), (.iaddr 1 (.t 9) (.c (.int .i64 0))), none, [], false⟩, ⟨(some 11), (.load none (.t 10)), none, [], false⟩, ⟨(some 3), (.mv (.t 11)), none, [], false⟩]) (
  .seq (
  .seq (
  .region [⟨(some 4), (.mv (.c (.int .i64 1))), none, [], false⟩]) (.block 0 (.loop (
  .seq (
  .seq (
  .region [⟨(some 12), (.mv (.t 4)), none, [], false⟩, ⟨(some 13), (.mv (.t 0)), none, [], false⟩, ⟨(some 14), (.lenSl (.t 13)), none, [], false⟩, ⟨(some 15), (.bin .lss (.t 12) (.t 14)), none, [], false⟩]) (.cond (.t 15) .skip (.exit 0))) (
  .seq (.block 1 (
  .region [⟨(some 18), (.mv (.t 3)), none, [], false⟩, ⟨(some 19), (.mv (.t 0)), none, [], false⟩, ⟨(some 20), (.mv (.t 4)), none, [], false⟩, ⟨(some 21), (.iaddr 1 (.t 19) (.t 20)), none, [], false⟩, ⟨(some 22), (.load none (.t 21)), none, [], false⟩, ⟨(some 23), (.minmax false [(.t 18), (.t 22)]), none, [], false⟩, ⟨(some 3), (.mv (.t 23)), none, [], false⟩])) (
  .region [⟨(some 16), (.mv (.t 4)), none, [], false⟩, ⟨(some 17), (.bin .add (.t 16) (.c (.int .i64 1))), none, [], false⟩, ⟨(some 4), (.mv (.t 17)), none, [], false⟩])))))) (
  .seq (
  .region [⟨(some 24), (.mv (.t 3)), none, [], false⟩, ⟨(some 2), (.mv (.t 24)), none, [], false⟩]) .ret)))))⟩
theorem c32 : compFunc Try.prog [] [] Try.f32 = some l32 := by kernel_rfl
def l37 : LFunc := ⟨1, [(.tmp 0)],
  (
  .seq (
  .region [⟨(some 0), (.mv (.c (.int .i64 0))), none, [], false⟩]) (
  .seq (
  .region [⟨(some 0), (.mv (.c (.int .i64 20000))), none, [], false⟩]) .ret))⟩
theorem c37 : compFunc Try.prog [] [] Try.f37 = some l37 := by kernel_rfl
def l38 : LFunc := ⟨53, [(.tmp 2)],
  (
  .seq (
  .region [⟨(some 1), (.box true (.t 0)), none, [], false⟩, ⟨(some 2), (.mv (.c (.bool false))), none, [], false⟩]) (
  .seq (
  .seq (
  .region [⟨(some 7), (.faddr 0 (.t 1)), none, [], false⟩, ⟨(some 8), (.load none (.t 7)), none, [], false⟩, ⟨(some 9), (.lenSl (.t 8)), none, [], false⟩, ⟨(some 10), (.bin .gtr (.t 9) (.c (.int .i64 60))), none, [], false⟩, ⟨(some 11), (.mv (.t 10)), none, [], false⟩, ⟨(some 12), (.faddr 1 (.t 1)), (some (11, false)), [], false⟩, ⟨(some 13), (.load none (.t 12)), (some (11, false)), [], false⟩, ⟨(some 14), (.lenSl (.t 13)), (some (11, false)), [], false⟩, ⟨(some 15), (.bin .lss (.t 14) (.c (.int .i64 1))), (some (11, false)), [], false⟩, ⟨(some 16), (.pick (.t 11) (.c (.bool true)) (.t 15)), none, [], false⟩, ⟨(some 17), (.mv (.t 16)), none, [], false⟩, ⟨(some 18), (.faddr 1 (.t 1)), (some (17, false)), [], false⟩, ⟨(some 19), (.load none (.t 18)), (some (17, false)), [], false⟩, ⟨(some 20), (.lenSl (.t 19)), (some (17, false)), [], false⟩, ⟨(some 21), (.bin .gtr (.t 20) (.c (.int .i64 40))), (some (17, false)), [], false⟩, ⟨(some 22), (.pick (.t 17) (.c (.bool true)) (.t 21)), none, [], false⟩]) (.cond (.t 22) (
  .seq (
  .region [⟨(some 2), (.mv (.c (.bool false))), none, [], false⟩]) .ret) .skip)) (
  .seq (
  .seq (
  .region [⟨(some 3), (.mv (.c (.int .i64 0))), none, [], false⟩]) (.block 0 (.loop (
  .seq (
  .seq (
  .region [⟨(some 23), (.mv (.t 3)), none, [], false⟩, ⟨(some 24), (.faddr 0 (.t 1)), none, [], false⟩, ⟨(some 25), (.load none (.t 24)), none, [], false⟩, ⟨(some 26), (.lenSl (.t 25)), none, [], false⟩, ⟨(some 27), (.bin .lss (.t 23) (.t 26)), none, [], false⟩]) (.cond (.t 27) .skip (.exit 0))) (
  .seq (.block 1 (
  .seq (
  .region [⟨(some 30), (.faddr 0 (.t 1)), none, [], false⟩, ⟨(some 31), (.load none (.t 30)), none, [], false⟩, ⟨(some 32), (.mv (.t 3)), none, [], false⟩, ⟨(some 33), (.iaddr 1 (.t 31) (.t 32)), none, [], false⟩, ⟨(some 34), (.load none (.t 33)), none, [], false⟩, ⟨(some 35), (.call (.c (.fn (.func 57) [] [])) [(.t 34)]), none, [], false⟩, ⟨(some 4), (.mv (.t 35)), none, [], false⟩]) (
  .seq (
  .region [⟨(some 36), (.mv (.t 4)), none, [], false⟩, ⟨(some 37), (.un .not (.t 36)), none, [], false⟩]) (.cond (.t 37) (
  .seq (
  .region [⟨(some 2), (.mv (.c (.bool false))), none, [], false⟩]) .ret) .skip)))) (
  .region [⟨(some 28), (.mv (.t 3)), none, [], false⟩, ⟨(some 29), (.bin .add (.t 28) (.c (.int .i64 1))), none, [], false⟩, ⟨(some 3), (.mv (.t 29)), none, [], false⟩])))))) (
  .seq (
  .seq (
  .region [⟨(some 5), (.mv (.c (.int .i64 0))), none, [], false⟩]) (.block 2 (.loop (
  .seq (
  .seq (
  .region [⟨(some 38), (.mv (.t 5)), none, [], false⟩, ⟨(some 39), (.faddr 1 (.t 1)), none, [], false⟩, ⟨(some 40), (.load none (.t 39)), none, [], false⟩, ⟨(some 41), (.lenSl (.t 40)), none, [], false⟩, ⟨(some 42), (.bin .lss (.t 38) (.t 41)), none, [], false⟩]) (.cond (.t 42) .skip (.exit 2))) (
  .seq (.block 3 (
  .seq (
  .region [⟨(some 45), (.faddr 1 (.t 1)), none, [], false⟩, ⟨(some 46), (.load none (.t 45)), none, [], false⟩, ⟨(some 47), (.mv (.t 5)), none, [], false⟩, ⟨(some 48), (.iaddr 1 (.t 46) (.t 47)), none, [], false⟩, ⟨(some 49), (.load none (.t 48)), none, [], false⟩, ⟨(some 50), (.call (.c (.fn (.func 57) [] [])) [(.t 49)]), none, [], false⟩, ⟨(some 6), (.mv (.t 50)), none, [], false⟩]) (
  .seq (
  .region [⟨(some 51), (.mv (.t 6)), none, [], false⟩, ⟨(some 52), (.un .not (.t 51)), none, [], false⟩]) (.cond (.t 52) (
  .seq (
  .region [⟨(some 2), (.mv (.c (.bool false))), none, [], false⟩]) .ret) .skip)))) (
  .region [⟨(some 43), (.mv (.t 5)), none, [], false⟩, ⟨(some 44), (.bin .add (.t 43) (.c (.int .i64 1))), none, [], false⟩, ⟨(some 5), (.mv (.t 44)), none, [], false⟩])))))) (
  .seq (
  .region [⟨(some 2), (.mv (.c (.bool true))), none, [], false⟩]) .ret)))))⟩
theorem c38 : compFunc Try.prog [] [] Try.f38 = some l38 := by kernel_rfl
def l39 : LFunc := ⟨8, [(.tmp 2)],
  (
  .seq (
  .region [⟨(some 2), (.mv (.c .nils)), none, [], false⟩]) (
  .seq (
  .seq (
  .region [⟨(some 3), (.mv (.t 0)), none, [], false⟩, ⟨(some 4), (.eq false .slc (.t 3) (.c .nils)), none, [], false⟩]) (.cond (.t 4) (
  .seq (
  .region [⟨(some 2), (.mv (.c .nils)), none, [], false⟩]) .ret) .skip)) (
  .seq (
  .region [⟨(some 5), (.bslice 1 0 [(.int .i64 0)] []), none, [], false⟩, ⟨(some 6), (.mv (.t 0)), none, [], false⟩, ⟨(some 7), (.append 1 8 (.t 5) (.t 6)), none, [], false⟩, ⟨(some 2), (.mv (.t 7)), none, [], false⟩]) .ret)))⟩
theorem c39 : compFunc Try.prog [] [] Try.f39 = some l39 := by kernel_rfl
def l40 : LFunc := ⟨27, [(.tmp 2)],
  (
  .seq (
  .region [⟨(some 1), (.box true (.t 0)), none, [], false⟩, ⟨(some 2), (.mv (.c (.bool false))), none, [], false⟩]) (
  .seq (
  .seq (
  .region [⟨(some 3), (.faddr 0 (.t 1)), none, [], false⟩, ⟨(some 4), (.load none (.t 3)), none, [], false⟩, ⟨(some 5), (.lenSl (.t 4)), none, [], false⟩, ⟨(some 6), (.bin .gtr (.t 5) (.c (.int .i64 60))), none, [], false⟩, ⟨(some 7), (.mv (.t 6)), none, [], false⟩, ⟨(some 8), (.faddr 1 (.t 1)), (some (7, false)), [], false⟩, ⟨(some 9), (.load none (.t 8)), (some (7, false)), [], false⟩, ⟨(some 10), (.lenSl (.t 9)), (some (7, false)), [], false⟩, ⟨(some 11), (.bin .lss (.t 10) (.c (.int .i64 1))), (some (7, false)), [], false⟩, ⟨(some 12), (.pick (.t 7) (.c (.bool true)) (.t 11)), none, [], false⟩, ⟨(some 13), (.mv (.t 12)), none, [], false⟩, ⟨(some 14), (.faddr 1 (.t 1)), (some (13, false)), [], false⟩, ⟨(some 15), (.load none (.t 14)), (some (13, false)), [], false⟩, ⟨(some 16), (.lenSl (.t 15)), (some (13, false)), [], false⟩, ⟨(some 17), (.bin .gtr (.t 16) (.c (.int .i64 40))), (some (13, false)), [], false⟩, ⟨(some 18), (.pick (.t 13) (.c (.bool true)) (.t 17)), none, [], false⟩]) (.cond (.t 18) (
  .seq (
  .region [⟨(some 2), (.mv (.c (.bool false))), none, [], false⟩]) .ret) .skip)) (
  .seq (
  .region [⟨(some 19), (.faddr 0 (.t 1)), none, [], false⟩, ⟨(some 20), (.load none (.t 19)), none, [], false⟩, ⟨(some 21), (.call (.c (.fn (.func 45) [] [])) [(.t 20), (.c (.int .i64 64))]), none, [], false⟩, ⟨(some 22), (.mv (.t 21)), none, [], false⟩, ⟨(some 23), (.faddr 1 (.t 1)), (some (22, true)), [], false⟩, ⟨(some 24), (.load none (.t 23)), (some (22, true)), [], false⟩, ⟨(some 25), (.call (.c (.fn (.func 45) [] [])) [(.t 24), (.c (.int .i64 64))]), (some (22, true)), [], false⟩, ⟨(some 26), (.pick (.t 22) (.t 25) (.c (.bool false))), none, [], false⟩, ⟨(some 2), (.mv (.t 26)), none, [], false⟩]) .ret)))⟩
theorem c40 : compFunc Try.prog [] [] Try.f40 = some l40 := by kernel_rfl
def l45 : LFunc := ⟨21, [(.tmp 4)],
  (
  .seq (
  .region [⟨(some 4), (.mv (.c (.bool false))), none, [], false⟩]) (
  .seq (
  .seq (
  .region [⟨(some 7), (.mv (.t 0)), none, [], false⟩, ⟨(some 8), (.lenSl (.t 7)), none, [], false⟩, ⟨(some 9), (.mv (.c (.int .i64 0))), none, [], false⟩]) (.block 0 (.loop (
  .seq (
  .region [⟨(some 10), (.bin .lss (.t 9) (.t 8)), none, [], false⟩]) (
  .seq (.cond (.t 10) .skip (.exit 0)) (
  .seq (.block 1 (
  .seq (
  .region [⟨(some 11), (.iaddr 1 (.t 7) (.t 9)), none, [], false⟩, ⟨(some 12), (.load none (.t 11)), none, [], false⟩, ⟨(some 6), (.mv (.t 12)), none, [], false⟩]) (
  .seq (
  .region [⟨(some 13), (.mv (.t 6)), none, [], false⟩, ⟨(some 14), (.bin .lss (.t 13) (.c (.int .i64 0))), none, [], false⟩, ⟨(some 15), (.mv (.t 14)), none, [], false⟩, ⟨(some 16), (.mv (.t 6)), (some (15, false)), [], false⟩, ⟨(some 17), (.mv (.t 1)), (some (15, false)), [], false⟩, ⟨(some 18), (.bin .geq (.t 16) (.t 17)), (some (15, false)), [], false⟩, ⟨(some 19), (.pick (.t 15) (.c (.bool true)) (.t 18)), none, [], false⟩]) (.cond (.t 19) (
  .seq (
  .region [⟨(some 4), (.mv (.c (.bool false))), none, [], false⟩]) .ret) .skip)))) (
  .region [⟨(some 20), (.bin .add (.t 9) (.c (.int .i64 1))), none, [], false⟩, ⟨(some 9), (.mv (.t 20)), none, [], false⟩]))))))) (
  .seq (
  .region [⟨(some 4), (.mv (.c (.bool true))), none, [], false⟩]) .ret)))⟩
theorem c45 : compFunc Try.prog [] [] Try.f45 = some l45 := by kernel_rfl
def l57 : LFunc := ⟨9, [(.tmp 2)],
  (
  .seq (
  .region [⟨(some 2), (.mv (.c (.bool false))), none, [], false⟩]) (
  .seq (
  .region [⟨(some 3), (.mv (.t 0)), none, [], false⟩, ⟨(some 4), (.bin .geq (.t 3) (.c (.int .i64 0))), none, [], false⟩, ⟨(some 5), (.mv (.t 4)), none, [], false⟩, ⟨(some 6), (.mv (.t 0)), (some (5, true)), [], false⟩, ⟨(some 7), (.bin .lss (.t 6) (.c (.int .i64 64))), (some (5, true)), [], false⟩, ⟨(some 8), (.pick (.t 5) (.t 7) (.c (.bool false))), none, [], false⟩, ⟨(some 2), (.mv (.t 8)), none, [], false⟩]) .ret))⟩
theorem c57 : compFunc Try.prog [] [] Try.f57 = some l57 := by kernel_rfl
end Go.Proofs.Ytmfpcofncfhklaa
