/- Plain forms of functions, by program. -/
import Derived.Test.YthcllhhldknkmaaGreatDoorProg
import Derived.Test.YthcllhhldknkmaaGreatDoorPvComp
import Derived.Test.YthcllhhldknkmaaGreatDoorGl
import Derived.KernelRfl
set_option linter.unusedSimpArgs false
set_option linter.unusedVariables false
namespace Go.Proofs.YthcllhhldknkmaaGreatDoor
open Go Go.Pv
set_option maxRecDepth 100000
def l3:LFunc:=⟨72,[(.tmp 6)],
  (
  .seq (
  .region [jA 3 (qO 0),jA 4 (qO 1),jA 5 (qO 2),jA 6 (qK false)]) (
  .seq (
  .region [jA 10 (.call (.c (.fn (.func 7) [] [])) []),qm 7 10]) (
  .seq (
  .seq (
  .region [jA 11 (qN 3 3),jA 12 (qN 2 4),jA 13 (.call (.c (.fn (.func 8) [] [])) [(.t 11),(.t 12)]),jA 14 (.un .not (.t 13)),qm 15 14,jC 16 (qF 0 5) 15,jC 17 (qL 16) 15,jC 18 (qS 17) 15,jC 19 (.bin .gtr (.t 18) (.c (.int .i64 40))) 15,jA 20 (qP 15 19),qm 21 20,jC 22 (qF 1 5) 21,jC 23 (qL 22) 21,jC 24 (qS 23) 21,jC 25 (.bin .gtr (.t 24) (.c (.int .i64 40))) 21,jA 26 (qP 21 25)]) (.cond (.t 26) (
  .seq (
  .region [qm 27 7,qm 6 27]) .ret) .skip)) (
  .seq (
  .region [jA 29 (qN 3 3),jA 30 (qN 2 4),jA 31 (.call (.c (.fn (.func 9) [] [])) [(.t 29),(.t 30)]),qm 28 31,jA 32 (.ext (.t 28) 0),jA 33 (.ext (.t 28) 1),jA 8 (.alloc [.nils, .nils]),jG 2 8 32,qm 9 33]) (
  .seq (
  .seq (
  .region [qm 34 9,jA 35 (qN 3 3),jA 36 (qN 2 4),jA 37 (.call (.c (.fn (.func 10) [] [])) [(.t 35),(.t 36)]),jA 38 (.eq true .bool (.t 34) (.t 37)),qm 39 38,jC 40 (qM 9) 39,jC 41 (qN 3 3) 39,jC 42 (qN 2 4) 39,jC 43 (qN 2 8) 39,jC 44 (.call (.c (.fn (.func 11) [] [])) [(.t 41),(.t 42),(.t 43)]) 39,jC 45 (.eq true .bool (.t 40) (.t 44)) 39,jA 46 (qP 39 45),qm 47 46,jC 48 (qM 9) 47,jC 49 (.un .not (.t 48)) 47,jC 50 (qM 49) 47,jD 51 (qF 0 8) 50,jD 52 (qL 51) 50,jD 53 (qS 52) 50,jD 54 (qF 1 8) 50,jD 55 (qL 54) 50,jD 56 (qS 55) 50,jD 57 (.bin .add (.t 53) (.t 56)) 50,jD 58 (.bin .gtr (.t 57) (.c (.int .i64 0))) 50,jC 59 (.pick (.t 50) (.t 58) (.c (.bool false))) 47,jA 60 (qP 47 59)]) (.cond (.t 60) (
  .seq (
  .region [jA 6 (qK false)]) .ret) .skip)) (
  .seq (
  .region [qm 61 7,qm 62 61,jD 63 (qM 9) 62,jD 64 (qM 63) 62,jC 65 (qN 3 3) 64,jC 66 (qN 2 4) 64,jC 67 (qN 2 5) 64,jC 68 (.call (.c (.fn (.func 11) [] [])) [(.t 65),(.t 66),(.t 67)]) 64,jC 69 (.un .not (.t 68)) 64,jD 70 (qP 64 69) 62,jA 71 (.pick (.t 62) (.t 70) (.c (.bool false))),qm 6 71]) .ret))))))⟩
theorem c3:compFunc Tryz.prog GL [] Tryz.f3=some l3:=by kernel_rfl
def l4:LFunc:=⟨93,[(.tmp 12)],
  (
  .seq (
  .region [jA 6 (qO 0),jA 7 (qO 1),jA 12 (qK false)]) (
  .seq (
  .region [jA 17 (.call (.c (.fn (.func 7) [] [])) []),qm 13 17]) (
  .seq (
  .seq (
  .region [jA 18 (qN 3 6),jA 19 (qN 2 7),jA 20 (.call (.c (.fn (.func 8) [] [])) [(.t 18),(.t 19)]),jA 21 (.un .not (.t 20)),qm 22 21,jC 23 (qN 3 6) 22,jC 24 (qN 2 7) 22,jC 25 (.call (.c (.fn (.func 12) [] [])) [(.t 23),(.t 24)]) 22,jC 26 (.un .not (.t 25)) 22,jA 27 (qP 22 26),qm 28 27,jC 29 (qF 2 6) 28,jC 30 (qL 29) 28,jC 31 (qS 30) 28,jC 32 (.bin .eql (.t 31) (.c (.int .i64 0))) 28,jA 33 (qP 28 32)]) (.cond (.t 33) (
  .seq (
  .region [qm 34 13,qm 12 34]) .ret) .skip)) (
  .seq (
  .region [jA 36 (qN 3 6),jA 37 (qN 2 7),jA 38 (.call (.c (.fn (.func 9) [] [])) [(.t 36),(.t 37)]),qm 35 38,jA 39 (.ext (.t 35) 0),jA 40 (.ext (.t 35) 1),jA 14 (.alloc [.nils, .nils]),jG 2 14 39,qm 15 40]) (
  .seq (
  .region [jB 41 (qN 3 6),jB 42 (qM 2),jB 43 (.convInt .i64 (.t 42)),jB 44 (qF 2 6),jB 45 (qL 44),jB 46 (qS 45),jB 47 (.bin .rem (.t 43) (.t 46)),jB 48 (qM 3),jB 49 (.convInt .i64 (.t 48)),jB 50 (qF 0 6),jB 51 (qL 50),jB 52 (.bin .rem (.t 49) (.t 51)),jB 53 (qM 4),jB 54 (.convInt .i64 (.t 53)),jB 55 (qF 2 6),jB 56 (qL 55),jB 57 (qS 56),jB 58 (.bin .rem (.t 54) (.t 57)),jB 59 (qM 5),⟨(some 16),(.alloc [(.int .i64 0), .nils, .nils]),none,[(41,(none,(.load (some 3) (.t 6)))),(45,(none,(.load none (.t 44)))),(51,(none,(.load none (.t 50)))),(56,(none,(.load none (.t 55))))],true⟩,jB 60 (.call (.c (.fn (.func 13) [] [])) [(.t 41),(.t 47),(.t 52),(.t 58),(.t 59)]),jH 3 16 60]) (
  .seq (
  .seq (
  .region [jA 61 (qN 3 16),jA 62 (qG 14 61),jA 63 (.un .not (.t 62))]) (.cond (.t 63) (
  .seq (
  .region [jA 12 (qK false)]) .ret) .skip)) (
  .seq (
  .region [jB 64 (qM 13),jB 65 (qM 64),jE 66 (qM 15) 65,jE 67 (.un .not (.t 66)) 65,jE 68 (qM 67) 65,jF 69 (qN 3 16) 68,jF 70 (qN 2 7) 68,jF 71 (.call (.c (.fn (.func 10) [] [])) [(.t 69),(.t 70)]) 68,jF 72 (qM 71) 68,jE 73 (qN 3 16) 72,jE 74 (qN 2 7) 72,jE 75 (qN 2 14) 72,jE 76 (.call (.c (.fn (.func 11) [] [])) [(.t 73),(.t 74),(.t 75)]) 72,jF 77 (.pick (.t 72) (.t 76) (.c (.bool false))) 68,jF 78 (qM 77) 68,jE 79 (qN 3 6) 78,jE 81 (qN 2 7) 78,⟨(some 80),(.call (.c (.fn (.func 15) [] [])) [(.t 79)]),(some (78,true)),[(81,((some (78,true)),(.load (some 2) (.t 7))))],true⟩,jE 82 (.call (.c (.fn (.func 10) [] [])) [(.t 80),(.t 81)]) 78,jF 83 (.pick (.t 78) (.t 82) (.c (.bool false))) 68,jF 84 (qM 83) 68,jE 85 (qN 3 6) 84,jE 87 (qN 2 7) 84,jE 88 (qN 2 14) 84,⟨(some 86),(.call (.c (.fn (.func 15) [] [])) [(.t 85)]),(some (84,true)),[(87,((some (84,true)),(.load (some 2) (.t 7)))),(88,((some (84,true)),(.load (some 2) (.t 14))))],true⟩,jE 89 (.call (.c (.fn (.func 11) [] [])) [(.t 86),(.t 87),(.t 88)]) 84,jF 90 (.pick (.t 84) (.t 89) (.c (.bool false))) 68,jE 91 (qP 68 90) 65,jB 92 (.pick (.t 65) (.t 91) (.c (.bool false))),jB 12 (qM 92)]) .ret)))))))⟩
theorem c4:compFunc Tryz.prog GL [] Tryz.f4=some l4:=by kernel_rfl
def l5:LFunc:=⟨75,[(.tmp 6)],
  (
  .seq (
  .region [jA 3 (qO 0),jA 4 (qO 1),jA 5 (qO 2),jA 6 (qK false)]) (
  .seq (
  .region [jA 12 (.call (.c (.fn (.func 7) [] [])) []),qm 7 12]) (
  .seq (
  .seq (
  .region [jA 13 (qN 3 3),jA 14 (qN 2 4),jA 15 (.call (.c (.fn (.func 8) [] [])) [(.t 13),(.t 14)]),jA 16 (.un .not (.t 15)),qm 17 16,jC 18 (qN 3 3) 17,jC 19 (qN 2 5) 17,jC 20 (.call (.c (.fn (.func 8) [] [])) [(.t 18),(.t 19)]) 17,jC 21 (.un .not (.t 20)) 17,jA 22 (qP 17 21),qm 23 22,jC 24 (qN 3 3) 23,jC 25 (qN 2 4) 23,jC 26 (.call (.c (.fn (.func 12) [] [])) [(.t 24),(.t 25)]) 23,jC 27 (.un .not (.t 26)) 23,jA 28 (qP 23 27),qm 29 28,jC 30 (qN 3 3) 29,jC 31 (qN 2 5) 29,jC 32 (.call (.c (.fn (.func 12) [] [])) [(.t 30),(.t 31)]) 29,jC 33 (.un .not (.t 32)) 29,jA 34 (qP 29 33),qm 35 34,jC 36 (qN 2 4) 35,jC 37 (qN 2 5) 35,jC 38 (.call (.c (.fn (.func 16) [] [])) [(.t 36),(.t 37)]) 35,jC 39 (.un .not (.t 38)) 35,jA 40 (qP 35 39)]) (.cond (.t 40) (
  .seq (
  .region [qm 41 7,qm 6 41]) .ret) .skip)) (
  .seq (
  .region [jA 43 (qN 3 3),jA 44 (qN 2 4),jA 45 (.call (.c (.fn (.func 9) [] [])) [(.t 43),(.t 44)]),qm 42 45,jA 46 (.ext (.t 42) 0),jA 47 (.ext (.t 42) 1),jA 8 (.alloc [.nils, .nils]),jG 2 8 46,qm 9 47]) (
  .seq (
  .region [jA 49 (qN 3 3),jA 50 (qN 2 5),jA 51 (.call (.c (.fn (.func 9) [] [])) [(.t 49),(.t 50)]),qm 48 51,jA 52 (.ext (.t 48) 0),jA 53 (.ext (.t 48) 1),jA 10 (.alloc [.nils, .nils]),jG 2 10 52,qm 11 53]) (
  .seq (
  .region [qm 54 7,qm 55 54,jD 56 (qM 9) 55,jD 57 (qM 11) 55,jD 58 (.eq false .bool (.t 56) (.t 57)) 55,jA 59 (.pick (.t 55) (.t 58) (.c (.bool false))),qm 60 59,jD 61 (qN 2 8) 60,jD 62 (qN 2 10) 60,jD 63 (.call (.c (.fn (.func 17) [] [])) [(.t 61),(.t 62)]) 60,jA 64 (.pick (.t 60) (.t 63) (.c (.bool false))),qm 65 64,jD 66 (qM 9) 65,jD 67 (.un .not (.t 66)) 65,jD 68 (qM 67) 65,jC 69 (qN 3 3) 68,jC 70 (qN 2 5) 68,jC 71 (qN 2 8) 68,jC 72 (.call (.c (.fn (.func 11) [] [])) [(.t 69),(.t 70),(.t 71)]) 68,jD 73 (qP 68 72) 65,jA 74 (.pick (.t 65) (.t 73) (.c (.bool false))),qm 6 74]) .ret))))))⟩
theorem c5:compFunc Tryz.prog GL [] Tryz.f5=some l5:=by kernel_rfl
def l8:LFunc:=⟨8,[(.tmp 4)],
  (
  .seq (
  .region [jA 2 (qO 0),jA 3 (qO 1),jA 4 (qK false)]) (
  .seq (
  .region [jA 5 (qN 3 2),jA 6 (qN 2 3),jA 7 (.call (.c (.fn (.func 18) [] [])) [(.t 5),(.t 6),(.c (.int .i64 12))]),qm 4 7]) .ret))⟩
theorem c8:compFunc Tryz.prog GL [] Tryz.f8=some l8:=by kernel_rfl
def l9:LFunc:=⟨53,[(.cell 4 (some 2)),(.tmp 5)],
  (
  .seq (
  .region [jA 2 (qO 0),jA 3 (qO 1),jA 4 (.alloc [.nils, .nils]),jA 5 (qK false)]) (
  .seq (
  .seq (
  .region [jA 11 (qN 3 2),jA 12 (qG 30 11),jA 13 (.un .not (.t 12)),qm 14 13,jC 15 (qF 0 2) 14,jC 16 (qL 15) 14,jC 17 (qN 2 3) 14,jC 18 (.call (.c (.fn (.func 29) [] [])) [(.t 16),(.t 17)]) 14,jC 19 (.un .not (.t 18)) 14,jA 20 (qP 14 19)]) (.cond (.t 20) (
  .seq (
  .region [jA 21 (.build [.nils, .nils] []),jG 2 4 21,jA 5 (qK false)]) .ret) .skip)) (
  .seq (
  .region [jA 22 (qN 3 2),jA 23 (qN 2 3),jA 24 (.call (.c (.fn (.func 31) [] [])) [(.t 22),(.t 23)]),jA 6 (.alloc [(.int .i64 0), .nils, .nils, .nils,(.int .i64 0)]),jG 5 6 24]) (
  .seq (
  .region [jB 25 (qN 5 6),jB 26 (qN 5 6),⟨(some 7),(.alloc [.nilm, .nils, .nils]),none,[(25,(none,(.load (some 5) (.t 6)))),(26,(none,(.load (some 5) (.t 6))))],true⟩,⟨(some 27),(.call (.c (.fn (.func 33) [] [])) [(.t 26)]),none,[(25,(none,(.load (some 5) (.t 6))))],true⟩,jB 28 (.call (.c (.fn (.func 32) [] [])) [(.t 25),(.t 27)]),jH 3 7 28]) (
  .seq (
  .region [jA 30 (qN 5 6),jA 31 (qN 3 7),jA 32 (.call (.c (.fn (.func 34) [] [])) [(.t 30),(.t 31)]),qm 29 32,jA 33 (.ext (.t 29) 0),jA 34 (.ext (.t 29) 1),jA 35 (.ext (.t 29) 2),jA 8 (.alloc [(.int .i64 0),(.int .i64 0)]),jA 9 (.alloc [(.int .i64 0),(.int .i64 0)]),jG 2 8 33,jG 2 9 34,qm 10 35]) (
  .seq (
  .seq (
  .region [qm 36 10,jA 37 (.un .not (.t 36))]) (.cond (.t 37) (
  .seq (
  .region [jA 38 (.build [.nils, .nils] []),jG 2 4 38,jA 5 (qK false)]) .ret) .skip)) (
  .seq (
  .region [jB 39 (qN 3 7),jB 40 (qN 2 8),jB 42 (qF 1 8),jB 43 (qL 42),⟨(some 44),(.bslice 1 1 [(.int .i64 0)] [(0,(1,(.t 43)))]),none,[(39,(none,(.load (some 3) (.t 7)))),(40,(none,(.load (some 2) (.t 8)))),(43,(none,(.load none (.t 42))))],true⟩,jB 45 (qN 5 6),jB 46 (qN 2 9),⟨(some 47),(.bslice 2 1 [(.int .i64 0),(.int .i64 0)] [(0,(2,(.t 46)))]),none,[(39,(none,(.load (some 3) (.t 7)))),(40,(none,(.load (some 2) (.t 8)))),(43,(none,(.load none (.t 42)))),(45,(none,(.load (some 5) (.t 6)))),(46,(none,(.load (some 2) (.t 9))))],true⟩,jB 49 (qN 2 8),⟨(some 41),(.call (.c (.fn (.func 35) [] [])) [(.t 39),(.t 40)]),none,[(43,(none,(.load none (.t 42)))),(45,(none,(.load (some 5) (.t 6)))),(46,(none,(.load (some 2) (.t 9)))),(49,(none,(.load (some 2) (.t 8))))],true⟩,⟨(some 48),(.call (.c (.fn (.func 32) [] [])) [(.t 45),(.t 47)]),none,[(43,(none,(.load none (.t 42)))),(49,(none,(.load (some 2) (.t 8))))],true⟩,⟨(some 50),(.call (.c (.fn (.func 35) [] [])) [(.t 48),(.t 49)]),none,[(43,(none,(.load none (.t 42))))],true⟩,jB 51 (.append 1 8 (.t 44) (.t 50)),jB 52 (.build [.nils, .nils] [(0,(1,(.t 41))),(1,(1,(.t 51)))]),jH 2 4 52,jB 5 (qK true)]) .ret)))))))⟩
theorem c9:compFunc Tryz.prog GL [] Tryz.f9=some l9:=by kernel_rfl
def l10:LFunc:=⟨33,[(.tmp 4)],
  (
  .seq (
  .region [jA 2 (qO 0),jA 3 (qO 1),jA 4 (qK false)]) (
  .seq (
  .seq (
  .region [jA 9 (qN 3 2),jA 10 (qG 30 9),jA 11 (.un .not (.t 10)),qm 12 11,jC 13 (qF 0 2) 12,jC 14 (qL 13) 12,jC 15 (qN 2 3) 12,jC 16 (.call (.c (.fn (.func 29) [] [])) [(.t 14),(.t 15)]) 12,jC 17 (.un .not (.t 16)) 12,jA 18 (qP 12 17)]) (.cond (.t 18) (
  .seq (
  .region [jA 4 (qK false)]) .ret) .skip)) (
  .seq (
  .region [jA 19 (qN 3 2),jA 20 (qN 2 3),jA 21 (.call (.c (.fn (.func 31) [] [])) [(.t 19),(.t 20)]),jA 5 (.alloc [(.int .i64 0), .nils, .nils, .nils,(.int .i64 0)]),jG 5 5 21]) (
  .seq (
  .region [jB 23 (qN 5 5),jB 24 (qN 5 5),jB 25 (qN 5 5),⟨(some 6),(.alloc [(.int .i64 0),(.int .i64 0)]),none,[(23,(none,(.load (some 5) (.t 5)))),(24,(none,(.load (some 5) (.t 5)))),(25,(none,(.load (some 5) (.t 5))))],true⟩,⟨(some 7),(.alloc [(.int .i64 0),(.int .i64 0)]),none,[(23,(none,(.load (some 5) (.t 5)))),(24,(none,(.load (some 5) (.t 5)))),(25,(none,(.load (some 5) (.t 5))))],true⟩,⟨(some 26),(.call (.c (.fn (.func 33) [] [])) [(.t 25)]),none,[(23,(none,(.load (some 5) (.t 5)))),(24,(none,(.load (some 5) (.t 5))))],true⟩,⟨(some 27),(.call (.c (.fn (.func 32) [] [])) [(.t 24),(.t 26)]),none,[(23,(none,(.load (some 5) (.t 5))))],true⟩,jB 28 (.call (.c (.fn (.func 34) [] [])) [(.t 23),(.t 27)]),jB 22 (qM 28),jB 29 (.ext (.t 22) 0),jB 30 (.ext (.t 22) 1),jB 31 (.ext (.t 22) 2),jH 2 6 29,jH 2 7 30,jB 8 (qM 31)]) (
  .seq (
  .region [qm 32 8,qm 4 32]) .ret)))))⟩
theorem c10:compFunc Tryz.prog GL [] Tryz.f10=some l10:=by kernel_rfl
def l11:LFunc:=⟨102,[(.tmp 6)],
  (
  .seq (
  .region [jA 3 (qO 0),jA 4 (qO 1),jA 5 (qO 2),jA 6 (qK false)]) (
  .seq (
  .seq (
  .region [jA 15 (qN 3 3),jA 16 (qG 30 15),jA 17 (.un .not (.t 16)),qm 18 17,jC 19 (qF 0 3) 18,jC 20 (qL 19) 18,jC 21 (qN 2 4) 18,jC 22 (.call (.c (.fn (.func 29) [] [])) [(.t 20),(.t 21)]) 18,jC 23 (.un .not (.t 22)) 18,jA 24 (qP 18 23),qm 25 24,jC 26 (qF 1 5) 25,jC 27 (qL 26) 25,jC 28 (qS 27) 25,jC 29 (.bin .eql (.t 28) (.c (.int .i64 0))) 25,jA 30 (qP 25 29)]) (.cond (.t 30) (
  .seq (
  .region [jA 6 (qK false)]) .ret) .skip)) (
  .seq (
  .region [jA 31 (.mkfn (.func 36) [] [(.t 5)]),jA 7 (.alloc [.nilf]),jG 1 7 31]) (
  .seq (
  .seq (
  .region [jB 32 (qF 1 3),jB 33 (qL 32),jB 34 (qL 7),⟨(some 35),(.call (.t 34) [(.c (.int .i64 0))]),none,[(33,(none,(.load none (.t 32))))],true⟩,jB 36 (.call (.c (.fn (.func 38) [] [])) [(.t 33),(.t 35)]),jB 37 (.un .not (.t 36))]) (.cond (.t 37) (
  .seq (
  .region [jA 6 (qK false)]) .ret) .skip)) (
  .seq (
  .region [jA 38 (qF 0 5),ql 39 38,jA 40 (qS 39),jA 41 (qF 0 4),ql 42 41,jA 43 (qS 42),jA 44 (.minmax true [(.t 40),(.t 43)]),qm 8 44]) (
  .seq (
  .region [jB 45 (qF 1 5),jB 46 (qL 45),jB 47 (qS 46),jB 48 (qF 1 5),jB 49 (qL 48),jB 50 (qS 49),jB 51 (qF 1 4),jB 52 (qL 51),jB 53 (qS 52),jB 56 (qF 1 4),jB 57 (qL 56),jB 58 (qS 57),⟨(some 54),(.call (.c (.fn (.func 39) [] [])) [(.t 50),(.t 53)]),none,[(46,(none,(.load none (.t 45)))),(57,(none,(.load none (.t 56))))],true⟩,jB 55 (.bin .quo (.t 47) (.t 54)),jB 59 (.bin .mul (.t 55) (.t 58)),jB 9 (qM 59)]) (
  .seq (
  .region [jA 10 (qK false)]) (
  .seq (
  .seq (
  .region [qm 60 8,qm 61 9,jA 62 (.bin .add (.t 60) (.t 61)),jA 63 (qC 0)]) (.block 0 (.loop (
  .seq (
  .region [jA 64 (qB 63 62)]) (
  .seq (.cond (.t 64) .skip (.exit 0)) (
  .seq (.block 1 (
  .seq (
  .region [qm 65 63,jA 11 (.alloc [(.int .i64 0)]),jG 1 11 65]) (
  .seq (
  .region [jB 66 (qF 2 3),jB 67 (qL 66),jB 68 (qL 7),jB 69 (qL 11),jB 73 (qF 0 4),jB 74 (qL 73),jB 75 (qF 1 4),jB 76 (qL 75),jB 77 (qL 11),⟨(some 12),(.alloc [.nils]),none,[(67,(none,(.load none (.t 66)))),(68,(none,(.load none (.t 7)))),(69,(none,(.load none (.t 11)))),(74,(none,(.load none (.t 73)))),(76,(none,(.load none (.t 75)))),(77,(none,(.load none (.t 11))))],true⟩,⟨(some 70),(.call (.t 68) [(.t 69)]),none,[(67,(none,(.load none (.t 66)))),(74,(none,(.load none (.t 73)))),(76,(none,(.load none (.t 75)))),(77,(none,(.load none (.t 11))))],true⟩,jB 71 (qI 1 67 70),jB 72 (qL 71),⟨(some 78),(.call (.c (.fn (.func 37) [] [])) [(.t 74),(.t 76),(.t 77)]),none,[(67,(none,(.load none (.t 66)))),(72,(none,(.load none (.t 71))))],true⟩,jB 79 (qI 1 72 78),jB 80 (qL 79),jH 1 12 80]) (
  .seq (
  .region [jA 81 (.mkfn (.func 40) [] [(.t 12),(.t 7),(.t 11)]),qm 13 81]) (
  .seq (
  .region [qm 82 13,jA 83 (.call (.t 82) [(.c (.bool true))]),qm 14 83]) (
  .seq (
  .seq (
  .region [qm 84 14,jA 85 (.un .not (.t 84)),qm 86 85,jD 87 (qM 13) 86,jD 88 (.call (.t 87) [(.c (.bool false))]) 86,jD 89 (.un .not (.t 88)) 86,jA 90 (.pick (.t 86) (.t 89) (.c (.bool false)))]) (.cond (.t 90) (
  .seq (
  .region [jA 6 (qK false)]) .ret) .skip)) (
  .region [qm 91 10,qm 92 91,jC 93 (qM 14) 92,jC 94 (qM 93) 92,jD 95 (qL 11) 94,jD 96 (qM 8) 94,jD 97 (.bin .geq (.t 95) (.t 96)) 94,jC 98 (.pick (.t 94) (.t 97) (.c (.bool false))) 92,jA 99 (qP 92 98),qm 10 99]))))))) (
  .region [jA 100 (qA 63 1),qm 63 100]))))))) (
  .seq (
  .region [qm 101 10,qm 6 101]) .ret)))))))))⟩
theorem c11:compFunc Tryz.prog GL [] Tryz.f11=some l11:=by kernel_rfl
def l12:LFunc:=⟨13,[(.tmp 4)],
  (
  .seq (
  .region [jA 2 (qO 0),jA 3 (qO 1),jA 4 (qK false)]) (
  .seq (
  .region [jA 5 (qN 3 2),jA 6 (qG 14 5),qm 7 6,jD 8 (qF 0 2) 7,jD 9 (qL 8) 7,jD 10 (qN 2 3) 7,jD 11 (.call (.c (.fn (.func 42) [] [])) [(.t 9),(.t 10)]) 7,jA 12 (.pick (.t 7) (.t 11) (.c (.bool false))),qm 4 12]) .ret))⟩
theorem c12:compFunc Tryz.prog GL [] Tryz.f12=some l12:=by kernel_rfl
def l13:LFunc:=⟨49,[(.cell 10 (some 3))],
  (
  .seq (
  .region [jA 5 (.box false (.t 0)),jA 10 (.alloc [(.int .i64 0), .nils, .nils])]) (
  .seq (
  .region [jA 12 (.bslice 1 0 [.nils] []),jA 13 (qF 2 5),ql 14 13,jA 15 (.append 1 24 (.t 12) (.t 14)),qm 11 15]) (
  .seq (
  .region [qm 16 11,qm 17 1,jA 18 (.bslice 1 0 [.nils] []),jA 19 (qF 2 5),ql 20 19,qm 21 1,jA 22 (qI 1 20 21),ql 23 22,jA 24 (.append 1 24 (.t 18) (.t 23)),jA 25 (qI 1 16 17),jG 1 25 24]) (
  .seq (
  .region [jB 26 (qM 11),jB 27 (qM 1),jB 28 (qI 1 26 27),jB 29 (qL 28),jB 30 (qM 2),⟨(some 31),(.bslice 2 0 [(.int .i64 0),(.bool false)] []),none,[(29,(none,(.load none (.t 28))))],true⟩,jB 32 (qF 2 5),jB 33 (qL 32),jB 34 (qM 1),jB 35 (qI 1 33 34),jB 36 (qL 35),jB 37 (qM 2),jB 38 (qI 1 36 37),jB 39 (qL 38),jB 41 (qM 3),jB 42 (qM 4),jB 43 (.build [(.int .i64 0),(.bool false)] [(0,(1,(.t 41))),(1,(1,(.t 42)))]),⟨(some 40),(.append 2 16 (.t 31) (.t 39)),none,[(29,(none,(.load none (.t 28))))],true⟩,⟨(some 44),(.call (.c (.fn (.func 43) [] [])) [(.t 40),(.t 43)]),none,[(29,(none,(.load none (.t 28))))],true⟩,jB 45 (qI 1 29 30),jH 1 45 44]) (
  .seq (
  .region [qm 46 11,jA 47 (qF 2 5),jG 1 47 46]) (
  .seq (
  .region [jA 48 (qN 3 5),jG 3 10 48]) .ret))))))⟩
theorem c13:compFunc Tryz.prog GL [5] Tryz.f13=some l13:=by kernel_rfl
def l14:LFunc:=⟨134,[(.tmp 2)],
  (
  .seq (
  .region [jA 1 (qO 0),jA 2 (qK false)]) (
  .seq (
  .seq (
  .region [jA 8 (qF 0 1),ql 9 8,jA 10 (.bin .lss (.t 9) (.c (.int .i64 1))),qm 11 10,jC 12 (qF 0 1) 11,jC 13 (qL 12) 11,jC 14 (.bin .gtr (.t 13) (.c (.int .i64 64))) 11,jA 15 (qP 11 14),qm 16 15,jC 17 (qF 2 1) 16,jC 18 (qL 17) 16,jC 19 (qS 18) 16,jC 20 (.bin .gtr (.t 19) (.c (.int .i64 3000))) 16,jA 21 (qP 16 20)]) (.cond (.t 21) (
  .seq (
  .region [jA 2 (qK false)]) .ret) .skip)) (
  .seq (
  .seq (
  .region [jA 3 (qC 0)]) (.block 0 (.loop (
  .seq (
  .seq (
  .region [qm 22 3,jA 23 (qF 1 1),ql 24 23,jA 25 (qS 24),jA 26 (qB 22 25)]) (.cond (.t 26) .skip (.exit 0))) (
  .seq (.block 1 (
  .seq (
  .region [jB 29 (qF 1 1),jB 30 (qL 29),jB 31 (qM 3),jB 32 (qI 1 30 31),jB 33 (qL 32),jB 34 (.bin .lss (.t 33) (.c (.int .i64 0))),jB 35 (qM 34),jF 36 (qF 1 1) 35,jF 37 (qL 36) 35,jF 38 (qM 3) 35,jF 39 (qI 1 37 38) 35,jF 40 (qL 39) 35,jF 41 (qF 2 1) 35,jF 42 (qL 41) 35,jF 43 (qS 42) 35,jF 44 (.bin .geq (.t 40) (.t 43)) 35,jB 45 (qP 35 44),jB 46 (qM 45),jF 47 (qM 3) 46,jF 48 (.bin .gtr (.t 47) (.c (.int .i64 0))) 46,jF 49 (qM 48) 46,jE 50 (qF 1 1) 49,jE 51 (qL 50) 49,jE 52 (qM 3) 49,jE 53 (.bin .sub (.t 52) (.c (.int .i64 1))) 49,jE 54 (qI 1 51 53) 49,jE 55 (qL 54) 49,jE 56 (qF 1 1) 49,jE 57 (qL 56) 49,jE 58 (qM 3) 49,jE 59 (qI 1 57 58) 49,jE 60 (qL 59) 49,jE 61 (.bin .geq (.t 55) (.t 60)) 49,jF 62 (.pick (.t 49) (.t 61) (.c (.bool false))) 46,jB 63 (qP 46 62)]) (.cond (.t 63) (
  .seq (
  .region [jA 2 (qK false)]) .ret) .skip))) (
  .region [qm 27 3,jA 28 (qA 27 1),qm 3 28])))))) (
  .seq (
  .seq (
  .region [jA 4 (qC 0)]) (.block 2 (.loop (
  .seq (
  .seq (
  .region [qm 64 4,jA 65 (qF 2 1),ql 66 65,jA 67 (qS 66),jA 68 (qB 64 67)]) (.cond (.t 68) .skip (.exit 2))) (
  .seq (.block 3 (
  .seq (
  .seq (
  .region [jB 71 (qF 2 1),jB 72 (qL 71),jB 73 (qM 4),jB 74 (qI 1 72 73),jB 75 (qL 74),jB 76 (qS 75),jB 77 (qF 0 1),jB 78 (qL 77),jB 79 (.bin .neq (.t 76) (.t 78))]) (.cond (.t 79) (
  .seq (
  .region [jA 2 (qK false)]) .ret) .skip)) (
  .seq (
  .region [jA 5 (qC 0)]) (.block 4 (.loop (
  .seq (
  .seq (
  .region [qm 80 5,jA 81 (qF 0 1),ql 82 81,jA 83 (qB 80 82)]) (.cond (.t 83) .skip (.exit 4))) (
  .seq (.block 5 (
  .seq (
  .region [jA 86 (qF 2 1),ql 87 86,qm 88 4,jA 89 (qI 1 87 88),ql 90 89,qm 91 5,jA 92 (qI 1 90 91),ql 93 92,qm 6 93]) (
  .seq (
  .region [jA 7 (qC 0)]) (.block 6 (.loop (
  .seq (
  .seq (
  .region [qm 94 7,qm 95 6,jA 96 (qS 95),jA 97 (qB 94 96)]) (.cond (.t 97) .skip (.exit 6))) (
  .seq (.block 7 (
  .seq (
  .region [jB 100 (qM 6),jB 101 (qM 7),jB 102 (qI 2 100 101),jB 103 (qF 0 102),jB 104 (qL 103),jB 105 (.bin .lss (.t 104) (.c (.int .i64 0))),jB 106 (qM 105),jF 107 (qM 6) 106,jF 108 (qM 7) 106,jF 109 (qI 2 107 108) 106,jF 110 (qF 0 109) 106,jF 111 (qL 110) 106,jF 112 (qF 2 1) 106,jF 113 (qL 112) 106,jF 114 (qS 113) 106,jF 115 (.bin .geq (.t 111) (.t 114)) 106,jB 116 (qP 106 115),jB 117 (qM 116),jF 118 (qM 7) 117,jF 119 (.bin .gtr (.t 118) (.c (.int .i64 0))) 117,jF 120 (qM 119) 117,jE 121 (qM 6) 120,jE 122 (qM 7) 120,jE 123 (.bin .sub (.t 122) (.c (.int .i64 1))) 120,jE 124 (qI 2 121 123) 120,jE 125 (qN 2 124) 120,jE 126 (qM 6) 120,jE 127 (qM 7) 120,jE 128 (qI 2 126 127) 120,jE 129 (qN 2 128) 120,jE 130 (.call (.c (.fn (.func 44) [] [])) [(.t 125),(.t 129)]) 120,jE 131 (.un .not (.t 130)) 120,jF 132 (.pick (.t 120) (.t 131) (.c (.bool false))) 117,jB 133 (qP 117 132)]) (.cond (.t 133) (
  .seq (
  .region [jA 2 (qK false)]) .ret) .skip))) (
  .region [qm 98 7,jA 99 (qA 98 1),qm 7 99])))))))) (
  .region [qm 84 5,jA 85 (qA 84 1),qm 5 85])))))))) (
  .region [qm 69 4,jA 70 (qA 69 1),qm 4 70])))))) (
  .seq (
  .region [jA 2 (qK true)]) .ret)))))⟩
theorem c14:compFunc Tryz.prog GL [] Tryz.f14=some l14:=by kernel_rfl
def l15:LFunc:=⟨19,[(.cell 2 (some 3))],
  (
  .seq (
  .region [jA 1 (.box false (.t 0)),jA 2 (.alloc [(.int .i64 0), .nils, .nils])]) (
  .seq (
  .region [jA 4 (qF 1 1),⟨none,(.store 1 (.t 4) (.c .nils)),none,[],false⟩]) (
  .seq (
  .seq (
  .region [jA 3 (qC 0)]) (.block 0 (.loop (
  .seq (
  .seq (
  .region [qm 5 3,jA 6 (qF 2 1),ql 7 6,jA 8 (qS 7),jA 9 (qB 5 8)]) (.cond (.t 9) .skip (.exit 0))) (
  .seq (.block 1 (
  .region [jA 12 (qF 1 1),ql 13 12,qm 14 3,jA 15 (.bslice 1 1 [(.int .i64 0)] [(0,(1,(.t 14)))]),jA 16 (.append 1 8 (.t 13) (.t 15)),jA 17 (qF 1 1),jG 1 17 16])) (
  .region [qm 10 3,jA 11 (qA 10 1),qm 3 11])))))) (
  .seq (
  .region [jA 18 (qN 3 1),jG 3 2 18]) .ret))))⟩
theorem c15:compFunc Tryz.prog GL [1] Tryz.f15=some l15:=by kernel_rfl
def l18:LFunc:=⟨76,[(.tmp 6)],
  (
  .seq (
  .region [jA 3 (qO 0),jA 4 (qO 1),jA 6 (qK false)]) (
  .seq (
  .seq (
  .region [jA 9 (qF 2 3),ql 10 9,jA 11 (qS 10),qm 12 2,jA 13 (.bin .gtr (.t 11) (.t 12)),qm 14 13,jC 15 (qF 1 3) 14,jC 16 (qL 15) 14,jC 17 (qS 16) 14,jC 18 (.bin .gtr (.t 17) (.c (.int .i64 60))) 14,jA 19 (qP 14 18),qm 20 19,jC 21 (qF 0 3) 20,jC 22 (qL 21) 20,jC 23 (.bin .gtr (.t 22) (.c (.int .i64 8))) 20,jC 24 (qM 23) 20,jD 25 (qF 0 3) 24,jD 26 (qL 25) 24,jD 27 (.bin .leq (.t 26) (.c (.int .i64 64))) 24,jC 28 (.pick (.t 24) (.t 27) (.c (.bool false))) 20,jA 29 (qP 20 28),qm 30 29,jC 31 (qF 0 4) 30,jC 32 (qL 31) 30,jC 33 (qS 32) 30,jC 34 (.bin .gtr (.t 33) (.c (.int .i64 12))) 30,jA 35 (qP 30 34),qm 36 35,jC 37 (qF 1 4) 36,jC 38 (qL 37) 36,jC 39 (qS 38) 36,jC 40 (.bin .gtr (.t 39) (.c (.int .i64 12))) 36,jA 41 (qP 36 40)]) (.cond (.t 41) (
  .seq (
  .region [jA 6 (qK false)]) .ret) .skip)) (
  .seq (
  .seq (
  .region [jA 7 (qC 0)]) (.block 0 (.loop (
  .seq (
  .seq (
  .region [qm 42 7,jA 43 (qF 2 3),ql 44 43,jA 45 (qS 44),jA 46 (qB 42 45)]) (.cond (.t 46) .skip (.exit 0))) (
  .seq (.block 1 (
  .seq (
  .seq (
  .region [jA 49 (qF 2 3),ql 50 49,qm 51 7,jA 52 (qI 1 50 51),ql 53 52,jA 54 (qS 53),jA 55 (.bin .gtr (.t 54) (.c (.int .i64 64)))]) (.cond (.t 55) (
  .seq (
  .region [jA 6 (qK false)]) .ret) .skip)) (
  .seq (
  .region [jA 8 (qC 0)]) (.block 2 (.loop (
  .seq (
  .seq (
  .region [qm 56 8,jA 57 (qF 2 3),ql 58 57,qm 59 7,jA 60 (qI 1 58 59),ql 61 60,jA 62 (qS 61),jA 63 (qB 56 62)]) (.cond (.t 63) .skip (.exit 2))) (
  .seq (.block 3 (
  .seq (
  .region [jA 66 (qF 2 3),ql 67 66,qm 68 7,jA 69 (qI 1 67 68),ql 70 69,qm 71 8,jA 72 (qI 1 70 71),ql 73 72,jA 74 (qS 73),jA 75 (.bin .gtr (.t 74) (.c (.int .i64 60)))]) (.cond (.t 75) (
  .seq (
  .region [jA 6 (qK false)]) .ret) .skip))) (
  .region [qm 64 8,jA 65 (qA 64 1),qm 8 65])))))))) (
  .region [qm 47 7,jA 48 (qA 47 1),qm 7 48])))))) (
  .seq (
  .region [jA 6 (qK true)]) .ret))))⟩
theorem c18:compFunc Tryz.prog GL [] Tryz.f18=some l18:=by kernel_rfl
def l29:LFunc:=⟨19,[(.tmp 4)],
  (
  .seq (
  .region [jA 3 (qO 1),jA 4 (qK false)]) (
  .seq (
  .region [jA 5 (qN 2 3),jA 6 (qG 45 5),qm 7 6,jD 8 (qF 0 3) 7,jD 9 (qL 8) 7,jD 10 (qM 0) 7,jD 11 (.call (.c (.fn (.func 67) [] [])) [(.t 9),(.t 10)]) 7,jA 12 (.pick (.t 7) (.t 11) (.c (.bool false))),qm 13 12,jD 14 (qF 1 3) 13,jD 15 (qL 14) 13,jD 16 (qM 0) 13,jD 17 (.call (.c (.fn (.func 67) [] [])) [(.t 15),(.t 16)]) 13,jA 18 (.pick (.t 13) (.t 17) (.c (.bool false))),qm 4 18]) .ret))⟩
theorem c29:compFunc Tryz.prog GL [] Tryz.f29=some l29:=by kernel_rfl
def l30:LFunc:=⟨101,[(.tmp 2)],
  (
  .seq (
  .region [jA 1 (qO 0),jA 2 (qK false)]) (
  .seq (
  .seq (
  .region [jA 12 (qF 0 1),ql 13 12,jA 14 (.bin .lss (.t 13) (.c (.int .i64 1))),qm 15 14,jC 16 (qF 0 1) 15,jC 17 (qL 16) 15,jC 18 (.bin .gtr (.t 17) (.c (.int .i64 64))) 15,jA 19 (qP 15 18),qm 20 19,jC 21 (qF 2 1) 20,jC 22 (qL 21) 20,jC 23 (qS 22) 20,jC 24 (.bin .gtr (.t 23) (.c (.int .i64 3000))) 20,jA 25 (qP 20 24)]) (.cond (.t 25) (
  .seq (
  .region [jA 2 (qK false)]) .ret) .skip)) (
  .seq (
  .region [jA 26 (.mkfn (.func 68) [] [(.t 1)]),qm 3 26]) (
  .seq (
  .seq (
  .region [jA 27 (qF 1 1),ql 28 27,jA 29 (qS 28),jA 30 (qC 0)]) (.block 0 (.loop (
  .seq (
  .region [jA 31 (qB 30 29)]) (
  .seq (.cond (.t 31) .skip (.exit 0)) (
  .seq (.block 1 (
  .seq (
  .region [qm 32 30,jA 33 (qI 1 28 30),ql 34 33,qm 4 32,qm 5 34]) (
  .seq (
  .region [qm 35 3,qm 36 5,jA 37 (.call (.t 35) [(.t 36)]),jA 38 (.un .not (.t 37)),qm 39 38,jC 40 (qM 4) 39,jC 41 (.bin .gtr (.t 40) (.c (.int .i64 0))) 39,jC 42 (qM 41) 39,jD 43 (qF 1 1) 42,jD 44 (qL 43) 42,jD 45 (qM 4) 42,jD 46 (.bin .sub (.t 45) (.c (.int .i64 1))) 42,jD 47 (qI 1 44 46) 42,jD 48 (qL 47) 42,jD 49 (qM 5) 42,jD 50 (.bin .geq (.t 48) (.t 49)) 42,jC 51 (.pick (.t 42) (.t 50) (.c (.bool false))) 39,jA 52 (qP 39 51)]) (.cond (.t 52) (
  .seq (
  .region [jA 2 (qK false)]) .ret) .skip)))) (
  .region [jA 53 (qA 30 1),qm 30 53]))))))) (
  .seq (
  .seq (
  .region [jA 54 (qF 2 1),ql 55 54,jA 56 (qS 55),jA 57 (qC 0)]) (.block 2 (.loop (
  .seq (
  .region [jA 58 (qB 57 56)]) (
  .seq (.cond (.t 58) .skip (.exit 2)) (
  .seq (.block 3 (
  .seq (
  .region [jA 59 (qI 1 55 57),ql 60 59,qm 7 60]) (
  .seq (
  .seq (
  .region [qm 61 7,jA 62 (qS 61),jA 63 (qF 0 1),ql 64 63,jA 65 (.bin .neq (.t 62) (.t 64))]) (.cond (.t 65) (
  .seq (
  .region [jA 2 (qK false)]) .ret) .skip)) (
  .seq (
  .region [qm 66 7,jA 67 (qS 66),jA 68 (qC 0)]) (.block 4 (.loop (
  .seq (
  .region [jA 69 (qB 68 67)]) (
  .seq (.cond (.t 69) .skip (.exit 4)) (
  .seq (.block 5 (
  .seq (
  .region [jA 70 (qI 1 66 68),ql 71 70,qm 9 71]) (
  .seq (
  .region [qm 72 9,jA 73 (qS 72),jA 74 (qC 0)]) (.block 6 (.loop (
  .seq (
  .region [jA 75 (qB 74 73)]) (
  .seq (.cond (.t 75) .skip (.exit 6)) (
  .seq (.block 7 (
  .seq (
  .region [qm 76 74,jA 77 (qI 2 72 74),jA 78 (qN 2 77),jA 11 (.alloc [(.int .i64 0),(.bool false)]),qm 10 76,jG 2 11 78]) (
  .seq (
  .region [jB 79 (qM 3),jB 80 (qF 0 11),jB 81 (qL 80),jB 82 (.call (.t 79) [(.t 81)]),jB 83 (.un .not (.t 82)),jB 84 (qM 83),jF 85 (qM 10) 84,jF 86 (.bin .gtr (.t 85) (.c (.int .i64 0))) 84,jF 87 (qM 86) 84,jE 88 (qM 9) 87,jE 89 (qM 10) 87,jE 90 (.bin .sub (.t 89) (.c (.int .i64 1))) 87,jE 91 (qI 2 88 90) 87,jE 92 (qN 2 91) 87,jE 93 (qN 2 11) 87,jE 94 (.call (.c (.fn (.func 69) [] [])) [(.t 92),(.t 93)]) 87,jE 95 (.bin .geq (.t 94) (.c (.int .i64 0))) 87,jF 96 (.pick (.t 87) (.t 95) (.c (.bool false))) 84,jB 97 (qP 84 96)]) (.cond (.t 97) (
  .seq (
  .region [jA 2 (qK false)]) .ret) .skip)))) (
  .region [jA 98 (qA 74 1),qm 74 98]))))))))) (
  .region [jA 99 (qA 68 1),qm 68 99])))))))))) (
  .region [jA 100 (qA 57 1),qm 57 100]))))))) (
  .seq (
  .region [jA 2 (qK true)]) .ret))))))⟩
theorem c30:compFunc Tryz.prog GL [] Tryz.f30=some l30:=by kernel_rfl
def l31:LFunc:=⟨19,[(.cell 4 (some 5))],
  (
  .seq (
  .region [jA 2 (qO 0),jA 3 (qO 1),jA 4 (.alloc [(.int .i64 0), .nils, .nils, .nils,(.int .i64 0)])]) (
  .seq (
  .region [jA 6 (qN 2 3),jA 7 (qG 70 6),jA 5 (.alloc [.nils, .nils]),jG 2 5 7]) (
  .seq (
  .region [jB 8 (qN 3 2),jB 9 (qF 0 5),jB 10 (qL 9),jB 11 (qF 1 5),jB 12 (qL 11),⟨(some 13),(.bslice 1 2 [.nils] [(0,(1,(.t 10))),(1,(1,(.t 12)))]),none,[(8,(none,(.load (some 3) (.t 2)))),(10,(none,(.load none (.t 9)))),(12,(none,(.load none (.t 11))))],true⟩,jB 15 (qF 0 5),jB 16 (qL 15),jB 17 (qS 16),⟨(some 14),(.call (.c (.fn (.func 71) [] [])) [(.t 13)]),none,[(8,(none,(.load (some 3) (.t 2)))),(16,(none,(.load none (.t 15))))],true⟩,jB 18 (.build [(.int .i64 0), .nils, .nils, .nils,(.int .i64 0)] [(0,(3,(.t 8))),(3,(1,(.t 14))),(4,(1,(.t 17)))]),jH 5 4 18]) .ret)))⟩
theorem c31:compFunc Tryz.prog GL [] Tryz.f31=some l31:=by kernel_rfl
def l32:LFunc:=⟨55,[(.cell 4 (some 3))],
  (
  .seq (
  .region [jA 2 (qO 0),jA 4 (.alloc [.nilm, .nils, .nils])]) (
  .seq (
  .region [jA 13 (.mkmap none),jA 14 (.build [.nilm, .nils, .nils] [(0,(1,(.t 13)))]),jA 5 (.alloc [.nilm, .nils, .nils]),jG 3 5 14]) (
  .seq (
  .region [jA 15 (.mkfn (.func 72) [] [(.t 5)]),qm 6 15]) (
  .seq (
  .seq (
  .region [qm 16 1,jA 17 (qS 16),jA 18 (qC 0)]) (.block 0 (.loop (
  .seq (
  .region [jA 19 (qB 18 17)]) (
  .seq (.cond (.t 19) .skip (.exit 0)) (
  .seq (.block 1 (
  .seq (
  .region [jA 20 (qI 2 16 18),jA 21 (qN 2 20),jA 8 (.alloc [(.int .i64 0),(.int .i64 0)]),jG 2 8 21]) (
  .region [qm 22 6,jA 23 (qN 2 8),jA 24 (.call (.t 22) [(.t 23),(.c (.int .i64 (-1)))])]))) (
  .region [jA 25 (qA 18 1),qm 18 25]))))))) (
  .seq (
  .seq (
  .region [jA 9 (qC 0)]) (.block 2 (.loop (
  .seq (
  .seq (
  .region [qm 26 9,jA 27 (qF 1 5),ql 28 27,jA 29 (qS 28),jA 30 (qB 26 29)]) (.cond (.t 30) .skip (.exit 2))) (
  .seq (.block 3 (
  .seq (
  .region [jA 33 (qF 1 5),ql 34 33,qm 35 9,jA 36 (qI 2 34 35),jA 37 (qN 2 36),jA 10 (.alloc [(.int .i64 0),(.int .i64 0)]),jG 2 10 37]) (
  .seq (
  .region [jA 38 (qN 5 2),jA 39 (qN 2 10),jA 40 (.call (.c (.fn (.func 73) [] [])) [(.t 38),(.t 39)]),jA 41 (qS 40),jA 42 (qC 0)]) (.block 4 (.loop (
  .seq (
  .region [jA 43 (qB 42 41)]) (
  .seq (.cond (.t 43) .skip (.exit 4)) (
  .seq (.block 5 (
  .seq (
  .region [jA 44 (qI 2 40 42),jA 45 (qN 2 44),jA 12 (.alloc [(.int .i64 0),(.bool false)]),jG 2 12 45]) (
  .region [qm 46 6,jA 47 (qN 5 2),jA 48 (qN 2 10),jA 49 (qN 2 12),jA 50 (.call (.c (.fn (.func 74) [] [])) [(.t 47),(.t 48),(.t 49)]),qm 51 9,jA 52 (.call (.t 46) [(.t 50),(.t 51)])]))) (
  .region [jA 53 (qA 42 1),qm 42 53]))))))))) (
  .region [qm 31 9,jA 32 (qA 31 1),qm 9 32])))))) (
  .seq (
  .region [jA 54 (qN 3 5),jG 3 4 54]) .ret))))))⟩
theorem c32:compFunc Tryz.prog GL [] Tryz.f32=some l32:=by kernel_rfl
def l33:LFunc:=⟨21,[(.tmp 2)],
  (
  .seq (
  .region [jA 1 (qO 0),jA 2 (.mv (.c .nils))]) (
  .seq (
  .region [jA 3 (.mv (.c .nils))]) (
  .seq (
  .seq (
  .region [jA 6 (qF 0 1),jA 7 (qF 1 6),ql 8 7,jA 9 (qS 8),jA 10 (qC 0)]) (.block 0 (.loop (
  .seq (
  .region [jA 11 (qB 10 9)]) (
  .seq (.cond (.t 11) .skip (.exit 0)) (
  .seq (.block 1 (
  .seq (
  .region [jA 12 (qI 1 8 10),ql 13 12,qm 5 13]) (
  .region [qm 14 3,qm 15 5,jA 16 (.build [(.int .i64 0),(.int .i64 0)] [(1,(1,(.t 15)))]),jA 17 (.bslice 2 1 [(.int .i64 0),(.int .i64 0)] [(0,(2,(.t 16)))]),jA 18 (.append 2 16 (.t 14) (.t 17)),qm 3 18]))) (
  .region [jA 19 (qA 10 1),qm 10 19]))))))) (
  .seq (
  .region [qm 20 3,qm 2 20]) .ret))))⟩
theorem c33:compFunc Tryz.prog GL [] Tryz.f33=some l33:=by kernel_rfl
def l34:LFunc:=⟨102,[(.cell 4 (some 2)),(.cell 5 (some 2)),(.tmp 6)],
  (
  .seq (
  .region [jA 2 (qO 0),jA 3 (.box false (.t 1)),jA 4 (.alloc [(.int .i64 0),(.int .i64 0)]),jA 5 (.alloc [(.int .i64 0),(.int .i64 0)]),jA 6 (qK false)]) (
  .seq (
  .region [jA 17 (qF 1 3),ql 18 17,jA 19 (qS 18),jA 20 (.mkslice 1 24 [.nils] (.t 19) (.t 19)),qm 7 20]) (
  .seq (
  .seq (
  .region [jA 21 (qF 1 3),ql 22 21,jA 23 (qS 22),jA 24 (qC 0)]) (.block 0 (.loop (
  .seq (
  .region [jA 25 (qB 24 23)]) (
  .seq (.cond (.t 25) .skip (.exit 0)) (
  .seq (.block 1 (
  .seq (
  .region [qm 26 24,jA 27 (qI 2 22 24),jA 28 (qN 2 27),jA 9 (.alloc [(.int .i64 0),(.int .i64 0)]),qm 8 26,jG 2 9 28]) (
  .seq (
  .region [jA 29 (qN 5 2),jA 30 (qN 2 9),jA 31 (.call (.c (.fn (.func 73) [] [])) [(.t 29),(.t 30)]),jA 32 (qS 31),jA 33 (qC 0)]) (.block 2 (.loop (
  .seq (
  .region [jA 34 (qB 33 32)]) (
  .seq (.cond (.t 34) .skip (.exit 2)) (
  .seq (.block 3 (
  .seq (
  .region [jA 35 (qI 2 31 33),jA 36 (qN 2 35),jA 11 (.alloc [(.int .i64 0),(.bool false)]),jG 2 11 36]) (
  .region [jB 37 (qM 7),jB 38 (qM 8),jB 39 (qM 7),jB 40 (qM 8),jB 41 (qI 1 39 40),jB 42 (qL 41),jB 43 (qF 0 3),jB 44 (qL 43),jB 45 (qN 5 2),jB 46 (qN 2 9),jB 47 (qN 2 11),⟨(some 48),(.call (.c (.fn (.func 74) [] [])) [(.t 45),(.t 46),(.t 47)]),none,[(42,(none,(.load none (.t 41)))),(44,(none,(.load none (.t 43))))],true⟩,jB 49 (.mlook (.st [(0,(1, .int)),(1,(1, .int))]) (.int .i64 0) false (.t 44) (.t 48)),⟨(some 50),(.bslice 1 1 [(.int .i64 0)] [(0,(1,(.t 49)))]),none,[(42,(none,(.load none (.t 41)))),(44,(none,(.load none (.t 43)))),(45,(none,(.load (some 5) (.t 2)))),(46,(none,(.load (some 2) (.t 9)))),(47,(none,(.load (some 2) (.t 11)))),(49,(none,(.mlook (.st [(0,(1, .int)),(1,(1, .int))]) (.int .i64 0) false (.t 44) (.t 48))))],true⟩,jB 51 (.append 1 8 (.t 42) (.t 50)),jB 52 (qI 1 37 38),jH 1 52 51]))) (
  .region [jA 53 (qA 33 1),qm 33 53]))))))))) (
  .region [jA 54 (qA 24 1),qm 24 54]))))))) (
  .seq (
  .region [qm 55 7,jA 56 (qG 75 55),qm 12 56]) (
  .seq (
  .seq (
  .region [jA 57 (qF 1 3),ql 58 57,jA 59 (qS 58),jA 60 (qC 0)]) (.block 4 (.loop (
  .seq (
  .region [jA 61 (qB 60 59)]) (
  .seq (.cond (.t 61) .skip (.exit 4)) (
  .seq (.block 5 (
  .seq (
  .region [qm 62 60,jA 63 (qI 2 58 60),jA 64 (qN 2 63),jA 14 (.alloc [(.int .i64 0),(.int .i64 0)]),qm 13 62,jG 2 14 64]) (
  .seq (
  .region [jA 65 (qN 5 2),jA 66 (qN 2 14),jA 67 (.call (.c (.fn (.func 73) [] [])) [(.t 65),(.t 66)]),jA 68 (qS 67),jA 69 (qC 0)]) (.block 6 (.loop (
  .seq (
  .region [jA 70 (qB 69 68)]) (
  .seq (.cond (.t 70) .skip (.exit 6)) (
  .seq (.block 7 (
  .seq (
  .region [qm 71 69,jA 72 (qI 2 67 69),jA 73 (qN 2 72),jA 16 (.alloc [(.int .i64 0),(.bool false)]),qm 15 71,jG 2 16 73]) (
  .seq (
  .region [jB 74 (qF 1 16),jB 75 (qL 74),jB 76 (qM 75),jE 77 (qM 12) 76,jE 78 (qM 7) 76,jE 79 (qM 13) 76,jE 80 (qI 1 78 79) 76,jE 81 (qL 80) 76,jE 82 (qM 15) 76,jE 83 (qI 1 81 82) 76,jE 84 (qL 83) 76,jE 85 (qI 1 77 84) 76,jE 86 (qL 85) 76,jE 87 (qM 12) 76,jE 88 (qM 13) 76,jE 89 (qI 1 87 88) 76,jE 90 (qL 89) 76,jE 91 (.bin .eql (.t 86) (.t 90)) 76,jB 92 (.pick (.t 76) (.t 91) (.c (.bool false)))]) (.cond (.t 92) (
  .seq (
  .region [jB 93 (qN 2 14),jB 94 (qN 5 2),jB 95 (qN 2 14),jB 96 (qN 2 16),⟨(some 97),(.call (.c (.fn (.func 74) [] [])) [(.t 94),(.t 95),(.t 96)]),none,[(93,(none,(.load (some 2) (.t 14))))],true⟩,jH 2 4 93,jH 2 5 97,jB 6 (qK true)]) .ret) .skip)))) (
  .region [jA 98 (qA 69 1),qm 69 98]))))))))) (
  .region [jA 99 (qA 60 1),qm 60 99]))))))) (
  .seq (
  .region [jA 100 (.build [(.int .i64 0),(.int .i64 0)] []),jA 101 (.build [(.int .i64 0),(.int .i64 0)] []),jG 2 4 100,jG 2 5 101,jA 6 (qK false)]) .ret))))))⟩
theorem c34:compFunc Tryz.prog GL [3] Tryz.f34=some l34:=by kernel_rfl
def l35:LFunc:=⟨58,[(.tmp 4)],
  (
  .seq (
  .region [jA 2 (.box false (.t 0)),jA 3 (qO 1),jA 4 (.mv (.c .nils))]) (
  .seq (
  .region [jA 5 (.mv (.c .nils))]) (
  .seq (
  .seq (
  .region [jB 9 (qF 2 2),jB 10 (qL 9),jB 11 (qF 0 2),jB 12 (qL 11),jB 13 (qN 2 3),jB 14 (.mlook (.st [(0,(1, .int)),(1,(1, .int))]) (.int .i64 0) false (.t 12) (.t 13)),jB 15 (qI 1 10 14),jB 16 (qL 15),jB 6 (qM 16)]) (.block 0 (.loop (
  .seq (
  .seq (
  .region [qm 17 6,jA 18 (.bin .geq (.t 17) (.c (.int .i64 0)))]) (.cond (.t 18) .skip (.exit 0))) (
  .seq (.block 1 (
  .region [qm 24 5,jA 25 (qF 1 2),ql 26 25,qm 27 6,jA 28 (qI 2 26 27),jA 29 (qF 1 28),ql 30 29,jA 31 (.bslice 1 1 [(.int .i64 0)] [(0,(1,(.t 30)))]),jA 32 (.append 1 8 (.t 24) (.t 31)),qm 5 32])) (
  .region [jA 19 (qF 2 2),ql 20 19,qm 21 6,jA 22 (qI 1 20 21),ql 23 22,qm 6 23])))))) (
  .seq (
  .seq (
  .region [qm 33 5,jA 34 (qS 33),jA 35 (.bin .sub (.t 34) (.c (.int .i64 1))),jA 7 (qC 0),qm 8 35]) (.block 2 (.loop (
  .seq (
  .seq (
  .region [qm 36 7,qm 37 8,jA 38 (qB 36 37)]) (.cond (.t 38) .skip (.exit 2))) (
  .seq (.block 3 (
  .region [jB 43 (qM 5),jB 44 (qM 7),jB 45 (qM 5),jB 46 (qM 8),jB 47 (qM 5),jB 48 (qM 8),jB 49 (qI 1 47 48),jB 50 (qL 49),jB 51 (qM 5),jB 52 (qM 7),jB 53 (qI 1 51 52),jB 54 (qL 53),jB 55 (qI 1 43 44),jH 1 55 50,jB 56 (qI 1 45 46),jH 1 56 54])) (
  .region [qm 39 7,jA 40 (qA 39 1),qm 41 8,jA 42 (.bin .sub (.t 41) (.c (.int .i64 1))),qm 7 40,qm 8 42])))))) (
  .seq (
  .region [qm 57 5,qm 4 57]) .ret)))))⟩
theorem c35:compFunc Tryz.prog GL [2] Tryz.f35=some l35:=by kernel_rfl
def l36:LFunc:=⟨10,[(.tmp 3)],
  (
  .seq (
  .region [jA 3 (qC 0)]) (
  .seq (
  .region [jA 4 (qF 0 1),ql 5 4,jA 6 (qF 1 1),ql 7 6,qm 8 0,jA 9 (.call (.c (.fn (.func 37) [] [])) [(.t 5),(.t 7),(.t 8)]),qm 3 9]) .ret))⟩
theorem c36:compFunc Tryz.prog GL [] Tryz.f36=some l36:=by kernel_rfl
def l37:LFunc:=⟨25,[(.tmp 6)],
  (
  .seq (
  .region [jA 6 (qC 0)]) (
  .seq (
  .seq (
  .region [qm 7 2,qm 8 0,jA 9 (qS 8),jA 10 (qB 7 9)]) (.cond (.t 10) (
  .seq (
  .region [qm 11 0,qm 12 2,jA 13 (qI 1 11 12),ql 14 13,qm 6 14]) .ret) .skip)) (
  .seq (
  .region [qm 15 1,qm 16 2,qm 17 0,jA 18 (qS 17),jA 19 (.bin .sub (.t 16) (.t 18)),qm 20 1,jA 21 (qS 20),jA 22 (.bin .rem (.t 19) (.t 21)),jA 23 (qI 1 15 22),ql 24 23,qm 6 24]) .ret)))⟩
theorem c37:compFunc Tryz.prog GL [] Tryz.f37=some l37:=by kernel_rfl
def l38:LFunc:=⟨9,[(.tmp 4)],
  (
  .seq (
  .region [jA 4 (qK false)]) (
  .seq (
  .region [qm 5 0,qm 6 1,jA 7 (.call (.c (.fn (.func 76) [] [])) [(.t 5),(.t 6)]),jA 8 (.bin .geq (.t 7) (.c (.int .i64 0))),qm 4 8]) .ret))⟩
theorem c38:compFunc Tryz.prog GL [] Tryz.f38=some l38:=by kernel_rfl
def l39:LFunc:=⟨12,[(.tmp 4)],
  (
  .seq (
  .region [jA 4 (qC 0)]) (
  .seq (.block 0 (.loop (
  .seq (
  .seq (
  .region [qm 5 1,jA 6 (.bin .gtr (.t 5) (.c (.int .i64 0)))]) (.cond (.t 6) .skip (.exit 0))) (.block 1 (
  .region [jB 7 (qM 1),jB 8 (qM 0),jB 9 (qM 1),jB 10 (.bin .rem (.t 8) (.t 9)),jB 0 (qM 7),jB 1 (qM 10)]))))) (
  .seq (
  .region [qm 11 0,qm 4 11]) .ret)))⟩
theorem c39:compFunc Tryz.prog GL [] Tryz.f39=some l39:=by kernel_rfl
def l40:LFunc:=⟨14,[(.tmp 5)],
  (
  .seq (
  .region [jA 5 (qK false)]) (
  .seq (
  .region [jB 6 (qL 1),jB 7 (qL 2),jB 8 (qL 3),jB 9 (qA 8 1),jB 11 (qM 0),⟨(some 10),(.call (.t 7) [(.t 9)]),none,[(6,(none,(.load none (.t 1))))],true⟩,jB 12 (.build [(.int .i64 0),(.bool false)] [(0,(1,(.t 10))),(1,(1,(.t 11)))]),jB 13 (.call (.c (.fn (.func 41) [] [])) [(.t 6),(.t 12)]),jB 5 (qM 13)]) .ret))⟩
theorem c40:compFunc Tryz.prog GL [] Tryz.f40=some l40:=by kernel_rfl
def l41:LFunc:=⟨9,[(.tmp 4)],
  (
  .seq (
  .region [jA 3 (qO 1),jA 4 (qK false)]) (
  .seq (
  .region [qm 5 0,jA 6 (qN 2 3),jA 7 (.call (.c (.fn (.func 77) [] [])) [(.t 5),(.t 6)]),jA 8 (.bin .geq (.t 7) (.c (.int .i64 0))),qm 4 8]) .ret))⟩
theorem c41:compFunc Tryz.prog GL [] Tryz.f41=some l41:=by kernel_rfl
def l42:LFunc:=⟨37,[(.tmp 4)],
  (
  .seq (
  .region [jA 3 (qO 1),jA 4 (qK false)]) (
  .seq (
  .seq (
  .region [jA 5 (qC 0)]) (.block 0 (.loop (
  .seq (
  .seq (
  .region [qm 7 5,jA 8 (qF 0 3),ql 9 8,jA 10 (qS 9),jA 11 (qB 7 10)]) (.cond (.t 11) .skip (.exit 0))) (
  .seq (.block 1 (
  .seq (
  .region [jA 14 (qF 0 3),ql 15 14,qm 16 5,jA 17 (qI 1 15 16),ql 18 17,qm 19 0,jA 20 (.bin .geq (.t 18) (.t 19))]) (.cond (.t 20) (
  .seq (
  .region [jA 4 (qK false)]) .ret) .skip))) (
  .region [qm 12 5,jA 13 (qA 12 1),qm 5 13])))))) (
  .seq (
  .seq (
  .region [jA 6 (qC 0)]) (.block 2 (.loop (
  .seq (
  .seq (
  .region [qm 21 6,jA 22 (qF 1 3),ql 23 22,jA 24 (qS 23),jA 25 (qB 21 24)]) (.cond (.t 25) .skip (.exit 2))) (
  .seq (.block 3 (
  .seq (
  .region [jA 28 (qF 1 3),ql 29 28,qm 30 6,jA 31 (qI 1 29 30),ql 32 31,qm 33 0,jA 34 (.bin .geq (.t 32) (.t 33))]) (.cond (.t 34) (
  .seq (
  .region [jA 4 (qK false)]) .ret) .skip))) (
  .region [qm 26 6,jA 27 (qA 26 1),qm 6 27])))))) (
  .seq (
  .region [jA 35 (qN 2 3),jA 36 (qG 78 35),qm 4 36]) .ret))))⟩
theorem c42:compFunc Tryz.prog GL [] Tryz.f42=some l42:=by kernel_rfl
def l43:LFunc:=⟨50,[(.tmp 4)],
  (
  .seq (
  .region [jA 3 (qO 1),jA 4 (.mv (.c .nils))]) (
  .seq (
  .region [jA 8 (.bslice 2 0 [(.int .i64 0),(.bool false)] []),qm 5 8]) (
  .seq (
  .region [jA 6 (qK false)]) (
  .seq (
  .seq (
  .region [jA 7 (qC 0)]) (.block 0 (.loop (
  .seq (
  .seq (
  .region [qm 9 7,qm 10 0,jA 11 (qS 10),jA 12 (qB 9 11)]) (.cond (.t 12) .skip (.exit 0))) (
  .seq (.block 1 (
  .seq (
  .seq (
  .region [jB 15 (qM 0),jB 16 (qM 7),jB 17 (qI 2 15 16),jB 18 (qN 2 17),jB 19 (qN 2 3),jB 20 (.eq false (.struct [(0,(1, .int)),(1,(1, .bool))]) (.t 18) (.t 19))]) (.cond (.t 20) (
  .seq (
  .region [qm 21 0,qm 4 21]) .ret) .skip)) (
  .seq (
  .seq (
  .region [jB 22 (qM 6),jB 23 (.un .not (.t 22)),jB 24 (qM 23),jE 25 (qN 2 3) 24,jE 26 (qM 0) 24,jE 27 (qM 7) 24,jE 28 (qI 2 26 27) 24,jE 29 (qN 2 28) 24,jE 30 (.call (.c (.fn (.func 44) [] [])) [(.t 25),(.t 29)]) 24,jB 31 (.pick (.t 24) (.t 30) (.c (.bool false)))]) (.cond (.t 31) (
  .seq (
  .region [qm 32 5,jA 33 (qN 2 3),jA 34 (.bslice 2 1 [(.int .i64 0),(.bool false)] [(0,(2,(.t 33)))]),jA 35 (.append 2 16 (.t 32) (.t 34)),qm 5 35]) (
  .region [jA 6 (qK true)])) .skip)) (
  .region [qm 36 5,qm 37 0,qm 38 7,jA 39 (qI 2 37 38),jA 40 (qN 2 39),jA 41 (.bslice 2 1 [(.int .i64 0),(.bool false)] [(0,(2,(.t 40)))]),jA 42 (.append 2 16 (.t 36) (.t 41)),qm 5 42])))) (
  .region [qm 13 7,jA 14 (qA 13 1),qm 7 14])))))) (
  .seq (
  .seq (
  .region [qm 43 6,jA 44 (.un .not (.t 43))]) (.cond (.t 44) (
  .region [qm 45 5,jA 46 (qN 2 3),jA 47 (.bslice 2 1 [(.int .i64 0),(.bool false)] [(0,(2,(.t 46)))]),jA 48 (.append 2 16 (.t 45) (.t 47)),qm 5 48]) .skip)) (
  .seq (
  .region [qm 49 5,qm 4 49]) .ret))))))⟩
theorem c43:compFunc Tryz.prog GL [] Tryz.f43=some l43:=by kernel_rfl
def l44:LFunc:=⟨26,[(.tmp 4)],
  (
  .seq (
  .region [jA 2 (qO 0),jA 3 (qO 1),jA 4 (qK false)]) (
  .seq (
  .region [jA 5 (qF 0 2),ql 6 5,jA 7 (qF 0 3),ql 8 7,jA 9 (qB 6 8),qm 10 9,jC 11 (qF 0 2) 10,jC 12 (qL 11) 10,jC 13 (qF 0 3) 10,jC 14 (qL 13) 10,jC 15 (.bin .eql (.t 12) (.t 14)) 10,jC 16 (qM 15) 10,jD 17 (qF 1 2) 16,jD 18 (qL 17) 16,jD 19 (.un .not (.t 18)) 16,jC 20 (.pick (.t 16) (.t 19) (.c (.bool false))) 10,jC 21 (qM 20) 10,jD 22 (qF 1 3) 21,jD 23 (qL 22) 21,jC 24 (.pick (.t 21) (.t 23) (.c (.bool false))) 10,jA 25 (qP 10 24),qm 4 25]) .ret))⟩
theorem c44:compFunc Tryz.prog GL [] Tryz.f44=some l44:=by kernel_rfl
def l45:LFunc:=⟨27,[(.tmp 2)],
  (
  .seq (
  .region [jA 1 (qO 0),jA 2 (qK false)]) (
  .seq (
  .seq (
  .region [jA 3 (qF 0 1),ql 4 3,jA 5 (qS 4),jA 6 (.bin .gtr (.t 5) (.c (.int .i64 60))),qm 7 6,jC 8 (qF 1 1) 7,jC 9 (qL 8) 7,jC 10 (qS 9) 7,jC 11 (.bin .lss (.t 10) (.c (.int .i64 1))) 7,jA 12 (qP 7 11),qm 13 12,jC 14 (qF 1 1) 13,jC 15 (qL 14) 13,jC 16 (qS 15) 13,jC 17 (.bin .gtr (.t 16) (.c (.int .i64 40))) 13,jA 18 (qP 13 17)]) (.cond (.t 18) (
  .seq (
  .region [jA 2 (qK false)]) .ret) .skip)) (
  .seq (
  .region [jA 19 (qF 0 1),ql 20 19,jA 21 (.call (.c (.fn (.func 67) [] [])) [(.t 20),(.c (.int .i64 64))]),qm 22 21,jD 23 (qF 1 1) 22,jD 24 (qL 23) 22,jD 25 (.call (.c (.fn (.func 67) [] [])) [(.t 24),(.c (.int .i64 64))]) 22,jA 26 (.pick (.t 22) (.t 25) (.c (.bool false))),qm 2 26]) .ret)))⟩
theorem c45:compFunc Tryz.prog GL [] Tryz.f45=some l45:=by kernel_rfl
def l46:LFunc:=⟨55,[(.cell 2 (some 2))],
  (
  .seq (
  .region [jA 1 (qO 0),jA 2 (.alloc [.nils, .nils])]) (
  .seq (
  .region [jB 7 (qF 1 1),jB 8 (qL 7),jB 9 (qF 1 1),jB 10 (qL 9),⟨(some 11),(.call (.c (.fn (.func 79) [] [])) [(.t 10)]),none,[(8,(none,(.load none (.t 7))))],true⟩,jB 12 (.slice 1 (.t 8) none (some (.t 11))),jB 3 (qM 12)]) (
  .seq (
  .region [qm 13 3,jA 14 (qS 13),qm 4 14]) (
  .seq (
  .region [jA 15 (qF 0 1),ql 16 15,jA 17 (qS 16),qm 5 17,jA 6 (qC 0)]) (
  .seq (.block 0 (.loop (
  .seq (
  .seq (
  .region [jB 18 (qM 5),jB 19 (.bin .gtr (.t 18) (.c (.int .i64 0))),jB 20 (qM 19),jE 21 (qF 0 1) 20,jE 22 (qL 21) 20,jE 23 (qM 5) 20,jE 24 (.bin .sub (.t 23) (.c (.int .i64 1))) 20,jE 25 (qI 1 22 24) 20,jE 26 (qL 25) 20,jE 27 (qM 3) 20,jE 28 (qM 4) 20,jE 29 (.bin .sub (.t 28) (.c (.int .i64 1))) 20,jE 30 (qM 6) 20,jE 31 (.bin .sub (.t 29) (.t 30)) 20,jE 32 (qI 1 27 31) 20,jE 33 (qL 32) 20,jE 34 (.bin .eql (.t 26) (.t 33)) 20,jB 35 (.pick (.t 20) (.t 34) (.c (.bool false)))]) (.cond (.t 35) .skip (.exit 0))) (.block 1 (
  .seq (
  .region [qm 36 5,jA 37 (.bin .sub (.t 36) (.c (.int .i64 1))),qm 5 37]) (
  .region [qm 38 6,jA 39 (qA 38 1),qm 40 4,jA 41 (.bin .rem (.t 39) (.t 40)),qm 6 41])))))) (
  .seq (
  .region [jB 42 (qF 0 1),jB 43 (qL 42),jB 44 (qM 5),jB 45 (.slice 1 (.t 43) none (some (.t 44))),jB 47 (qM 3),jB 48 (qM 4),jB 49 (qM 6),jB 50 (.bin .sub (.t 48) (.t 49)),jB 51 (qM 4),jB 52 (.bin .rem (.t 50) (.t 51)),jB 46 (qG 80 45),jB 53 (.call (.c (.fn (.func 81) [] [])) [(.t 47),(.t 52)]),jB 54 (.build [.nils, .nils] [(0,(1,(.t 46))),(1,(1,(.t 53)))]),jH 2 2 54]) .ret))))))⟩
theorem c46:compFunc Tryz.prog GL [] Tryz.f46=some l46:=by kernel_rfl
def l47:LFunc:=⟨26,[(.tmp 4)],
  (
  .seq (
  .region [jA 4 (qK false)]) (
  .seq (
  .seq (
  .region [qm 6 0,jA 7 (qS 6),qm 8 1,jA 9 (qS 8),jA 10 (.bin .neq (.t 7) (.t 9))]) (.cond (.t 10) (
  .seq (
  .region [jA 4 (qK false)]) .ret) .skip)) (
  .seq (
  .seq (
  .region [qm 11 0,jA 12 (qS 11),jA 13 (qC 0)]) (.block 0 (.loop (
  .seq (
  .region [jA 14 (qB 13 12)]) (
  .seq (.cond (.t 14) .skip (.exit 0)) (
  .seq (.block 1 (
  .seq (
  .region [qm 15 13,qm 5 15]) (
  .seq (
  .region [jB 16 (qM 0),jB 17 (qM 5),jB 18 (qI 1 16 17),jB 19 (qL 18),jB 20 (qM 1),jB 21 (qM 5),jB 22 (qI 1 20 21),jB 23 (qL 22),jB 24 (.bin .neq (.t 19) (.t 23))]) (.cond (.t 24) (
  .seq (
  .region [jA 4 (qK false)]) .ret) .skip)))) (
  .region [jA 25 (qA 13 1),qm 13 25]))))))) (
  .seq (
  .region [jA 4 (qK true)]) .ret))))⟩
theorem c47:compFunc Tryz.prog GL [] Tryz.f47=some l47:=by kernel_rfl
def l67:LFunc:=⟨21,[(.tmp 4)],
  (
  .seq (
  .region [jA 4 (qK false)]) (
  .seq (
  .seq (
  .region [qm 7 0,jA 8 (qS 7),jA 9 (qC 0)]) (.block 0 (.loop (
  .seq (
  .region [jA 10 (qB 9 8)]) (
  .seq (.cond (.t 10) .skip (.exit 0)) (
  .seq (.block 1 (
  .seq (
  .region [jA 11 (qI 1 7 9),ql 12 11,qm 6 12]) (
  .seq (
  .region [qm 13 6,jA 14 (.bin .lss (.t 13) (.c (.int .i64 0))),qm 15 14,jC 16 (qM 6) 15,jC 17 (qM 1) 15,jC 18 (.bin .geq (.t 16) (.t 17)) 15,jA 19 (qP 15 18)]) (.cond (.t 19) (
  .seq (
  .region [jA 4 (qK false)]) .ret) .skip)))) (
  .region [jA 20 (qA 9 1),qm 9 20]))))))) (
  .seq (
  .region [jA 4 (qK true)]) .ret)))⟩
theorem c67:compFunc Tryz.prog GL [] Tryz.f67=some l67:=by kernel_rfl
def l68:LFunc:=⟨13,[(.tmp 3)],
  (
  .seq (
  .region [jA 3 (qK false)]) (
  .seq (
  .region [qm 4 0,jA 5 (.bin .geq (.t 4) (.c (.int .i64 0))),qm 6 5,jD 7 (qM 0) 6,jD 8 (qF 2 1) 6,jD 9 (qL 8) 6,jD 10 (qS 9) 6,jD 11 (qB 7 10) 6,jA 12 (.pick (.t 6) (.t 11) (.c (.bool false))),qm 3 12]) .ret))⟩
theorem c68:compFunc Tryz.prog GL [] Tryz.f68=some l68:=by kernel_rfl
def l69:LFunc:=⟨23,[(.tmp 4)],
  (
  .seq (
  .region [jA 2 (qO 0),jA 3 (qO 1),jA 4 (qC 0)]) (
  .seq (
  .seq (
  .region [jA 6 (qF 0 2),ql 7 6,jA 8 (qF 0 3),ql 9 8,jA 10 (.call (.c (.fn (.func 105) [] [])) [(.t 7),(.t 9)]),qm 5 10]) (
  .seq (
  .region [qm 11 5,jA 12 (.bin .neq (.t 11) (.c (.int .i64 0))),qm 13 12,jC 14 (qF 1 2) 13,jC 15 (qL 14) 13,jC 16 (qF 1 3) 13,jC 17 (qL 16) 13,jC 18 (.eq false .bool (.t 15) (.t 17)) 13,jA 19 (qP 13 18)]) (.cond (.t 19) (
  .seq (
  .region [qm 20 5,qm 4 20]) .ret) .skip))) (
  .seq (
  .seq (
  .region [jA 21 (qF 1 3),ql 22 21]) (.cond (.t 22) (
  .seq (
  .region [jA 4 (.mv (.c (.int .i64 (-1))))]) .ret) .skip)) (
  .seq (
  .region [jA 4 (qC 1)]) .ret))))⟩
theorem c69:compFunc Tryz.prog GL [] Tryz.f69=some l69:=by kernel_rfl
def l70:LFunc:=⟨9,[(.cell 2 (some 2))],
  (
  .seq (
  .region [jA 1 (qO 0),jA 2 (.alloc [.nils, .nils])]) (
  .seq (
  .seq (
  .region [jA 3 (qN 2 1),jA 4 (qG 45 3),jA 5 (.un .not (.t 4))]) (.cond (.t 5) (
  .seq (
  .region [jA 6 (.build [.nils, .nils] []),jG 2 2 6]) .ret) .skip)) (
  .seq (
  .region [jA 7 (qN 2 1),jA 8 (qG 46 7),jG 2 2 8]) .ret)))⟩
theorem c70:compFunc Tryz.prog GL [] Tryz.f70=some l70:=by kernel_rfl
def l71:LFunc:=⟨36,[(.tmp 2)],
  (
  .seq (
  .region [jA 2 (.mv (.c .nils))]) (
  .seq (
  .region [jA 3 (qC 0)]) (
  .seq (
  .seq (
  .region [qm 9 0,jA 10 (qS 9),jA 11 (qC 0)]) (.block 0 (.loop (
  .seq (
  .region [jA 12 (qB 11 10)]) (
  .seq (.cond (.t 12) .skip (.exit 0)) (
  .seq (.block 1 (
  .seq (
  .region [jA 13 (qI 1 9 11),ql 14 13,qm 5 14]) (
  .seq (
  .region [qm 15 3,qm 16 5,jA 17 (qS 16),jA 18 (.bin .add (.t 15) (.t 17)),qm 3 18]) (
  .seq (
  .region [qm 19 3,jA 20 (.bin .lss (.t 19) (.c (.int .i64 0)))]) (.cond (.t 20) .bad .skip))))) (
  .region [jA 22 (qA 11 1),qm 11 22]))))))) (
  .seq (
  .region [qm 23 3,jA 24 (.call (.c (.fn (.func 106) [] [])) [(.c .nils),(.t 23)]),qm 6 24]) (
  .seq (
  .seq (
  .region [qm 25 0,jA 26 (qS 25),jA 27 (qC 0)]) (.block 2 (.loop (
  .seq (
  .region [jA 28 (qB 27 26)]) (
  .seq (.cond (.t 28) .skip (.exit 2)) (
  .seq (.block 3 (
  .seq (
  .region [jA 29 (qI 1 25 27),ql 30 29,qm 8 30]) (
  .region [qm 31 6,qm 32 8,jA 33 (.append 1 8 (.t 31) (.t 32)),qm 6 33]))) (
  .region [jA 34 (qA 27 1),qm 27 34]))))))) (
  .seq (
  .region [qm 35 6,qm 2 35]) .ret))))))⟩
theorem c71:compFunc Tryz.prog GL [] Tryz.f71=some l71:=by kernel_rfl
def l72:LFunc:=⟨34,[],
  (
  .seq (
  .region [jA 3 (qO 0)]) (
  .seq (
  .region [jA 8 (qF 0 2),ql 9 8,jA 10 (qN 2 3),jA 11 (.mlook (.st [(0,(1, .int)),(1,(1, .int))]) (.int .i64 0) true (.t 9) (.t 10)),qm 7 11,jA 12 (.ext (.t 7) 0),jA 13 (.ext (.t 7) 1),qm 5 12,qm 6 13]) (
  .seq (
  .region [qm 14 6,jA 15 (.un .not (.t 14))]) (.cond (.t 15) (
  .seq (
  .region [jA 16 (qF 0 2),ql 17 16,jA 18 (qN 2 3),jA 19 (qF 1 2),ql 20 19,jA 21 (qS 20),⟨none,(.mupd (.st [(0,(1, .int)),(1,(1, .int))]) (.t 17) (.t 18) (.t 21)),none,[],false⟩]) (
  .seq (
  .region [jA 22 (qF 1 2),ql 23 22,jA 24 (qN 2 3),jA 25 (.bslice 2 1 [(.int .i64 0),(.int .i64 0)] [(0,(2,(.t 24)))]),jA 26 (.append 2 16 (.t 23) (.t 25)),jA 27 (qF 1 2),jG 1 27 26]) (
  .region [jA 28 (qF 2 2),ql 29 28,qm 30 1,jA 31 (.bslice 1 1 [(.int .i64 0)] [(0,(1,(.t 30)))]),jA 32 (.append 1 8 (.t 29) (.t 31)),jA 33 (qF 2 2),jG 1 33 32]))) .skip))))⟩
theorem c72:compFunc Tryz.prog GL [] Tryz.f72=some l72:=by kernel_rfl
def l73:LFunc:=⟨20,[(.tmp 4)],
  (
  .seq (
  .region [jA 2 (qO 0),jA 3 (qO 1),jA 4 (.mv (.c .nils))]) (
  .seq (
  .region [jB 5 (qF 0 2),jB 6 (qF 2 5),jB 7 (qL 6),jB 8 (qF 1 3),jB 9 (qL 8),jB 10 (qI 1 7 9),jB 11 (qL 10),jB 12 (qF 3 2),jB 13 (qL 12),jB 14 (qF 0 3),jB 15 (qL 14),jB 16 (qI 1 13 15),jB 17 (qL 16),jB 18 (qI 1 11 17),jB 19 (qL 18),jB 4 (qM 19)]) .ret))⟩
theorem c73:compFunc Tryz.prog GL [] Tryz.f73=some l73:=by kernel_rfl
def l74:LFunc:=⟨22,[(.cell 6 (some 2))],
  (
  .seq (
  .region [jA 3 (qO 0),jA 4 (qO 1),jA 5 (qO 2),jA 6 (.alloc [(.int .i64 0),(.int .i64 0)])]) (
  .seq (
  .region [jA 8 (qF 0 4),ql 9 8,jA 10 (qA 9 1),qm 7 10]) (
  .seq (
  .seq (
  .region [qm 11 7,jA 12 (qF 3 3),ql 13 12,jA 14 (qS 13),jA 15 (.bin .eql (.t 11) (.t 14))]) (.cond (.t 15) (
  .region [jA 16 (qF 4 3),ql 17 16,qm 7 17]) .skip)) (
  .seq (
  .region [qm 18 7,jA 19 (qF 0 5),ql 20 19,jA 21 (.build [(.int .i64 0),(.int .i64 0)] [(0,(1,(.t 18))),(1,(1,(.t 20)))]),jG 2 6 21]) .ret))))⟩
theorem c74:compFunc Tryz.prog GL [] Tryz.f74=some l74:=by kernel_rfl
def l75:LFunc:=⟨157,[(.tmp 2)],
  (
  .seq (
  .region [jA 2 (.mv (.c .nils))]) (
  .seq (
  .region [qm 14 0,jA 15 (qS 14),jA 16 (.mkslice 1 8 [(.int .i64 0)] (.t 15) (.t 15)),qm 3 16]) (
  .seq (
  .region [qm 17 0,jA 18 (qS 17),jA 19 (.mkslice 1 8 [(.int .i64 0)] (.t 18) (.t 18)),qm 4 19]) (
  .seq (
  .region [qm 20 0,jA 21 (qS 20),jA 22 (.mkslice 1 8 [(.int .i64 0)] (.t 21) (.t 21)),qm 5 22]) (
  .seq (
  .region [qm 23 0,jA 24 (qS 23),jA 25 (.mkslice 1 8 [(.int .i64 0)] (.t 24) (.t 24)),qm 6 25]) (
  .seq (
  .region [jA 7 (.mv (.c .nils)),jA 8 (.mv (.c .nils))]) (
  .seq (
  .region [jA 9 (qC 0)]) (
  .seq (
  .seq (
  .region [qm 26 0,jA 27 (qS 26),jA 28 (qC 0)]) (.block 0 (.loop (
  .seq (
  .region [jA 29 (qB 28 27)]) (
  .seq (.cond (.t 29) .skip (.exit 0)) (
  .seq (.block 1 (
  .seq (
  .region [qm 30 28,qm 10 30]) (.scope (
  .seq (
  .seq (
  .region [qm 31 4,qm 32 10,jA 33 (qI 1 31 32),ql 34 33,jA 35 (.bin .eql (.t 34) (.c (.int .i64 0)))]) (.cond (.t 35) (
  .region [qm 36 8,qm 37 10,jA 38 (.bslice 1 1 [(.int .i64 0)] [(0,(1,(.t 37)))]),jA 39 (.append 1 8 (.t 36) (.t 38)),qm 8 39]) .skip)) (
  .seq .skip (.block 2 (.loop (
  .seq (
  .seq (
  .region [qm 40 8,jA 41 (qS 40),jA 42 (.bin .gtr (.t 41) (.c (.int .i64 0)))]) (.cond (.t 42) .skip (.exit 2))) (.block 3 (
  .seq (
  .region [qm 43 8,qm 44 8,jA 45 (qS 44),jA 46 (.bin .sub (.t 45) (.c (.int .i64 1))),jA 47 (qI 1 43 46),ql 48 47,qm 11 48]) (
  .seq (
  .seq (
  .region [qm 49 4,qm 50 11,jA 51 (qI 1 49 50),ql 52 51,jA 53 (.bin .eql (.t 52) (.c (.int .i64 0)))]) (.cond (.t 53) (
  .seq (
  .region [qm 54 9,jA 55 (qA 54 1),qm 9 55]) (
  .seq (
  .region [qm 56 4,qm 57 11,qm 58 5,qm 59 11,qm 60 9,qm 61 9,jA 62 (qI 1 56 57),jG 1 62 60,jA 63 (qI 1 58 59),jG 1 63 61]) (
  .region [qm 64 7,qm 65 11,jA 66 (.bslice 1 1 [(.int .i64 0)] [(0,(1,(.t 65)))]),jA 67 (.append 1 8 (.t 64) (.t 66)),qm 7 67]))) .skip)) (
  .seq (.block 4 (.loop (
  .seq (
  .seq (
  .region [jB 68 (qM 6),jB 69 (qM 11),jB 70 (qI 1 68 69),jB 71 (qL 70),jB 72 (qM 0),jB 73 (qM 11),jB 74 (qI 1 72 73),jB 75 (qL 74),jB 76 (qS 75),jB 77 (qB 71 76)]) (.cond (.t 77) .skip (.exit 4))) (.block 5 (
  .seq (
  .region [jB 78 (qM 0),jB 79 (qM 11),jB 80 (qI 1 78 79),jB 81 (qL 80),jB 82 (qM 6),jB 83 (qM 11),jB 84 (qI 1 82 83),jB 85 (qL 84),jB 86 (qI 1 81 85),jB 87 (qL 86),jB 12 (qM 87)]) (
  .seq (
  .seq (
  .region [qm 88 4,qm 89 12,jA 90 (qI 1 88 89),ql 91 90,jA 92 (.bin .eql (.t 91) (.c (.int .i64 0)))]) (.cond (.t 92) (
  .seq (
  .region [qm 93 8,qm 94 12,jA 95 (.bslice 1 1 [(.int .i64 0)] [(0,(1,(.t 94)))]),jA 96 (.append 1 8 (.t 93) (.t 95)),qm 8 96]) (.exit 3)) .skip)) (
  .seq (
  .seq (
  .region [qm 97 3,qm 98 12,jA 99 (qI 1 97 98),ql 100 99,jA 101 (.bin .eql (.t 100) (.c (.int .i64 0)))]) (.cond (.t 101) (
  .region [jB 102 (qM 5),jB 103 (qM 11),jB 104 (qM 5),jB 105 (qM 11),jB 106 (qI 1 104 105),jB 107 (qL 106),jB 108 (qM 5),jB 109 (qM 12),jB 110 (qI 1 108 109),jB 111 (qL 110),jB 112 (.minmax false [(.t 107),(.t 111)]),jB 113 (qI 1 102 103),jH 1 113 112]) .skip)) (
  .region [qm 114 6,qm 115 11,jA 116 (qI 1 114 115),ql 117 116,jA 118 (qA 117 1),jA 119 (qI 1 114 115),jG 1 119 118])))))))) (
  .seq (
  .region [qm 120 8,qm 121 8,jA 122 (qS 121),jA 123 (.bin .sub (.t 122) (.c (.int .i64 1))),jA 124 (.slice 1 (.t 120) none (some (.t 123))),qm 8 124]) (
  .seq (
  .seq (
  .region [jB 125 (qM 5),jB 126 (qM 11),jB 127 (qI 1 125 126),jB 128 (qL 127),jB 129 (qM 4),jB 130 (qM 11),jB 131 (qI 1 129 130),jB 132 (qL 131),jB 133 (qB 128 132)]) (.cond (.t 133) (.exit 3) .skip)) (
  .seq (
  .region [jA 13 (.mv (.c (.int .i64 (-1))))]) (.block 6 (.loop (
  .seq (
  .seq (
  .region [qm 134 13,qm 135 11,jA 136 (.bin .neq (.t 134) (.t 135))]) (.cond (.t 136) .skip (.exit 6))) (.block 7 (
  .seq (
  .region [qm 137 7,qm 138 7,jA 139 (qS 138),jA 140 (.bin .sub (.t 139) (.c (.int .i64 1))),jA 141 (qI 1 137 140),ql 142 141,qm 13 142]) (
  .seq (
  .region [qm 143 7,qm 144 7,jA 145 (qS 144),jA 146 (.bin .sub (.t 145) (.c (.int .i64 1))),jA 147 (.slice 1 (.t 143) none (some (.t 146))),qm 7 147]) (
  .region [qm 148 3,qm 149 13,qm 150 4,qm 151 11,jA 152 (qI 1 150 151),ql 153 152,jA 154 (qI 1 148 149),jG 1 154 153])))))))))))))))))))))) (
  .region [jA 155 (qA 28 1),qm 28 155]))))))) (
  .seq (
  .region [qm 156 3,qm 2 156]) .ret)))))))))⟩
theorem c75:compFunc Tryz.prog GL [] Tryz.f75=some l75:=by kernel_rfl
def l76:LFunc:=⟨19,[(.tmp 4)],
  (
  .seq (
  .region [jA 4 (qC 0)]) (
  .seq (
  .seq (
  .region [qm 6 0,jA 7 (qS 6),jA 8 (qC 0)]) (.block 0 (.loop (
  .seq (
  .region [jA 9 (qB 8 7)]) (
  .seq (.cond (.t 9) .skip (.exit 0)) (
  .seq (.block 1 (
  .seq (
  .region [qm 10 8,qm 5 10]) (
  .seq (
  .region [qm 11 1,qm 12 0,qm 13 5,jA 14 (qI 1 12 13),ql 15 14,jA 16 (.bin .eql (.t 11) (.t 15))]) (.cond (.t 16) (
  .seq (
  .region [qm 17 5,qm 4 17]) .ret) .skip)))) (
  .region [jA 18 (qA 8 1),qm 8 18]))))))) (
  .seq (
  .region [jA 4 (.mv (.c (.int .i64 (-1))))]) .ret)))⟩
theorem c76:compFunc Tryz.prog GL [] Tryz.f76=some l76:=by kernel_rfl
def l77:LFunc:=⟨19,[(.tmp 4)],
  (
  .seq (
  .region [jA 3 (qO 1),jA 4 (qC 0)]) (
  .seq (
  .seq (
  .region [qm 6 0,jA 7 (qS 6),jA 8 (qC 0)]) (.block 0 (.loop (
  .seq (
  .region [jA 9 (qB 8 7)]) (
  .seq (.cond (.t 9) .skip (.exit 0)) (
  .seq (.block 1 (
  .seq (
  .region [qm 10 8,qm 5 10]) (
  .seq (
  .region [jB 11 (qN 2 3),jB 12 (qM 0),jB 13 (qM 5),jB 14 (qI 2 12 13),jB 15 (qN 2 14),jB 16 (.eq false (.struct [(0,(1, .int)),(1,(1, .bool))]) (.t 11) (.t 15))]) (.cond (.t 16) (
  .seq (
  .region [qm 17 5,qm 4 17]) .ret) .skip)))) (
  .region [jA 18 (qA 8 1),qm 8 18]))))))) (
  .seq (
  .region [jA 4 (.mv (.c (.int .i64 (-1))))]) .ret)))⟩
theorem c77:compFunc Tryz.prog GL [] Tryz.f77=some l77:=by kernel_rfl
def l78:LFunc:=⟨53,[(.tmp 2)],
  (
  .seq (
  .region [jA 1 (qO 0),jA 2 (qK false)]) (
  .seq (
  .seq (
  .region [jA 7 (qF 0 1),ql 8 7,jA 9 (qS 8),jA 10 (.bin .gtr (.t 9) (.c (.int .i64 60))),qm 11 10,jC 12 (qF 1 1) 11,jC 13 (qL 12) 11,jC 14 (qS 13) 11,jC 15 (.bin .lss (.t 14) (.c (.int .i64 1))) 11,jA 16 (qP 11 15),qm 17 16,jC 18 (qF 1 1) 17,jC 19 (qL 18) 17,jC 20 (qS 19) 17,jC 21 (.bin .gtr (.t 20) (.c (.int .i64 40))) 17,jA 22 (qP 17 21)]) (.cond (.t 22) (
  .seq (
  .region [jA 2 (qK false)]) .ret) .skip)) (
  .seq (
  .seq (
  .region [jA 3 (qC 0)]) (.block 0 (.loop (
  .seq (
  .seq (
  .region [qm 23 3,jA 24 (qF 0 1),ql 25 24,jA 26 (qS 25),jA 27 (qB 23 26)]) (.cond (.t 27) .skip (.exit 0))) (
  .seq (.block 1 (
  .seq (
  .region [jA 30 (qF 0 1),ql 31 30,qm 32 3,jA 33 (qI 1 31 32),ql 34 33,jA 35 (qG 107 34),qm 4 35]) (
  .seq (
  .region [qm 36 4,jA 37 (.un .not (.t 36))]) (.cond (.t 37) (
  .seq (
  .region [jA 2 (qK false)]) .ret) .skip)))) (
  .region [qm 28 3,jA 29 (qA 28 1),qm 3 29])))))) (
  .seq (
  .seq (
  .region [jA 5 (qC 0)]) (.block 2 (.loop (
  .seq (
  .seq (
  .region [qm 38 5,jA 39 (qF 1 1),ql 40 39,jA 41 (qS 40),jA 42 (qB 38 41)]) (.cond (.t 42) .skip (.exit 2))) (
  .seq (.block 3 (
  .seq (
  .region [jA 45 (qF 1 1),ql 46 45,qm 47 5,jA 48 (qI 1 46 47),ql 49 48,jA 50 (qG 107 49),qm 6 50]) (
  .seq (
  .region [qm 51 6,jA 52 (.un .not (.t 51))]) (.cond (.t 52) (
  .seq (
  .region [jA 2 (qK false)]) .ret) .skip)))) (
  .region [qm 43 5,jA 44 (qA 43 1),qm 5 44])))))) (
  .seq (
  .region [jA 2 (qK true)]) .ret)))))⟩
theorem c78:compFunc Tryz.prog GL [] Tryz.f78=some l78:=by kernel_rfl
def l79:LFunc:=⟨30,[(.tmp 2)],
  (
  .seq (
  .region [jA 2 (qC 0)]) (
  .seq (
  .seq (
  .region [jA 3 (qC 1)]) (.block 0 (.loop (
  .seq (
  .seq (
  .region [qm 4 3,qm 5 0,jA 6 (qS 5),jA 7 (qB 4 6)]) (.cond (.t 7) .skip (.exit 0))) (
  .seq (.block 1 (
  .seq (
  .region [jB 10 (qM 0),jB 11 (qS 10),jB 12 (qM 3),jB 13 (.bin .rem (.t 11) (.t 12)),jB 14 (.bin .eql (.t 13) (.c (.int .i64 0))),jB 15 (qM 14),jE 16 (qM 0) 15,jE 17 (qM 3) 15,jE 18 (.slice 1 (.t 16) (some (.t 17)) none) 15,jE 19 (qM 0) 15,jE 20 (qM 0) 15,jE 21 (qS 20) 15,jE 22 (qM 3) 15,jE 23 (.bin .sub (.t 21) (.t 22)) 15,jE 24 (.slice 1 (.t 19) none (some (.t 23))) 15,jE 25 (.call (.c (.fn (.func 47) [] [])) [(.t 18),(.t 24)]) 15,jB 26 (.pick (.t 15) (.t 25) (.c (.bool false)))]) (.cond (.t 26) (
  .seq (
  .region [qm 27 3,qm 2 27]) .ret) .skip))) (
  .region [qm 8 3,jA 9 (qA 8 1),qm 3 9])))))) (
  .seq (
  .region [qm 28 0,jA 29 (qS 28),qm 2 29]) .ret)))⟩
theorem c79:compFunc Tryz.prog GL [] Tryz.f79=some l79:=by kernel_rfl
def l80:LFunc:=⟨8,[(.tmp 2)],
  (
  .seq (
  .region [jA 2 (.mv (.c .nils))]) (
  .seq (
  .seq (
  .region [qm 3 0,jA 4 (.eq false .slc (.t 3) (.c .nils))]) (.cond (.t 4) (
  .seq (
  .region [jA 2 (.mv (.c .nils))]) .ret) .skip)) (
  .seq (
  .region [jA 5 (.bslice 1 0 [(.int .i64 0)] []),qm 6 0,jA 7 (.append 1 8 (.t 5) (.t 6)),qm 2 7]) .ret)))⟩
theorem c80:compFunc Tryz.prog GL [] Tryz.f80=some l80:=by kernel_rfl
def l81:LFunc:=⟨23,[(.tmp 4)],
  (
  .seq (
  .region [jA 4 (.mv (.c .nils))]) (
  .seq (
  .region [qm 7 0,jA 8 (qS 7),jA 9 (.mkslice 1 8 [(.int .i64 0)] (.t 8) (.t 8)),qm 5 9]) (
  .seq (
  .region [qm 10 5,qm 11 0,qm 12 1,jA 13 (.slice 1 (.t 11) (some (.t 12)) none),jA 14 (.copy 1 (.t 10) (.t 13)),qm 6 14]) (
  .seq (
  .region [jB 15 (qM 5),jB 16 (qM 6),jB 17 (.slice 1 (.t 15) (some (.t 16)) none),jB 18 (qM 0),jB 19 (qM 1),jB 20 (.slice 1 (.t 18) none (some (.t 19))),jB 21 (.copy 1 (.t 17) (.t 20))]) (
  .seq (
  .region [qm 22 5,qm 4 22]) .ret)))))⟩
theorem c81:compFunc Tryz.prog GL [] Tryz.f81=some l81:=by kernel_rfl
def l105:LFunc:=⟨20,[(.tmp 4)],
  (
  .seq (
  .region [jA 4 (qC 0)]) (
  .seq (
  .region [qm 7 0,jA 8 (qG 138 7),qm 5 8]) (
  .seq (
  .region [qm 9 1,jA 10 (qG 138 9),qm 6 10]) (
  .seq (
  .seq (
  .region [qm 11 5]) (.cond (.t 11) (
  .seq (
  .seq (
  .region [qm 12 6]) (.cond (.t 12) (
  .seq (
  .region [jA 4 (qC 0)]) .ret) .skip)) (
  .seq (
  .region [jA 4 (.mv (.c (.int .i64 (-1))))]) .ret)) .skip)) (
  .seq (
  .seq (
  .region [qm 13 6]) (.cond (.t 13) (
  .seq (
  .region [jA 4 (qC 1)]) .ret) .skip)) (
  .seq (
  .seq (
  .region [qm 14 0,qm 15 1,jA 16 (qB 14 15)]) (.cond (.t 16) (
  .seq (
  .region [jA 4 (.mv (.c (.int .i64 (-1))))]) .ret) .skip)) (
  .seq (
  .seq (
  .region [qm 17 0,qm 18 1,jA 19 (.bin .gtr (.t 17) (.t 18))]) (.cond (.t 19) (
  .seq (
  .region [jA 4 (qC 1)]) .ret) .skip)) (
  .seq (
  .region [jA 4 (qC 0)]) .ret))))))))⟩
theorem c105:compFunc Tryz.prog GL [] Tryz.f105=some l105:=by kernel_rfl
def l106:LFunc:=⟨27,[(.tmp 4)],
  (
  .seq (
  .region [jA 4 (.mv (.c .nils))]) (
  .seq (
  .seq (
  .region [qm 5 1,jA 6 (.bin .lss (.t 5) (.c (.int .i64 0)))]) (.cond (.t 6) .bad .skip)) (
  .seq (
  .seq (
  .region [qm 8 1,qm 9 0,jA 10 (.capZ (.t 9)),qm 11 0,jA 12 (qS 11),jA 13 (.bin .sub (.t 10) (.t 12)),jA 14 (.bin .sub (.t 8) (.t 13)),qm 1 14]) (
  .seq (
  .region [qm 15 1,jA 16 (.bin .gtr (.t 15) (.c (.int .i64 0)))]) (.cond (.t 16) (
  .region [qm 17 0,qm 18 0,jA 19 (.capZ (.t 18)),jA 20 (.slice 1 (.t 17) none (some (.t 19))),qm 21 1,jA 22 (.appz 1 8 [(.int .i64 0)] (.t 20) (.t 21)),qm 23 0,jA 24 (qS 23),jA 25 (.slice 1 (.t 22) none (some (.t 24))),qm 0 25]) .skip))) (
  .seq (
  .region [qm 26 0,qm 4 26]) .ret))))⟩
theorem c106:compFunc Tryz.prog GL [] Tryz.f106=some l106:=by kernel_rfl
def l107:LFunc:=⟨9,[(.tmp 2)],
  (
  .seq (
  .region [jA 2 (qK false)]) (
  .seq (
  .region [qm 3 0,jA 4 (.bin .geq (.t 3) (.c (.int .i64 0))),qm 5 4,jD 6 (qM 0) 5,jD 7 (.bin .lss (.t 6) (.c (.int .i64 64))) 5,jA 8 (.pick (.t 5) (.t 7) (.c (.bool false))),qm 2 8]) .ret))⟩
theorem c107:compFunc Tryz.prog GL [] Tryz.f107=some l107:=by kernel_rfl
def l138:LFunc:=⟨6,[(.tmp 2)],
  (
  .seq (
  .region [jA 2 (qK false)]) (
  .seq (
  .region [qm 3 0,qm 4 0,jA 5 (.bin .neq (.t 3) (.t 4)),qm 2 5]) .ret))⟩
theorem c138:compFunc Tryz.prog GL [] Tryz.f138=some l138:=by kernel_rfl
end Go.Proofs.YthcllhhldknkmaaGreatDoor
