/- Plain forms of functions, by program. -/
import Derived.Test.YtohldpfjnllkdaaDoorProg
import Derived.Test.YtohldpfjnllkdaaDoorPvComp
import Derived.Test.YtohldpfjnllkdaaDoorGl
import Derived.KernelRfl
set_option linter.unusedSimpArgs false
set_option linter.unusedVariables false
section
namespace Go.Proofs.YtohldpfjnllkdaaDoor
open Go Go.Pv
set_option maxRecDepth 100000
def l7:LFunc:=⟨120,[(.tmp 2)],
  (
  .seq (
  .region [jA 1 (qO 0),jA 2 (qK false)]) (
  .seq (
  .region [jA 15 (.call (.c (.fn (.func 8) [] [])) []),qm 3 15]) (
  .seq (
  .seq (
  .region [jA 16 (qN 3 1),jA 17 (qG 9 16),jA 18 (.un .not (.t 17)),qm 19 18,jC 20 (qN 3 1) 19,jC 21 (qG 18 20) 19,jC 22 (.un .not (.t 21)) 19,jA 23 (qP 19 22)]) (.cond (.t 23) (
  .seq (
  .region [qm 24 3,qm 2 24]) .ret) .skip)) (
  .seq (
  .region [jA 25 (qN 3 1),jA 26 (qG 16 25),qm 4 26]) (
  .seq (
  .seq (
  .region [qm 27 4,jA 28 (qS 27),jA 29 (qF 2 1),ql 30 29,jA 31 (qS 30),jA 32 (.bin .neq (.t 28) (.t 31))]) (.cond (.t 32) (
  .seq (
  .region [jA 2 (qK false)]) .ret) .skip)) (
  .seq (
  .region [jA 34 (qN 3 1),jA 35 (qG 10 34),qm 33 35,jA 36 (.ext (.t 33) 0),jA 37 (.ext (.t 33) 1),jA 5 (.alloc [.nils, .nils]),jG 2 5 36,qm 6 37]) (
  .seq (
  .region [jA 39 (qN 3 1),jA 40 (qG 22 39),jA 41 (qG 10 40),qm 38 41,jA 42 (.ext (.t 38) 0),jA 43 (.ext (.t 38) 1),jA 7 (.alloc [.nils, .nils]),jG 2 7 42,qm 8 43]) (
  .seq (
  .region [jA 9 (qK false)]) (
  .seq (
  .seq (
  .region [jA 10 (qC 0)]) (.block 0 (.loop (
  .seq (
  .seq (
  .region [qm 44 10,jA 45 (qF 1 1),ql 46 45,jA 47 (qS 46),jA 48 (qB 44 47)]) (.cond (.t 48) .skip (.exit 0))) (
  .seq (.block 1 (
  .region [qm 51 9,qm 52 51,jC 53 (qM 4) 52,jC 54 (qF 1 1) 52,jC 55 (qL 54) 52,jC 56 (qM 10) 52,jC 57 (qI 1 55 56) 52,jC 58 (qL 57) 52,jC 59 (qI 1 53 58) 52,jC 60 (qL 59) 52,jA 61 (qP 52 60),qm 9 61])) (
  .region [qm 49 10,jA 50 (qA 49 1),qm 10 50])))))) (
  .seq (
  .seq (
  .region [qm 62 6,qm 63 9,jA 64 (.eq true .bool (.t 62) (.t 63)),qm 65 64,jC 66 (qM 8) 65,jC 67 (qM 6) 65,jC 68 (.eq true .bool (.t 66) (.t 67)) 65,jA 69 (qP 65 68)]) (.cond (.t 69) (
  .seq (
  .region [jA 2 (qK false)]) .ret) .skip)) (
  .seq (
  .seq (
  .region [jA 11 (qC 0)]) (.block 2 (.loop (
  .seq (
  .seq (
  .region [qm 70 11,qm 71 4,jA 72 (qS 71),jA 73 (qB 70 72)]) (.cond (.t 73) .skip (.exit 2))) (
  .seq (.block 3 (
  .seq (
  .region [jA 12 (qK false)]) (
  .seq (
  .seq (
  .region [jA 13 (qC 0)]) (.block 4 (.loop (
  .seq (
  .seq (
  .region [qm 76 13,jA 77 (qF 0 1),ql 78 77,jA 79 (qB 76 78)]) (.cond (.t 79) .skip (.exit 4))) (
  .seq (.block 5 (
  .seq (
  .region [jA 14 (qC 0)]) (.block 6 (.loop (
  .seq (
  .seq (
  .region [qm 82 14,jA 83 (qF 2 1),ql 84 83,qm 85 11,jA 86 (qI 1 84 85),ql 87 86,qm 88 13,jA 89 (qI 1 87 88),ql 90 89,jA 91 (qS 90),jA 92 (qB 82 91)]) (.cond (.t 92) .skip (.exit 6))) (
  .seq (.block 7 (
  .region [qm 95 12,qm 96 95,jC 97 (qM 4) 96,jC 98 (qF 2 1) 96,jC 99 (qL 98) 96,jC 100 (qM 11) 96,jC 101 (qI 1 99 100) 96,jC 102 (qL 101) 96,jC 103 (qM 13) 96,jC 104 (qI 1 102 103) 96,jC 105 (qL 104) 96,jC 106 (qM 14) 96,jC 107 (qI 2 105 106) 96,jC 108 (qF 0 107) 96,jC 109 (qL 108) 96,jC 110 (qI 1 97 109) 96,jC 111 (qL 110) 96,jA 112 (qP 96 111),qm 12 112])) (
  .region [qm 93 14,jA 94 (qA 93 1),qm 14 94]))))))) (
  .region [qm 80 13,jA 81 (qA 80 1),qm 13 81])))))) (
  .seq (
  .region [qm 113 12,qm 114 4,qm 115 11,jA 116 (qI 1 114 115),ql 117 116,jA 118 (.eq true .bool (.t 113) (.t 117))]) (.cond (.t 118) (
  .seq (
  .region [jA 2 (qK false)]) .ret) .skip))))) (
  .region [qm 74 11,jA 75 (qA 74 1),qm 11 75])))))) (
  .seq (
  .region [qm 119 3,qm 2 119]) .ret))))))))))))⟩
theorem c7:compFunc Tryd.prog GL [] Tryd.f7=some l7:=by kernel_rfl
def l71:LFunc:=⟨61,[(.tmp 2)],
  (
  .seq (
  .region [jA 2 (.mv (.c .nils))]) (
  .seq (
  .seq (
  .region [qm 6 0,jA 7 (qS 6),jA 8 (.bin .lss (.t 7) (.c (.int .i64 2)))]) (.cond (.t 8) (
  .seq (
  .region [qm 9 0,qm 2 9]) .ret) .skip)) (
  .seq (
  .seq (
  .region [jA 3 (qC 1)]) (.block 0 (.loop (
  .seq (
  .seq (
  .region [qm 10 3,qm 11 0,jA 12 (qS 11),jA 13 (qB 10 12)]) (.cond (.t 13) .skip (.exit 0))) (
  .seq (.block 1 (
  .seq (
  .region [jB 16 (qM 0),jB 17 (qM 3),jB 18 (qI 2 16 17),jB 19 (qN 2 18),jB 20 (qM 0),jB 21 (qM 3),jB 22 (.bin .sub (.t 21) (.c (.int .i64 1))),jB 23 (qI 2 20 22),jB 24 (qN 2 23),jB 25 (.eq false (.struct [(0,(1, .int)),(1,(1, .bool))]) (.t 19) (.t 24))]) (.cond (.t 25) (
  .seq (
  .region [qm 26 0,qm 27 3,jA 28 (.slice 2 (.t 26) (some (.t 27)) none),qm 4 28]) (
  .seq (
  .seq (
  .region [jA 5 (qC 1)]) (.block 2 (.loop (
  .seq (
  .seq (
  .region [qm 29 5,qm 30 4,jA 31 (qS 30),jA 32 (qB 29 31)]) (.cond (.t 32) .skip (.exit 2))) (
  .seq (.block 3 (
  .seq (
  .region [jB 35 (qM 4),jB 36 (qM 5),jB 37 (qI 2 35 36),jB 38 (qN 2 37),jB 39 (qM 4),jB 40 (qM 5),jB 41 (.bin .sub (.t 40) (.c (.int .i64 1))),jB 42 (qI 2 39 41),jB 43 (qN 2 42),jB 44 (.eq true (.struct [(0,(1, .int)),(1,(1, .bool))]) (.t 38) (.t 43))]) (.cond (.t 44) (
  .seq (
  .region [qm 45 0,qm 46 3,qm 47 4,qm 48 5,jA 49 (qI 2 47 48),jA 50 (qN 2 49),jA 51 (qI 2 45 46),jG 2 51 50]) (
  .region [qm 52 3,jA 53 (qA 52 1),qm 3 53])) .skip))) (
  .region [qm 33 5,jA 34 (qA 33 1),qm 5 34])))))) (
  .seq (
  .region [qm 54 0,qm 55 3,jA 56 (.slice 2 (.t 54) (some (.t 55)) none),⟨none,(.clr 2 [(.int .i64 0),(.bool false)] (.t 56)),none,[],false⟩]) (
  .seq (
  .region [qm 57 0,qm 58 3,jA 59 (.slice 2 (.t 57) none (some (.t 58))),qm 2 59]) .ret)))) .skip))) (
  .region [qm 14 3,jA 15 (qA 14 1),qm 3 15])))))) (
  .seq (
  .region [qm 60 0,qm 2 60]) .ret))))⟩
theorem c71:compFunc Tryd.prog GL [] Tryd.f71=some l71:=by kernel_rfl
end Go.Proofs.YtohldpfjnllkdaaDoor
end
section
namespace Go.Proofs.YtohldpfjnllkdaaDoor
open Go Go.Pv
set_option maxRecDepth 100000
def l6:LFunc:=⟨125,[(.tmp 6)],
  (
  .seq (
  .region [jA 3 (qO 0),jA 4 (qO 1),jA 5 (qO 2),jA 6 (qK false)]) (
  .seq (
  .region [jA 14 (.call (.c (.fn (.func 8) [] [])) []),qm 7 14]) (
  .seq (
  .seq (
  .region [jA 15 (qN 3 3),jA 16 (qG 9 15),jA 17 (.un .not (.t 16)),qm 18 17,jC 19 (qN 3 4) 18,jC 20 (qG 9 19) 18,jC 21 (.un .not (.t 20)) 18,jA 22 (qP 18 21),qm 23 22,jC 24 (qN 3 3) 23,jC 25 (qG 18 24) 23,jC 26 (.un .not (.t 25)) 23,jA 27 (qP 23 26),qm 28 27,jC 29 (qN 3 4) 28,jC 30 (qG 18 29) 28,jC 31 (.un .not (.t 30)) 28,jA 32 (qP 28 31),qm 33 32,jC 34 (qF 0 3) 33,jC 35 (qL 34) 33,jC 36 (qF 0 4) 33,jC 37 (qL 36) 33,jC 38 (.bin .neq (.t 35) (.t 37)) 33,jA 39 (qP 33 38),qm 40 39,jC 41 (qF 2 3) 40,jC 42 (qL 41) 40,jC 43 (qS 42) 40,jC 44 (.bin .gtr (.t 43) (.c (.int .i64 6))) 40,jA 45 (qP 40 44),qm 46 45,jC 47 (qF 2 4) 46,jC 48 (qL 47) 46,jC 49 (qS 48) 46,jC 50 (.bin .gtr (.t 49) (.c (.int .i64 6))) 46,jA 51 (qP 46 50),qm 52 51,jC 53 (qN 2 5) 52,jC 54 (qG 20 53) 52,jC 55 (.un .not (.t 54)) 52,jA 56 (qP 52 55)]) (.cond (.t 56) (
  .seq (
  .region [qm 57 7,qm 6 57]) .ret) .skip)) (
  .seq (
  .region [jA 59 (qN 3 3),jA 60 (qN 3 4),jA 61 (.call (.c (.fn (.func 12) [] [])) [(.t 59),(.t 60),(.c (.int .i64 100))]),qm 58 61,jA 62 (.ext (.t 58) 0),jA 63 (.ext (.t 58) 1),jA 64 (.ext (.t 58) 2),jA 8 (.alloc [.nils, .nils]),jG 2 8 62,qm 9 63,qm 10 64]) (
  .seq (
  .region [jA 66 (qN 3 4),jA 67 (qN 3 3),jA 68 (.call (.c (.fn (.func 12) [] [])) [(.t 66),(.t 67),(.c (.int .i64 100))]),qm 65 68,jA 69 (.ext (.t 65) 0),jA 70 (.ext (.t 65) 1),jA 71 (.ext (.t 65) 2),jA 11 (.alloc [.nils, .nils]),jG 2 11 69,qm 12 70,qm 13 71]) (
  .seq (
  .seq (
  .region [qm 72 10,jA 73 (.bin .neq (.t 72) (.c (.int .i64 0))),qm 74 73,jC 75 (qM 13) 74,jC 76 (.bin .neq (.t 75) (.c (.int .i64 0))) 74,jA 77 (qP 74 76),qm 78 77,jC 79 (qM 9) 78,jC 80 (qM 12) 78,jC 81 (.eq true .bool (.t 79) (.t 80)) 78,jA 82 (qP 78 81)]) (.cond (.t 82) (
  .seq (
  .region [jA 6 (qK false)]) .ret) .skip)) (
  .seq (
  .seq (
  .region [qm 83 9,qm 84 83,jD 85 (qF 0 3) 84,jD 86 (qL 85) 84,jD 87 (qN 2 8) 84,jD 88 (.call (.c (.fn (.func 21) [] [])) [(.t 86),(.t 87)]) 84,jA 89 (.pick (.t 84) (.t 88) (.c (.bool false))),qm 90 89,jD 91 (qN 3 3) 90,jD 92 (qN 2 8) 90,jD 93 (.call (.c (.fn (.func 19) [] [])) [(.t 91),(.t 92)]) 90,jD 94 (.un .not (.t 93)) 90,jD 95 (qM 94) 90,jC 96 (qN 3 4) 95,jC 97 (qN 2 8) 95,jC 98 (.call (.c (.fn (.func 19) [] [])) [(.t 96),(.t 97)]) 95,jC 99 (.un .not (.t 98)) 95,jD 100 (qP 95 99) 90,jA 101 (.pick (.t 90) (.t 100) (.c (.bool false)))]) (.cond (.t 101) (
  .seq (
  .region [jA 6 (qK false)]) .ret) .skip)) (
  .seq (
  .region [qm 102 7,qm 103 102,jD 104 (qM 9) 103,jD 105 (qM 104) 103,jC 106 (qF 0 3) 105,jC 107 (qL 106) 105,jC 108 (qN 2 5) 105,jC 109 (.call (.c (.fn (.func 21) [] [])) [(.t 107),(.t 108)]) 105,jC 110 (.un .not (.t 109)) 105,jD 111 (qP 105 110) 103,jD 112 (qM 111) 103,jC 113 (qN 3 3) 112,jC 114 (qN 2 5) 112,jC 115 (.call (.c (.fn (.func 19) [] [])) [(.t 113),(.t 114)]) 112,jC 116 (.un .not (.t 115)) 112,jD 117 (qP 112 116) 103,jD 118 (qM 117) 103,jC 119 (qN 3 4) 118,jC 120 (qN 2 5) 118,jC 121 (.call (.c (.fn (.func 19) [] [])) [(.t 119),(.t 120)]) 118,jC 122 (.un .not (.t 121)) 118,jD 123 (qP 118 122) 103,jA 124 (.pick (.t 103) (.t 123) (.c (.bool false))),qm 6 124]) .ret))))))))⟩
theorem c6:compFunc Tryd.prog GL [] Tryd.f6=some l6:=by kernel_rfl
def l12:LFunc:=⟨31,[(.cell 6 (some 2)),(.tmp 7),(.tmp 8)],
  (
  .seq (
  .region [jA 3 (qO 0),jA 4 (qO 1),jA 6 (.alloc [.nils, .nils]),jA 7 (qK false),jA 8 (qC 0)]) (
  .seq (
  .region [jA 14 (qN 3 3),jA 15 (qN 3 4),qm 16 2,jA 17 (.call (.c (.fn (.func 32) [] [])) [(.t 14),(.t 15),(.t 16)]),qm 13 17,jA 18 (.ext (.t 13) 0),jA 19 (.ext (.t 13) 1),jA 9 (.alloc [(.int .i64 0), .nils, .nils]),jG 3 9 18,qm 10 19]) (
  .seq (
  .seq (
  .region [qm 20 10,jA 21 (.bin .neq (.t 20) (.c (.int .i64 0)))]) (.cond (.t 21) (
  .seq (
  .region [jA 22 (.build [.nils, .nils] []),qm 23 10,jG 2 6 22,jA 7 (qK false),qm 8 23]) .ret) .skip)) (
  .seq (
  .region [jA 25 (qN 3 9),jA 26 (qG 10 25),qm 24 26,jA 27 (.ext (.t 24) 0),jA 28 (.ext (.t 24) 1),jA 11 (.alloc [.nils, .nils]),jG 2 11 27,qm 12 28]) (
  .seq (
  .region [jA 29 (qN 2 11),qm 30 12,jG 2 6 29,qm 7 30,jA 8 (qC 0)]) .ret)))))⟩
theorem c12:compFunc Tryd.prog GL [] Tryd.f12=some l12:=by kernel_rfl
def l32:LFunc:=⟨79,[(.cell 6 (some 3)),(.tmp 7)],
  (
  .seq (
  .region [jA 3 (qO 0),jA 4 (qO 1),jA 6 (.alloc [(.int .i64 0), .nils, .nils]),jA 7 (qC 0)]) (
  .seq (
  .seq (
  .region [jA 14 (qN 3 3),jA 15 (qG 24 14),jA 16 (.un .not (.t 15)),qm 17 16,jC 18 (qN 3 4) 17,jC 19 (qG 24 18) 17,jC 20 (.un .not (.t 19)) 17,jA 21 (qP 17 20),qm 22 21,jC 23 (qF 0 3) 22,jC 24 (qL 23) 22,jC 25 (qF 0 4) 22,jC 26 (qL 25) 22,jC 27 (.bin .neq (.t 24) (.t 26)) 22,jA 28 (qP 22 27),qm 29 28,jC 30 (qM 2) 29,jC 31 (.bin .lss (.t 30) (.c (.int .i64 1))) 29,jA 32 (qP 29 31),qm 33 32,jC 34 (qM 2) 33,jC 35 (.bin .gtr (.t 34) (.c (.int .i64 3000))) 33,jA 36 (qP 33 35)]) (.cond (.t 36) (
  .seq (
  .region [jA 37 (.build [(.int .i64 0), .nils, .nils] []),jG 3 6 37,jA 7 (qC 1)]) .ret) .skip)) (
  .seq (
  .seq (
  .region [jA 38 (qF 1 3),ql 39 38,jA 40 (qS 39),jA 41 (qF 1 4),ql 42 41,jA 43 (qS 42),jA 44 (.bin .mul (.t 40) (.t 43)),qm 45 2,jA 46 (.bin .gtr (.t 44) (.t 45))]) (.cond (.t 46) (
  .seq (
  .region [jA 47 (.build [(.int .i64 0), .nils, .nils] []),jG 3 6 47,jA 7 (qC 2)]) .ret) .skip)) (
  .seq (
  .region [jA 8 (.mv (.c .nils))]) (
  .seq (
  .seq (
  .region [jA 48 (qF 1 3),ql 49 48,jA 50 (qS 49),jA 51 (qC 0)]) (.block 0 (.loop (
  .seq (
  .region [jA 52 (qB 51 50)]) (
  .seq (.cond (.t 52) .skip (.exit 0)) (
  .seq (.block 1 (
  .seq (
  .region [jA 53 (qI 1 49 51),ql 54 53,qm 10 54]) (
  .seq (
  .region [jA 55 (qF 1 4),ql 56 55,jA 57 (qS 56),jA 58 (qC 0)]) (.block 2 (.loop (
  .seq (
  .region [jA 59 (qB 58 57)]) (
  .seq (.cond (.t 59) .skip (.exit 2)) (
  .seq (.block 3 (
  .seq (
  .region [jA 60 (qI 1 56 58),ql 61 60,qm 12 61]) (
  .region [qm 62 8,qm 63 10,qm 64 12,jA 65 (.build [(.int .i64 0),(.int .i64 0),(.int .i64 0)] [(0,(1,(.t 63))),(1,(1,(.t 64)))]),jA 66 (.bslice 3 1 [(.int .i64 0),(.int .i64 0),(.int .i64 0)] [(0,(3,(.t 65)))]),jA 67 (.append 3 24 (.t 62) (.t 66)),qm 8 67]))) (
  .region [jA 68 (qA 58 1),qm 58 68]))))))))) (
  .region [jA 69 (qA 51 1),qm 51 69]))))))) (
  .seq (
  .region [jA 70 (.mkfn (.func 54) [] [(.t 3),(.t 4)]),qm 13 70]) (
  .seq (
  .region [jA 71 (qF 0 3),ql 72 71,qm 73 8,qm 74 2,qm 75 13,jA 76 (.call (.c (.fn (.func 56) [] [])) [(.t 72),(.t 73),(.t 74),(.t 75)]),jA 77 (.ext (.t 76) 0),jA 78 (.ext (.t 76) 1),jG 3 6 77,qm 7 78]) .ret)))))))⟩
theorem c32:compFunc Tryd.prog GL [] Tryd.f32=some l32:=by kernel_rfl
def l54:LFunc:=⟨8,[(.tmp 6)],
  (
  .seq (
  .region [jA 4 (qO 0),jA 5 (qO 1),jA 6 (.mv (.c .nilf))]) (
  .seq (
  .region [jA 7 (.mkfn (.func 55) [] [(.t 2),(.t 4),(.t 5),(.t 3)]),qm 6 7]) .ret))⟩
theorem c54:compFunc Tryd.prog GL [] Tryd.f54=some l54:=by kernel_rfl
def l55:LFunc:=⟨67,[],
  (
  .seq (
  .region [jB 11 (qF 2 1),jB 12 (qL 11),jB 13 (qF 0 2),jB 14 (qL 13),jB 15 (qI 1 12 14),jB 16 (qL 15),jB 17 (qL 3),jB 18 (qI 1 16 17),jB 19 (qL 18),jB 20 (qS 19),jB 21 (qC 0)]) (.block 0 (.loop (
  .seq (
  .region [jA 22 (qB 21 20)]) (
  .seq (.cond (.t 22) .skip (.exit 0)) (
  .seq (.block 1 (
  .seq (
  .region [jA 23 (qI 2 19 21),jA 24 (qN 2 23),jA 7 (.alloc [(.int .i64 0),(.bool false)]),jG 2 7 24]) (
  .seq (
  .region [jB 25 (qF 2 4),jB 26 (qL 25),jB 27 (qF 1 2),jB 28 (qL 27),jB 29 (qI 1 26 28),jB 30 (qL 29),jB 31 (qL 3),jB 32 (qI 1 30 31),jB 33 (qL 32),jB 34 (qS 33),jB 35 (qC 0)]) (.block 2 (.loop (
  .seq (
  .region [jA 36 (qB 35 34)]) (
  .seq (.cond (.t 36) .skip (.exit 2)) (
  .seq (.block 3 (
  .seq (
  .region [jA 37 (qI 2 33 35),jA 38 (qN 2 37),jA 9 (.alloc [(.int .i64 0),(.bool false)]),jG 2 9 38]) (
  .seq (
  .region [jA 39 (qF 2 2),ql 40 39,qm 10 40]) (
  .seq (
  .seq (
  .region [qm 41 10,jA 42 (.bin .eql (.t 41) (.c (.int .i64 0))),qm 43 42,jD 44 (qF 1 7) 43,jD 45 (qL 44) 43,jA 46 (.pick (.t 43) (.t 45) (.c (.bool false)))]) (.cond (.t 46) (
  .region [jA 10 (qC 1)]) .skip)) (
  .seq (
  .seq (
  .region [qm 47 10,jA 48 (.bin .eql (.t 47) (.c (.int .i64 1))),qm 49 48,jD 50 (qF 1 9) 49,jD 51 (qL 50) 49,jA 52 (.pick (.t 49) (.t 51) (.c (.bool false)))]) (.cond (.t 52) (
  .region [jA 10 (qC 2)]) .skip)) (
  .seq (
  .region [qm 53 0,jA 54 (qF 0 7),ql 55 54,jA 56 (qF 0 9),ql 57 56,qm 58 10,jA 59 (.bin .rem (.t 58) (.c (.int .i64 2))),jA 60 (.build [(.int .i64 0),(.int .i64 0),(.int .i64 0)] [(0,(1,(.t 55))),(1,(1,(.t 57))),(2,(1,(.t 59)))]),qm 61 10,jA 62 (.bin .eql (.t 61) (.c (.int .i64 2))),jA 63 (.call (.t 53) [(.t 60),(.t 62)]),jA 64 (.un .not (.t 63))]) (.cond (.t 64) .ret .skip))))))) (
  .region [jA 65 (qA 35 1),qm 35 65]))))))))) (
  .region [jA 66 (qA 21 1),qm 21 66])))))))⟩
theorem c55:compFunc Tryd.prog GL [] Tryd.f55=some l55:=by kernel_rfl
def l56:LFunc:=⟨96,[(.cell 8 (some 3)),(.cell 9 none)],
  (
  .seq (
  .region [jA 6 (qO 2),jA 8 (.alloc [(.int .i64 0), .nils, .nils]),jA 9 (.alloc [(.int .i64 0)])]) (
  .seq (
  .region [jA 22 (.mkmap none),jA 10 (.alloc [.nilm]),jG 1 10 22]) (
  .seq (
  .region [jA 11 (.alloc [.nils])]) (
  .seq (
  .region [jA 23 (.mkfn (.func 76) [] [(.t 10),(.t 11)]),jA 12 (.alloc [.nilf]),jG 1 12 23]) (
  .seq (
  .region [qm 24 0,jA 25 (.build [(.int .i64 0), .nils, .nils] [(0,(1,(.t 24)))]),jA 13 (.alloc [(.int .i64 0), .nils, .nils]),jG 3 13 25]) (
  .seq (
  .seq (
  .region [qm 26 1,jA 27 (qS 26),jA 28 (qC 0)]) (.block 0 (.loop (
  .seq (
  .region [jA 29 (qB 28 27)]) (
  .seq (.cond (.t 29) .skip (.exit 0)) (
  .seq (.block 1 (
  .seq (
  .region [jA 30 (qI 3 26 28),jA 31 (qN 3 30),jA 15 (.alloc [(.int .i64 0),(.int .i64 0),(.int .i64 0)]),jG 3 15 31]) (
  .seq (
  .region [jB 32 (qF 1 13),jB 33 (qL 32),jB 34 (qL 12),jB 35 (qN 3 15),⟨(some 36),(.call (.t 34) [(.t 35)]),none,[(33,(none,(.load none (.t 32))))],true⟩,⟨(some 37),(.bslice 1 1 [(.int .i64 0)] [(0,(1,(.t 36)))]),none,[(33,(none,(.load none (.t 32)))),(34,(none,(.load none (.t 12)))),(35,(none,(.load (some 3) (.t 15))))],true⟩,jB 38 (.append 1 8 (.t 33) (.t 37)),jB 39 (qF 1 13),jH 1 39 38]) (
  .seq (
  .region [ql 40 11,jA 41 (qS 40),ql 42 6,jA 43 (.bin .gtr (.t 41) (.t 42))]) (.cond (.t 43) (
  .seq (
  .region [jA 44 (.build [(.int .i64 0), .nils, .nils] []),jG 3 8 44,⟨none,(.store 1 (.t 9) (.c (.int .i64 2))),none,[],false⟩]) .ret) .skip))))) (
  .region [jA 45 (qA 28 1),qm 28 45]))))))) (
  .seq (
  .seq (
  .region [jA 16 (qC 0)]) (.block 2 (.loop (
  .seq (
  .seq (
  .region [qm 46 16,ql 47 11,jA 48 (qS 47),jA 49 (qB 46 48)]) (.cond (.t 49) .skip (.exit 2))) (
  .seq (.block 3 (
  .seq (
  .region [qm 52 0,jA 53 (.mkslice 1 24 [.nils] (.t 52) (.t 52)),qm 17 53]) (
  .seq (
  .seq (
  .region [qm 54 17,jA 55 (qS 54),jA 56 (qC 0)]) (.block 4 (.loop (
  .seq (
  .region [jA 57 (qB 56 55)]) (
  .seq (.cond (.t 57) .skip (.exit 4)) (
  .seq (.block 5 (
  .seq (
  .region [qm 58 56,qm 18 58]) (
  .seq (
  .region [jA 19 (.alloc [.nils])]) (
  .seq (
  .seq (
  .region [qm 59 3,ql 60 11,qm 61 16,jA 62 (qI 3 60 61),jA 63 (qN 3 62),qm 64 18,jA 65 (.call (.t 59) [(.t 63),(.t 64)])]) (.block 6 (.rangeFunc (.t 65) [66,67] (
  .seq (
  .region [jA 20 (.alloc [(.int .i64 0),(.int .i64 0),(.int .i64 0)]),jG 3 20 66]) (
  .region [qm 21 67])) (.block 7 (
  .seq (
  .region [jB 68 (qL 19),jB 69 (qL 12),jB 70 (qN 3 20),jB 72 (qM 21),⟨(some 71),(.call (.t 69) [(.t 70)]),none,[(68,(none,(.load none (.t 19))))],true⟩,jB 73 (.build [(.int .i64 0),(.bool false)] [(0,(1,(.t 71))),(1,(1,(.t 72)))]),⟨(some 74),(.bslice 2 1 [(.int .i64 0),(.bool false)] [(0,(2,(.t 73)))]),none,[(68,(none,(.load none (.t 19)))),(69,(none,(.load none (.t 12)))),(70,(none,(.load (some 3) (.t 20))))],true⟩,jB 75 (.append 2 16 (.t 68) (.t 74)),jH 1 19 75]) (
  .seq (
  .region [ql 76 11,jA 77 (qS 76),ql 78 6,jA 79 (.bin .gtr (.t 77) (.t 78))]) (.cond (.t 79) (
  .seq (
  .region [jA 80 (.build [(.int .i64 0), .nils, .nils] []),jG 3 8 80,⟨none,(.store 1 (.t 9) (.c (.int .i64 2))),none,[],false⟩]) .ret) .skip))))))) (
  .seq (
  .region [ql 81 19,jA 82 (.call (.c (.fn (.func 70) [] [])) [(.t 81),(.c (.fn (.func 47) [] []))])]) (
  .region [qm 83 17,qm 84 18,ql 85 19,jA 86 (qG 71 85),jA 87 (qI 1 83 84),jG 1 87 86])))))) (
  .region [jA 88 (qA 56 1),qm 56 88]))))))) (
  .region [jA 89 (qF 2 13),ql 90 89,qm 91 17,jA 92 (.bslice 1 1 [.nils] [(0,(1,(.t 91)))]),jA 93 (.append 1 24 (.t 90) (.t 92)),jA 94 (qF 2 13),jG 1 94 93])))) (
  .region [qm 50 16,jA 51 (qA 50 1),qm 16 51])))))) (
  .seq (
  .region [jA 95 (qN 3 13),jG 3 8 95,⟨none,(.store 1 (.t 9) (.c (.int .i64 0))),none,[],false⟩]) .ret))))))))⟩
theorem c56:compFunc Tryd.prog GL [] Tryd.f56=some l56:=by kernel_rfl
def l76:LFunc:=⟨25,[(.tmp 4)],
  (
  .seq (
  .region [jA 3 (qO 0),jA 4 (qC 0)]) (
  .seq (
  .region [ql 8 1,jA 9 (qN 3 3),jA 10 (.mlook (.st [(0,(1, .int)),(1,(1, .int)),(2,(1, .int))]) (.int .i64 0) true (.t 8) (.t 9)),qm 7 10,jA 11 (.ext (.t 7) 0),jA 12 (.ext (.t 7) 1),qm 5 11,qm 6 12]) (
  .seq (
  .seq (
  .region [qm 13 6,jA 14 (.un .not (.t 13))]) (.cond (.t 14) (
  .seq (
  .region [ql 15 2,jA 16 (qS 15),qm 5 16]) (
  .seq (
  .region [ql 17 1,jA 18 (qN 3 3),qm 19 5,⟨none,(.mupd (.st [(0,(1, .int)),(1,(1, .int)),(2,(1, .int))]) (.t 17) (.t 18) (.t 19)),none,[],false⟩]) (
  .region [ql 20 2,jA 21 (qN 3 3),jA 22 (.bslice 3 1 [(.int .i64 0),(.int .i64 0),(.int .i64 0)] [(0,(3,(.t 21)))]),jA 23 (.append 3 24 (.t 20) (.t 22)),jG 1 2 23]))) .skip)) (
  .seq (
  .region [qm 24 5,qm 4 24]) .ret))))⟩
theorem c76:compFunc Tryd.prog GL [] Tryd.f76=some l76:=by kernel_rfl
end Go.Proofs.YtohldpfjnllkdaaDoor
end
