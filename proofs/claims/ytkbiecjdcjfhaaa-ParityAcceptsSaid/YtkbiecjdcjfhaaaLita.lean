/- Plain forms of functions, by program. -/
import Derived.Test.YtkbiecjdcjfhaaaProg
import Derived.Test.YtkbiecjdcjfhaaaPvComp
import Derived.Test.YtkbiecjdcjfhaaaGl
import Derived.KernelRfl
set_option linter.unusedSimpArgs false
set_option linter.unusedVariables false
set_option maxRecDepth 100000
set_option maxHeartbeats 16000000
namespace Go.Proofs.Ytkbiecjdcjfhaaa
open Go Go.Pv
def l3:aZ:=⟨40,[(.tmp 4)],
 (
 .seq (
 .region [jA 2 (qO 0),jA 3 (qO 1),jA 4 (qK false)]) (
 .seq (
 .region [jA 8 (.call (.c (.fn (.func 5) [] [])) []),qm 5 8]) (
 .seq (
 .seq (
 .region [jA 9 (qN 3 2),jA 10 (qN 2 3),jA 11 (.call (.c (.fn (.func 6) [] [])) [(.t 9),(.t 10)]),jA 12 (.un .not (.t 11))]) (.cond (.t 12) (
 .seq (
 .region [qm 13 5,qm 4 13]) .ret) .skip)) (
 .seq (
 .region [jA 15 (qN 3 2),jA 16 (.call (.c (.fn (.func 7) [] [])) [(.t 15),(.c (.int .i64 150))]),qm 14 16,jA 17 (.ext (.t 14) 0),jA 18 (.ext (.t 14) 1),jA 6 (.alloc [(.int .i64 0),(.int .i64 0), .aj, .aj]),jG 4 6 17,qm 7 18]) (
 .seq (
 .seq (
 .region [qm 19 7,jA 20 (.bin .neq (.t 19) (.c (.int .i64 0)))]) (.cond (.t 20) (
 .seq (
 .region [qm 21 5,qm 22 21,jD 23 (qM 7) 22,jD 24 (.bin .eql (.t 23) (.c (.int .i64 2))) 22,jA 25 (.pick (.t 22) (.t 24) (.c (.bool false))),qm 4 25]) .ret) .skip)) (
 .seq (
 .region [jB 26 (qM 5),jB 27 (qM 26),jE 28 (qN 4 6) 27,jE 29 (qG 8 28) 27,jB 30 (.pick (.t 27) (.t 29) (.c (.bool false))),jB 31 (qM 30),jE 32 (qN 4 6) 31,jE 33 (qN 2 3) 31,jE 35 (qN 3 2) 31,jE 36 (qN 2 3) 31,⟨(some 34),(.call (.c (.fn (.func 9) [] [])) [(.t 32),(.t 33)]),(some (31,true)),[(35,((some (31,true)),(.load (some 3) (.t 2)))),(36,((some (31,true)),(.load (some 2) (.t 3))))],true⟩,jE 37 (.call (.c (.fn (.func 10) [] [])) [(.t 35),(.t 36)]) 31,jE 38 (.eq false .bool (.t 34) (.t 37)) 31,jB 39 (.pick (.t 31) (.t 38) (.c (.bool false))),jB 4 (qM 39)]) .ret))))))⟩
theorem c3:aF Try.prog GL [] Try.f3=some l3:=by kernel_rfl
def l5:aZ:=⟨152,[(.tmp 0)],
 (
 .seq (
 .region [jA 0 (qK false)]) (
 .seq (
 .region [jA 16 (.call (.c (.fn (.func 13) [] [])) []),jA 1 (.alloc [(.int .i64 0), .aj, .aj]),jG 3 1 16]) (
 .seq (
 .region [jA 18 (qN 3 1),jA 19 (.call (.c (.fn (.func 7) [] [])) [(.t 18),(.c (.int .i64 150))]),qm 17 19,jA 20 (.ext (.t 17) 0),jA 21 (.ext (.t 17) 1),jA 2 (.alloc [(.int .i64 0),(.int .i64 0), .aj, .aj]),jG 4 2 20,qm 3 21]) (
 .seq (
 .seq (
 .region [qm 22 3,jA 23 (.bin .neq (.t 22) (.c (.int .i64 0))),qm 24 23,jC 25 (qF 2 2) 24,jC 26 (qL 25) 24,jC 27 (qS 26) 24,jC 28 (.bin .eql (.t 27) (.c (.int .i64 0))) 24,jA 29 (qP 24 28),qm 30 29,jC 31 (qN 4 2) 30,jC 32 (qG 8 31) 30,jC 33 (.un .not (.t 32)) 30,jA 34 (qP 30 33)]) (.cond (.t 34) (
 .seq (
 .region [jA 0 (qK false)]) .ret) .skip)) (
 .seq (
 .region [jA 35 (.bt 1 1 [(.int .i64 0)] [(0,(1,(.c (.int .i64 1))))]),jA 36 (.build [.aj, .aj] [(1,(1,(.t 35)))]),jA 4 (.alloc [.aj, .aj]),jG 2 4 36]) (
 .seq (
 .region [jA 37 (.bt 1 2 [(.int .i64 0)] [(0,(1,(.c (.int .i64 0)))),(1,(1,(.c (.int .i64 1))))]),jA 38 (.build [.aj, .aj] [(1,(1,(.t 37)))]),jA 5 (.alloc [.aj, .aj]),jG 2 5 38]) (
 .seq (
 .region [jA 39 (.bt 1 2 [(.int .i64 0)] [(0,(1,(.c (.int .i64 0)))),(1,(1,(.c (.int .i64 0))))]),jA 40 (.bt 1 1 [(.int .i64 0)] [(0,(1,(.c (.int .i64 1))))]),jA 41 (.build [.aj, .aj] [(0,(1,(.t 39))),(1,(1,(.t 40)))]),jA 6 (.alloc [.aj, .aj]),jG 2 6 41]) (
 .seq (
 .region [jA 42 (qN 4 2),jA 43 (qG 14 42),jA 7 (.alloc [(.int .i64 0),(.int .i64 0), .aj, .aj]),jG 4 7 43]) (
 .seq (
 .region [jA 45 (qN 3 1),jA 46 (.call (.c (.fn (.func 7) [] [])) [(.t 45),(.c (.int .i64 1))]),qm 44 46,jA 47 (.ext (.t 44) 0),jA 48 (.ext (.t 44) 1),jA 8 (.alloc [(.int .i64 0),(.int .i64 0), .aj, .aj]),jG 4 8 47,qm 9 48]) (
 .seq (
 .region [jA 50 (qN 3 1),jA 51 (.call (.c (.fn (.func 7) [] [])) [(.t 50),(.c (.int .i64 0))]),qm 49 51,jA 52 (.ext (.t 49) 0),jA 53 (.ext (.t 49) 1),jA 10 (.alloc [(.int .i64 0),(.int .i64 0), .aj, .aj]),jG 4 10 52,qm 11 53]) (
 .seq (
 .region [jA 54 (qN 4 2),jA 55 (qN 2 4),jA 56 (.call (.c (.fn (.func 9) [] [])) [(.t 54),(.t 55)]),qm 57 56,jD 58 (qN 4 2) 57,jD 59 (qN 2 5) 57,jD 60 (.call (.c (.fn (.func 9) [] [])) [(.t 58),(.t 59)]) 57,jD 61 (.un .not (.t 60)) 57,jA 62 (.pick (.t 57) (.t 61) (.c (.bool false))),qm 63 62,jD 64 (qN 4 2) 63,jD 65 (qN 2 6) 63,jD 66 (.call (.c (.fn (.func 9) [] [])) [(.t 64),(.t 65)]) 63,jA 67 (.pick (.t 63) (.t 66) (.c (.bool false))),qm 68 67,jD 69 (qN 4 7) 68,jD 70 (qN 2 4) 68,jD 71 (.call (.c (.fn (.func 9) [] [])) [(.t 69),(.t 70)]) 68,jD 72 (.un .not (.t 71)) 68,jA 73 (.pick (.t 68) (.t 72) (.c (.bool false))),qm 74 73,jD 75 (qN 4 7) 74,jD 76 (qN 2 5) 74,jD 77 (.call (.c (.fn (.func 9) [] [])) [(.t 75),(.t 76)]) 74,jA 78 (.pick (.t 74) (.t 77) (.c (.bool false))),qm 12 78]) (
 .seq (
 .region [jA 79 (.bt 1 1 [(.int .i64 0)] [(0,(1,(.c (.int .i64 1))))]),jA 80 (.bt 1 1 [(.int .i64 0)] [(0,(1,(.c (.int .i64 0))))]),jA 81 (.bt 1 2 [.aj] [(0,(1,(.t 79))),(1,(1,(.t 80)))]),jA 82 (.bt 1 1 [(.int .i64 0)] [(0,(1,(.c (.int .i64 3))))]),jA 83 (.bt 1 1 [(.int .i64 0)] [(0,(1,(.c (.int .i64 2))))]),jA 84 (.bt 1 2 [.aj] [(0,(1,(.t 82))),(1,(1,(.t 83)))]),jA 85 (.build [(.int .i64 0),(.int .i64 0), .aj, .aj] [(0,(1,(.c (.int .i64 1)))),(2,(1,(.t 81))),(3,(1,(.t 84)))]),jA 13 (.alloc [(.int .i64 0),(.int .i64 0), .aj, .aj]),jG 4 13 85]) (
 .seq (
 .region [jA 86 (.bt 1 1 [(.int .i64 0)] [(0,(1,(.c (.int .i64 1))))]),jA 87 (.bt 1 1 [(.int .i64 0)] [(0,(1,(.c (.int .i64 1))))]),jA 88 (.bt 1 2 [.aj] [(0,(1,(.t 86))),(1,(1,(.t 87)))]),jA 89 (.bt 1 1 [(.int .i64 0)] [(0,(1,(.c (.int .i64 0))))]),jA 90 (.bt 1 1 [(.int .i64 0)] [(0,(1,(.c (.int .i64 5))))]),jA 91 (.bt 1 2 [.aj] [(0,(1,(.t 89))),(1,(1,(.t 90)))]),jA 92 (.build [(.int .i64 0),(.int .i64 0), .aj, .aj] [(0,(1,(.c (.int .i64 1)))),(2,(1,(.t 88))),(3,(1,(.t 91)))]),jA 14 (.alloc [(.int .i64 0),(.int .i64 0), .aj, .aj]),jG 4 14 92]) (
 .seq (
 .region [jA 93 (qN 4 13),jA 94 (.bt 1 1 [(.int .i64 0)] [(0,(1,(.c (.int .i64 0))))]),jA 95 (.build [.aj, .aj] [(1,(1,(.t 94)))]),jA 96 (.call (.c (.fn (.func 9) [] [])) [(.t 93),(.t 95)]),qm 97 96,jD 98 (qN 4 14) 97,jD 99 (.bt 1 1 [(.int .i64 0)] [(0,(1,(.c (.int .i64 0))))]) 97,jD 100 (.build [.aj, .aj] [(1,(1,(.t 99)))]) 97,jD 101 (.call (.c (.fn (.func 9) [] [])) [(.t 98),(.t 100)]) 97,jD 102 (.un .not (.t 101)) 97,jA 103 (.pick (.t 97) (.t 102) (.c (.bool false))),qm 104 103,jD 105 (qN 4 13) 104,jD 106 (.bt 1 1 [(.int .i64 0)] [(0,(1,(.c (.int .i64 1))))]) 104,jD 107 (.build [.aj, .aj] [(1,(1,(.t 106)))]) 104,jD 108 (.call (.c (.fn (.func 9) [] [])) [(.t 105),(.t 107)]) 104,jD 109 (.un .not (.t 108)) 104,jA 110 (.pick (.t 104) (.t 109) (.c (.bool false))),qm 111 110,jD 112 (.build [(.int .i64 0),(.int .i64 0), .aj, .aj] []) 111,jD 113 (qG 8 112) 111,jD 114 (.un .not (.t 113)) 111,jA 115 (.pick (.t 111) (.t 114) (.c (.bool false))),qm 15 115]) (
 .seq (
 .region [qm 116 12,qm 117 116,jD 118 (qM 15) 117,jA 119 (.pick (.t 117) (.t 118) (.c (.bool false))),qm 120 119,jD 121 (qM 9) 120,jD 122 (.bin .eql (.t 121) (.c (.int .i64 2))) 120,jA 123 (.pick (.t 120) (.t 122) (.c (.bool false))),qm 124 123,jD 125 (qM 11) 124,jD 126 (.bin .eql (.t 125) (.c (.int .i64 1))) 124,jA 127 (.pick (.t 124) (.t 126) (.c (.bool false))),qm 128 127,jD 129 (qN 3 1) 128,jD 130 (qG 15 129) 128,jA 131 (.pick (.t 128) (.t 130) (.c (.bool false))),qm 132 131,jD 133 (qN 3 1) 132,jD 134 (qN 2 6) 132,jD 135 (.call (.c (.fn (.func 10) [] [])) [(.t 133),(.t 134)]) 132,jA 136 (.pick (.t 132) (.t 135) (.c (.bool false))),qm 137 136,jD 138 (qN 2 5) 137,jD 139 (.call (.c (.fn (.func 16) [] [])) [(.c (.int .i64 2)),(.t 138)]) 137,jA 140 (.pick (.t 137) (.t 139) (.c (.bool false))),qm 141 140,jD 142 (qN 3 1) 141,jD 143 (qG 17 142) 141,jD 144 (qS 143) 141,jD 145 (.bin .eql (.t 144) (.c (.int .i64 1))) 141,jA 146 (.pick (.t 141) (.t 145) (.c (.bool false))),qm 147 146,jD 148 (.call (.c (.fn (.func 18) [] [])) [(.c (.int .i64 4))]) 147,jD 149 (qS 148) 147,jD 150 (.bin .eql (.t 149) (.c (.int .i64 4))) 147,jA 151 (.pick (.t 147) (.t 150) (.c (.bool false))),qm 0 151]) .ret)))))))))))))))⟩
theorem c5:aF Try.prog GL [] Try.f5=some l5:=by kernel_rfl
def l6:aZ:=⟨21,[(.tmp 4)],
 (
 .seq (
 .region [jA 2 (qO 0),jA 3 (qO 1),jA 4 (qK false)]) (
 .seq (
 .region [jA 5 (qN 3 2),jA 6 (qG 11 5),qm 7 6,jD 8 (qN 3 2) 7,jD 9 (qG 12 8) 7,jA 10 (.pick (.t 7) (.t 9) (.c (.bool false))),qm 11 10,jD 12 (qN 2 3) 11,jD 13 (qG 19 12) 11,jA 14 (.pick (.t 11) (.t 13) (.c (.bool false))),qm 15 14,jD 16 (qF 0 2) 15,jD 17 (qL 16) 15,jD 18 (qN 2 3) 15,jD 19 (.call (.c (.fn (.func 20) [] [])) [(.t 17),(.t 18)]) 15,jA 20 (.pick (.t 15) (.t 19) (.c (.bool false))),qm 4 20]) .ret))⟩
theorem c6:aF Try.prog GL [] Try.f6=some l6:=by kernel_rfl
def l7:aZ:=⟨53,[(.cell 4 (some 4)),(.tmp 5)],
 (
 .seq (
 .region [jA 2 (qO 0),jA 4 (.alloc [(.int .i64 0),(.int .i64 0), .aj, .aj]),jA 5 (qC 0)]) (
 .seq (
 .seq (
 .region [jA 10 (qN 3 2),jA 11 (qG 15 10),jA 12 (.un .not (.t 11)),qm 13 12,jC 14 (qM 1) 13,jC 15 (.bin .lss (.t 14) (.c (.int .i64 1))) 13,jA 16 (qP 13 15),qm 17 16,jC 18 (qM 1) 17,jC 19 (.bin .gtr (.t 18) (.c (.int .i64 3000))) 17,jA 20 (qP 17 19)]) (.cond (.t 20) (
 .seq (
 .region [jA 21 (.build [(.int .i64 0),(.int .i64 0), .aj, .aj] []),jG 4 4 21,jA 5 (qC 1)]) .ret) .skip)) (
 .seq (
 .region [jA 22 (qF 0 2),ql 23 22,jA 24 (.build [(.int .i64 0),(.int .i64 0), .aj, .aj] [(0,(1,(.t 23)))]),jA 6 (.alloc [(.int .i64 0),(.int .i64 0), .aj, .aj]),jG 4 6 24]) (
 .seq (
 .region [jA 25 (qN 3 2),qm 26 1,jA 27 (.call (.c (.fn (.func 21) [] [])) [(.t 25),(.t 26)]),qm 7 27]) (
 .seq (
 .seq (
 .region [qm 28 7,jA 29 (qG 22 28)]) (.block 0 (.rangeFunc (.t 29) [30,31] (
 .seq (
 .region [qm 8 30]) (
 .region [qm 9 31])) (.block 1 (
 .seq (
 .region [jA 32 (qF 2 6),ql 33 32,qm 34 8,jA 35 (.bt 1 1 [.aj] [(0,(1,(.t 34)))]),jA 36 (.append 1 24 (.t 33) (.t 35)),jA 37 (qF 2 6),jG 1 37 36]) (
 .region [jA 38 (qF 3 6),ql 39 38,qm 40 9,jA 41 (.bt 1 1 [.aj] [(0,(1,(.t 40)))]),jA 42 (.append 1 24 (.t 39) (.t 41)),jA 43 (qF 3 6),jG 1 43 42])))))) (
 .seq (
 .seq (
 .region [qm 44 7,jA 45 (.bP (.t 44)),jA 46 (qF 7 45),ql 47 46,jA 48 (qS 47),qm 49 1,jA 50 (.bin .gtr (.t 48) (.t 49))]) (.cond (.t 50) (
 .seq (
 .region [jA 51 (.build [(.int .i64 0),(.int .i64 0), .aj, .aj] []),jG 4 4 51,jA 5 (qC 2)]) .ret) .skip)) (
 .seq (
 .region [jA 52 (qN 4 6),jG 4 4 52,jA 5 (qC 0)]) .ret)))))))⟩
theorem c7:aF Try.prog GL [] Try.f7=some l7:=by kernel_rfl
def l8:aZ:=⟨107,[(.tmp 2)],
 (
 .seq (
 .region [jA 1 (qO 0),jA 2 (qK false)]) (
 .seq (
 .region [jA 8 (qF 2 1),ql 9 8,jA 10 (qS 9),qm 3 10]) (
 .seq (
 .seq (
 .region [jA 11 (qF 0 1),ql 12 11,jA 13 (.bin .lss (.t 12) (.c (.int .i64 1))),qm 14 13,jC 15 (qF 0 1) 14,jC 16 (qL 15) 14,jC 17 (.bin .gtr (.t 16) (.c (.int .i64 64))) 14,jA 18 (qP 14 17),qm 19 18,jC 20 (qM 3) 19,jC 21 (.bin .lss (.t 20) (.c (.int .i64 1))) 19,jA 22 (qP 19 21),qm 23 22,jC 24 (qM 3) 23,jC 25 (.bin .gtr (.t 24) (.c (.int .i64 3000))) 23,jA 26 (qP 23 25),qm 27 26,jC 28 (qF 3 1) 27,jC 29 (qL 28) 27,jC 30 (qS 29) 27,jC 31 (qM 3) 27,jC 32 (.bin .neq (.t 30) (.t 31)) 27,jA 33 (qP 27 32),qm 34 33,jC 35 (qF 1 1) 34,jC 36 (qL 35) 34,jC 37 (.bin .lss (.t 36) (.c (.int .i64 0))) 34,jA 38 (qP 34 37),qm 39 38,jC 40 (qF 1 1) 39,jC 41 (qL 40) 39,jC 42 (qM 3) 39,jC 43 (.bin .geq (.t 41) (.t 42)) 39,jA 44 (qP 39 43)]) (.cond (.t 44) (
 .seq (
 .region [jA 2 (qK false)]) .ret) .skip)) (
 .seq (
 .seq (
 .region [jA 45 (qF 2 1),ql 46 45,jA 47 (qS 46),jA 48 (qC 0)]) (.block 0 (.loop (
 .seq (
 .region [jA 49 (qB 48 47)]) (
 .seq (.cond (.t 49) .skip (.exit 0)) (
 .seq (.block 1 (
 .seq (
 .region [qm 50 48,jA 51 (qI 1 46 48),ql 52 51,qm 4 50,qm 5 52]) (
 .seq (
 .seq (
 .region [jB 53 (qM 5),jB 54 (qS 53),jB 55 (qF 0 1),jB 56 (qL 55),jB 57 (.bin .neq (.t 54) (.t 56)),jB 58 (qM 57),jF 59 (qF 3 1) 58,jF 60 (qL 59) 58,jF 61 (qM 4) 58,jF 62 (qI 1 60 61) 58,jF 63 (qL 62) 58,jF 64 (qS 63) 58,jF 65 (qF 0 1) 58,jF 66 (qL 65) 58,jF 67 (.bin .neq (.t 64) (.t 66)) 58,jB 68 (qP 58 67)]) (.cond (.t 68) (
 .seq (
 .region [jA 2 (qK false)]) .ret) .skip)) (
 .seq (
 .region [qm 69 5,jA 70 (qS 69),jA 71 (qC 0)]) (.block 2 (.loop (
 .seq (
 .region [jA 72 (qB 71 70)]) (
 .seq (.cond (.t 72) .skip (.exit 2)) (
 .seq (.block 3 (
 .seq (
 .region [qm 73 71,jA 74 (qI 1 69 71),ql 75 74,qm 6 73,qm 7 75]) (
 .seq (
 .region [qm 76 7,jA 77 (.bin .lss (.t 76) (.c (.int .i64 0))),qm 78 77,jC 79 (qM 7) 78,jC 80 (qM 3) 78,jC 81 (.bin .geq (.t 79) (.t 80)) 78,jA 82 (qP 78 81),qm 83 82,jC 84 (qF 3 1) 83,jC 85 (qL 84) 83,jC 86 (qM 4) 83,jC 87 (qI 1 85 86) 83,jC 88 (qL 87) 83,jC 89 (qM 6) 83,jC 90 (qI 1 88 89) 83,jC 91 (qL 90) 83,jC 92 (.bin .lss (.t 91) (.c (.int .i64 0))) 83,jA 93 (qP 83 92),qm 94 93,jC 95 (qF 3 1) 94,jC 96 (qL 95) 94,jC 97 (qM 4) 94,jC 98 (qI 1 96 97) 94,jC 99 (qL 98) 94,jC 100 (qM 6) 94,jC 101 (qI 1 99 100) 94,jC 102 (qL 101) 94,jC 103 (.bin .gtr (.t 102) (.c (.int .i64 20000))) 94,jA 104 (qP 94 103)]) (.cond (.t 104) (
 .seq (
 .region [jA 2 (qK false)]) .ret) .skip)))) (
 .region [jA 105 (qA 71 1),qm 71 105])))))))))) (
 .region [jA 106 (qA 48 1),qm 48 106]))))))) (
 .seq (
 .region [jA 2 (qK true)]) .ret)))))⟩
theorem c8:aF Try.prog GL [] Try.f8=some l8:=by kernel_rfl
def l9:aZ:=⟨53,[(.tmp 4)],
 (
 .seq (
 .region [jA 2 (qO 0),jA 3 (qO 1),jA 4 (qK false)]) (
 .seq (
 .seq (
 .region [jA 11 (qN 4 2),jA 12 (qG 8 11),jA 13 (.un .not (.t 12)),qm 14 13,jC 15 (qF 0 2) 14,jC 16 (qL 15) 14,jC 17 (qN 2 3) 14,jC 18 (.call (.c (.fn (.func 16) [] [])) [(.t 16),(.t 17)]) 14,jC 19 (.un .not (.t 18)) 14,jA 20 (qP 14 19)]) (.cond (.t 20) (
 .seq (
 .region [jA 4 (qK false)]) .ret) .skip)) (
 .seq (
 .region [jA 21 (qF 1 2),ql 22 21,jA 5 (.alloc [(.int .i64 0)]),jG 1 5 22]) (
 .seq (
 .region [jA 23 (.su (.func 23) [] [(.t 2),(.t 5)]),qm 6 23]) (
 .seq (
 .region [qm 24 6,jA 25 (qF 0 3),ql 26 25,jA 27 (.call (.t 24) [(.t 26)])]) (
 .seq (
 .region [jA 7 (.mv (.c .aj))]) (
 .seq (
 .region [jA 28 (.iq none),qm 8 28]) (.block 0 (.loop (.block 1 (
 .seq (
 .region [qm 30 8,ql 31 5,jA 32 (.eD (.int .i64) (.int .i64 0) true (.t 30) (.t 31)),qm 29 32,jA 33 (.ext (.t 29) 0),jA 34 (.ext (.t 29) 1),qm 9 33,qm 10 34]) (
 .seq (
 .seq (
 .region [qm 35 10]) (.cond (.t 35) (
 .seq (
 .region [qm 36 7,qm 37 9,jA 38 (.slice 1 (.t 36) (some (.t 37)) none),jA 39 (qG 24 38),jA 40 (.bin .rem (.t 39) (.c (.int .i64 2))),jA 41 (.bin .eql (.t 40) (.c (.int .i64 0))),qm 4 41]) .ret) .skip)) (
 .seq (
 .region [qm 42 8,ql 43 5,qm 44 7,jA 45 (qS 44),⟨none,(.lQ (.int .i64) (.t 42) (.t 43) (.t 45)),none,[],false⟩]) (
 .region [qm 46 7,qm 47 6,jA 48 (qF 1 3),ql 49 48,jA 50 (.call (.t 47) [(.t 49)]),jA 51 (.bt 1 1 [(.int .i64 0)] [(0,(1,(.t 50)))]),jA 52 (.append 1 8 (.t 46) (.t 51)),qm 7 52]))))))))))))))⟩
theorem c9:aF Try.prog GL [] Try.f9=some l9:=by kernel_rfl
def l10:aZ:=⟨33,[(.tmp 4)],
 (
 .seq (
 .region [jA 2 (qO 0),jA 3 (qO 1),jA 4 (qK false)]) (
 .seq (
 .seq (
 .region [jA 9 (qN 3 2),jA 10 (qG 15 9),jA 11 (.un .not (.t 10)),qm 12 11,jC 13 (qF 0 2) 12,jC 14 (qL 13) 12,jC 15 (qN 2 3) 12,jC 16 (.call (.c (.fn (.func 16) [] [])) [(.t 14),(.t 15)]) 12,jC 17 (.un .not (.t 16)) 12,jA 18 (qP 12 17)]) (.cond (.t 18) (
 .seq (
 .region [jA 4 (qK false)]) .ret) .skip)) (
 .seq (
 .region [jA 19 (qN 3 2),jA 20 (qN 2 3),jA 21 (.call (.c (.fn (.func 25) [] [])) [(.t 19),(.t 20)]),jA 5 (.alloc [(.int .i64 0), .aj, .aj, .aj,(.int .i64 0)]),jG 5 5 21]) (
 .seq (
 .region [jB 23 (qN 5 5),jB 24 (qN 5 5),jB 25 (qN 5 5),⟨(some 6),(.alloc [(.int .i64 0),(.int .i64 0)]),none,[(23,(none,(.load (some 5) (.t 5)))),(24,(none,(.load (some 5) (.t 5)))),(25,(none,(.load (some 5) (.t 5))))],true⟩,⟨(some 7),(.alloc [(.int .i64 0),(.int .i64 0)]),none,[(23,(none,(.load (some 5) (.t 5)))),(24,(none,(.load (some 5) (.t 5)))),(25,(none,(.load (some 5) (.t 5))))],true⟩,⟨(some 26),(.call (.c (.fn (.func 28) [] [])) [(.t 25)]),none,[(23,(none,(.load (some 5) (.t 5)))),(24,(none,(.load (some 5) (.t 5))))],true⟩,⟨(some 27),(.call (.c (.fn (.func 27) [] [])) [(.t 24),(.t 26)]),none,[(23,(none,(.load (some 5) (.t 5))))],true⟩,jB 28 (.call (.c (.fn (.func 26) [] [])) [(.t 23),(.t 27)]),jB 22 (qM 28),jB 29 (.ext (.t 22) 0),jB 30 (.ext (.t 22) 1),jB 31 (.ext (.t 22) 2),jH 2 6 29,jH 2 7 30,jB 8 (qM 31)]) (
 .seq (
 .region [qm 32 8,qm 4 32]) .ret)))))⟩
theorem c10:aF Try.prog GL [] Try.f10=some l10:=by kernel_rfl
def l11:aZ:=⟨54,[(.tmp 2)],
 (
 .seq (
 .region [jA 1 (qO 0),jA 2 (qK false)]) (
 .seq (
 .seq (
 .region [jA 5 (qF 0 1),ql 6 5,jA 7 (.bin .gtr (.t 6) (.c (.int .i64 20))),qm 8 7,jC 9 (qF 1 1) 8,jC 10 (qL 9) 8,jC 11 (qS 10) 8,jC 12 (.bin .gtr (.t 11) (.c (.int .i64 20))) 8,jA 13 (qP 8 12),qm 14 13,jC 15 (qF 2 1) 14,jC 16 (qL 15) 14,jC 17 (qS 16) 14,jC 18 (.bin .gtr (.t 17) (.c (.int .i64 10))) 14,jA 19 (qP 14 18)]) (.cond (.t 19) (
 .seq (
 .region [jA 2 (qK false)]) .ret) .skip)) (
 .seq (
 .seq (
 .region [jA 3 (qC 0)]) (.block 0 (.loop (
 .seq (
 .seq (
 .region [qm 20 3,jA 21 (qF 2 1),ql 22 21,jA 23 (qS 22),jA 24 (qB 20 23)]) (.cond (.t 24) .skip (.exit 0))) (
 .seq (.block 1 (
 .seq (
 .seq (
 .region [jA 27 (qF 2 1),ql 28 27,qm 29 3,jA 30 (qI 1 28 29),ql 31 30,jA 32 (qS 31),jA 33 (.bin .gtr (.t 32) (.c (.int .i64 20)))]) (.cond (.t 33) (
 .seq (
 .region [jA 2 (qK false)]) .ret) .skip)) (
 .seq (
 .region [jA 4 (qC 0)]) (.block 2 (.loop (
 .seq (
 .seq (
 .region [qm 34 4,jA 35 (qF 2 1),ql 36 35,qm 37 3,jA 38 (qI 1 36 37),ql 39 38,jA 40 (qS 39),jA 41 (qB 34 40)]) (.cond (.t 41) .skip (.exit 2))) (
 .seq (.block 3 (
 .seq (
 .region [jA 44 (qF 2 1),ql 45 44,qm 46 3,jA 47 (qI 1 45 46),ql 48 47,qm 49 4,jA 50 (qI 1 48 49),ql 51 50,jA 52 (qS 51),jA 53 (.bin .gtr (.t 52) (.c (.int .i64 20)))]) (.cond (.t 53) (
 .seq (
 .region [jA 2 (qK false)]) .ret) .skip))) (
 .region [qm 42 4,jA 43 (qA 42 1),qm 4 43])))))))) (
 .region [qm 25 3,jA 26 (qA 25 1),qm 3 26])))))) (
 .seq (
 .region [jA 2 (qK true)]) .ret))))⟩
theorem c11:aF Try.prog GL [] Try.f11=some l11:=by kernel_rfl
def l12:aZ:=⟨134,[(.tmp 2)],
 (
 .seq (
 .region [jA 1 (qO 0),jA 2 (qK false)]) (
 .seq (
 .seq (
 .region [jA 8 (qF 0 1),ql 9 8,jA 10 (.bin .lss (.t 9) (.c (.int .i64 1))),qm 11 10,jC 12 (qF 0 1) 11,jC 13 (qL 12) 11,jC 14 (.bin .gtr (.t 13) (.c (.int .i64 64))) 11,jA 15 (qP 11 14),qm 16 15,jC 17 (qF 2 1) 16,jC 18 (qL 17) 16,jC 19 (qS 18) 16,jC 20 (.bin .gtr (.t 19) (.c (.int .i64 3000))) 16,jA 21 (qP 16 20)]) (.cond (.t 21) (
 .seq (
 .region [jA 2 (qK false)]) .ret) .skip)) (
 .seq (
 .seq (
 .region [jA 3 (qC 0)]) (.block 0 (.loop (
 .seq (
 .seq (
 .region [qm 22 3,jA 23 (qF 1 1),ql 24 23,jA 25 (qS 24),jA 26 (qB 22 25)]) (.cond (.t 26) .skip (.exit 0))) (
 .seq (.block 1 (
 .seq (
 .region [jB 29 (qF 1 1),jB 30 (qL 29),jB 31 (qM 3),jB 32 (qI 1 30 31),jB 33 (qL 32),jB 34 (.bin .lss (.t 33) (.c (.int .i64 0))),jB 35 (qM 34),jF 36 (qF 1 1) 35,jF 37 (qL 36) 35,jF 38 (qM 3) 35,jF 39 (qI 1 37 38) 35,jF 40 (qL 39) 35,jF 41 (qF 2 1) 35,jF 42 (qL 41) 35,jF 43 (qS 42) 35,jF 44 (.bin .geq (.t 40) (.t 43)) 35,jB 45 (qP 35 44),jB 46 (qM 45),jF 47 (qM 3) 46,jF 48 (.bin .gtr (.t 47) (.c (.int .i64 0))) 46,jF 49 (qM 48) 46,jE 50 (qF 1 1) 49,jE 51 (qL 50) 49,jE 52 (qM 3) 49,jE 53 (.bin .sub (.t 52) (.c (.int .i64 1))) 49,jE 54 (qI 1 51 53) 49,jE 55 (qL 54) 49,jE 56 (qF 1 1) 49,jE 57 (qL 56) 49,jE 58 (qM 3) 49,jE 59 (qI 1 57 58) 49,jE 60 (qL 59) 49,jE 61 (.bin .geq (.t 55) (.t 60)) 49,jF 62 (.pick (.t 49) (.t 61) (.c (.bool false))) 46,jB 63 (qP 46 62)]) (.cond (.t 63) (
 .seq (
 .region [jA 2 (qK false)]) .ret) .skip))) (
 .region [qm 27 3,jA 28 (qA 27 1),qm 3 28])))))) (
 .seq (
 .seq (
 .region [jA 4 (qC 0)]) (.block 2 (.loop (
 .seq (
 .seq (
 .region [qm 64 4,jA 65 (qF 2 1),ql 66 65,jA 67 (qS 66),jA 68 (qB 64 67)]) (.cond (.t 68) .skip (.exit 2))) (
 .seq (.block 3 (
 .seq (
 .seq (
 .region [jB 71 (qF 2 1),jB 72 (qL 71),jB 73 (qM 4),jB 74 (qI 1 72 73),jB 75 (qL 74),jB 76 (qS 75),jB 77 (qF 0 1),jB 78 (qL 77),jB 79 (.bin .neq (.t 76) (.t 78))]) (.cond (.t 79) (
 .seq (
 .region [jA 2 (qK false)]) .ret) .skip)) (
 .seq (
 .region [jA 5 (qC 0)]) (.block 4 (.loop (
 .seq (
 .seq (
 .region [qm 80 5,jA 81 (qF 0 1),ql 82 81,jA 83 (qB 80 82)]) (.cond (.t 83) .skip (.exit 4))) (
 .seq (.block 5 (
 .seq (
 .region [jA 86 (qF 2 1),ql 87 86,qm 88 4,jA 89 (qI 1 87 88),ql 90 89,qm 91 5,jA 92 (qI 1 90 91),ql 93 92,qm 6 93]) (
 .seq (
 .region [jA 7 (qC 0)]) (.block 6 (.loop (
 .seq (
 .seq (
 .region [qm 94 7,qm 95 6,jA 96 (qS 95),jA 97 (qB 94 96)]) (.cond (.t 97) .skip (.exit 6))) (
 .seq (.block 7 (
 .seq (
 .region [jB 100 (qM 6),jB 101 (qM 7),jB 102 (qI 2 100 101),jB 103 (qF 0 102),jB 104 (qL 103),jB 105 (.bin .lss (.t 104) (.c (.int .i64 0))),jB 106 (qM 105),jF 107 (qM 6) 106,jF 108 (qM 7) 106,jF 109 (qI 2 107 108) 106,jF 110 (qF 0 109) 106,jF 111 (qL 110) 106,jF 112 (qF 2 1) 106,jF 113 (qL 112) 106,jF 114 (qS 113) 106,jF 115 (.bin .geq (.t 111) (.t 114)) 106,jB 116 (qP 106 115),jB 117 (qM 116),jF 118 (qM 7) 117,jF 119 (.bin .gtr (.t 118) (.c (.int .i64 0))) 117,jF 120 (qM 119) 117,jE 121 (qM 6) 120,jE 122 (qM 7) 120,jE 123 (.bin .sub (.t 122) (.c (.int .i64 1))) 120,jE 124 (qI 2 121 123) 120,jE 125 (qN 2 124) 120,jE 126 (qM 6) 120,jE 127 (qM 7) 120,jE 128 (qI 2 126 127) 120,jE 129 (qN 2 128) 120,jE 130 (.call (.c (.fn (.func 29) [] [])) [(.t 125),(.t 129)]) 120,jE 131 (.un .not (.t 130)) 120,jF 132 (.pick (.t 120) (.t 131) (.c (.bool false))) 117,jB 133 (qP 117 132)]) (.cond (.t 133) (
 .seq (
 .region [jA 2 (qK false)]) .ret) .skip))) (
 .region [qm 98 7,jA 99 (qA 98 1),qm 7 99])))))))) (
 .region [qm 84 5,jA 85 (qA 84 1),qm 5 85])))))))) (
 .region [qm 69 4,jA 70 (qA 69 1),qm 4 70])))))) (
 .seq (
 .region [jA 2 (qK true)]) .ret)))))⟩
theorem c12:aF Try.prog GL [] Try.f12=some l12:=by kernel_rfl
def l15:aZ:=⟨101,[(.tmp 2)],
 (
 .seq (
 .region [jA 1 (qO 0),jA 2 (qK false)]) (
 .seq (
 .seq (
 .region [jA 12 (qF 0 1),ql 13 12,jA 14 (.bin .lss (.t 13) (.c (.int .i64 1))),qm 15 14,jC 16 (qF 0 1) 15,jC 17 (qL 16) 15,jC 18 (.bin .gtr (.t 17) (.c (.int .i64 64))) 15,jA 19 (qP 15 18),qm 20 19,jC 21 (qF 2 1) 20,jC 22 (qL 21) 20,jC 23 (qS 22) 20,jC 24 (.bin .gtr (.t 23) (.c (.int .i64 3000))) 20,jA 25 (qP 20 24)]) (.cond (.t 25) (
 .seq (
 .region [jA 2 (qK false)]) .ret) .skip)) (
 .seq (
 .region [jA 26 (.su (.func 31) [] [(.t 1)]),qm 3 26]) (
 .seq (
 .seq (
 .region [jA 27 (qF 1 1),ql 28 27,jA 29 (qS 28),jA 30 (qC 0)]) (.block 0 (.loop (
 .seq (
 .region [jA 31 (qB 30 29)]) (
 .seq (.cond (.t 31) .skip (.exit 0)) (
 .seq (.block 1 (
 .seq (
 .region [qm 32 30,jA 33 (qI 1 28 30),ql 34 33,qm 4 32,qm 5 34]) (
 .seq (
 .region [qm 35 3,qm 36 5,jA 37 (.call (.t 35) [(.t 36)]),jA 38 (.un .not (.t 37)),qm 39 38,jC 40 (qM 4) 39,jC 41 (.bin .gtr (.t 40) (.c (.int .i64 0))) 39,jC 42 (qM 41) 39,jD 43 (qF 1 1) 42,jD 44 (qL 43) 42,jD 45 (qM 4) 42,jD 46 (.bin .sub (.t 45) (.c (.int .i64 1))) 42,jD 47 (qI 1 44 46) 42,jD 48 (qL 47) 42,jD 49 (qM 5) 42,jD 50 (.bin .geq (.t 48) (.t 49)) 42,jC 51 (.pick (.t 42) (.t 50) (.c (.bool false))) 39,jA 52 (qP 39 51)]) (.cond (.t 52) (
 .seq (
 .region [jA 2 (qK false)]) .ret) .skip)))) (
 .region [jA 53 (qA 30 1),qm 30 53]))))))) (
 .seq (
 .seq (
 .region [jA 54 (qF 2 1),ql 55 54,jA 56 (qS 55),jA 57 (qC 0)]) (.block 2 (.loop (
 .seq (
 .region [jA 58 (qB 57 56)]) (
 .seq (.cond (.t 58) .skip (.exit 2)) (
 .seq (.block 3 (
 .seq (
 .region [jA 59 (qI 1 55 57),ql 60 59,qm 7 60]) (
 .seq (
 .seq (
 .region [qm 61 7,jA 62 (qS 61),jA 63 (qF 0 1),ql 64 63,jA 65 (.bin .neq (.t 62) (.t 64))]) (.cond (.t 65) (
 .seq (
 .region [jA 2 (qK false)]) .ret) .skip)) (
 .seq (
 .region [qm 66 7,jA 67 (qS 66),jA 68 (qC 0)]) (.block 4 (.loop (
 .seq (
 .region [jA 69 (qB 68 67)]) (
 .seq (.cond (.t 69) .skip (.exit 4)) (
 .seq (.block 5 (
 .seq (
 .region [jA 70 (qI 1 66 68),ql 71 70,qm 9 71]) (
 .seq (
 .region [qm 72 9,jA 73 (qS 72),jA 74 (qC 0)]) (.block 6 (.loop (
 .seq (
 .region [jA 75 (qB 74 73)]) (
 .seq (.cond (.t 75) .skip (.exit 6)) (
 .seq (.block 7 (
 .seq (
 .region [qm 76 74,jA 77 (qI 2 72 74),jA 78 (qN 2 77),jA 11 (.alloc [(.int .i64 0),(.bool false)]),qm 10 76,jG 2 11 78]) (
 .seq (
 .region [jB 79 (qM 3),jB 80 (qF 0 11),jB 81 (qL 80),jB 82 (.call (.t 79) [(.t 81)]),jB 83 (.un .not (.t 82)),jB 84 (qM 83),jF 85 (qM 10) 84,jF 86 (.bin .gtr (.t 85) (.c (.int .i64 0))) 84,jF 87 (qM 86) 84,jE 88 (qM 9) 87,jE 89 (qM 10) 87,jE 90 (.bin .sub (.t 89) (.c (.int .i64 1))) 87,jE 91 (qI 2 88 90) 87,jE 92 (qN 2 91) 87,jE 93 (qN 2 11) 87,jE 94 (.call (.c (.fn (.func 32) [] [])) [(.t 92),(.t 93)]) 87,jE 95 (.bin .geq (.t 94) (.c (.int .i64 0))) 87,jF 96 (.pick (.t 87) (.t 95) (.c (.bool false))) 84,jB 97 (qP 84 96)]) (.cond (.t 97) (
 .seq (
 .region [jA 2 (qK false)]) .ret) .skip)))) (
 .region [jA 98 (qA 74 1),qm 74 98]))))))))) (
 .region [jA 99 (qA 68 1),qm 68 99])))))))))) (
 .region [jA 100 (qA 57 1),qm 57 100]))))))) (
 .seq (
 .region [jA 2 (qK true)]) .ret))))))⟩
theorem c15:aF Try.prog GL [] Try.f15=some l15:=by kernel_rfl
def l16:aZ:=⟨19,[(.tmp 4)],
 (
 .seq (
 .region [jA 3 (qO 1),jA 4 (qK false)]) (
 .seq (
 .region [jA 5 (qN 2 3),jA 6 (qG 33 5),qm 7 6,jD 8 (qF 0 3) 7,jD 9 (qL 8) 7,jD 10 (qM 0) 7,jD 11 (.call (.c (.fn (.func 34) [] [])) [(.t 9),(.t 10)]) 7,jA 12 (.pick (.t 7) (.t 11) (.c (.bool false))),qm 13 12,jD 14 (qF 1 3) 13,jD 15 (qL 14) 13,jD 16 (qM 0) 13,jD 17 (.call (.c (.fn (.func 34) [] [])) [(.t 15),(.t 16)]) 13,jA 18 (.pick (.t 13) (.t 17) (.c (.bool false))),qm 4 18]) .ret))⟩
theorem c16:aF Try.prog GL [] Try.f16=some l16:=by kernel_rfl
def l17:aZ:=⟨17,[(.tmp 2)],
 (
 .seq (
 .region [jA 1 (qO 0),jA 2 (.mv (.c .aj))]) (
 .seq (
 .seq (
 .region [jA 3 (qN 3 1),jA 4 (qG 15 3),jA 5 (.un .not (.t 4)),qm 6 5,jC 7 (qF 1 1) 6,jC 8 (qL 7) 6,jC 9 (qS 8) 6,jC 10 (.bin .eql (.t 9) (.c (.int .i64 0))) 6,jA 11 (qP 6 10)]) (.cond (.t 11) (
 .seq (
 .region [jA 2 (.mv (.c .aj))]) .ret) .skip)) (
 .seq (
 .region [jA 12 (qF 1 1),ql 13 12,jA 14 (qG 30 13),jA 15 (.build [(.int .i64 0),(.int .i64 0), .aj] [(0,(1,(.c (.int .i64 1)))),(1,(1,(.c (.int .i64 (-1))))),(2,(1,(.t 14)))]),jA 16 (.bt 3 1 [(.int .i64 0),(.int .i64 0), .aj] [(0,(3,(.t 15)))]),qm 2 16]) .ret)))⟩
theorem c17:aF Try.prog GL [] Try.f17=some l17:=by kernel_rfl
def l18:aZ:=⟨25,[(.tmp 2)],
 (
 .seq (
 .region [jA 2 (.mv (.c .aj))]) (
 .seq (
 .seq (
 .region [qm 5 0,jA 6 (.bin .lss (.t 5) (.c (.int .i64 0))),qm 7 6,jC 8 (qM 0) 7,jC 9 (.bin .gtr (.t 8) (.c (.int .i64 6000))) 7,jA 10 (qP 7 9)]) (.cond (.t 10) (
 .seq (
 .region [jA 2 (.mv (.c .aj))]) .ret) .skip)) (
 .seq (
 .region [qm 11 0,jA 12 (.ct 1 8 [(.int .i64 0)] (.t 11) (.t 11)),qm 3 12]) (
 .seq (
 .seq (
 .region [qm 13 3,jA 14 (qS 13),jA 15 (qC 0)]) (.block 0 (.loop (
 .seq (
 .region [jA 16 (qB 15 14)]) (
 .seq (.cond (.t 16) .skip (.exit 0)) (
 .seq (.block 1 (
 .seq (
 .region [qm 17 15,qm 4 17]) (
 .region [qm 18 3,qm 19 4,qm 20 4,jA 21 (qA 20 1),jA 22 (qI 1 18 19),jG 1 22 21]))) (
 .region [jA 23 (qA 15 1),qm 15 23]))))))) (
 .seq (
 .region [qm 24 3,qm 2 24]) .ret)))))⟩
theorem c18:aF Try.prog GL [] Try.f18=some l18:=by kernel_rfl
def l19:aZ:=⟨13,[(.tmp 2)],
 (
 .seq (
 .region [jA 1 (qO 0),jA 2 (qK false)]) (
 .seq (
 .region [jA 3 (qF 0 1),ql 4 3,jA 5 (qS 4),jA 6 (.bin .leq (.t 5) (.c (.int .i64 80))),qm 7 6,jD 8 (qF 1 1) 7,jD 9 (qL 8) 7,jD 10 (qS 9) 7,jD 11 (.bin .leq (.t 10) (.c (.int .i64 80))) 7,jA 12 (.pick (.t 7) (.t 11) (.c (.bool false))),qm 2 12]) .ret))⟩
theorem c19:aF Try.prog GL [] Try.f19=some l19:=by kernel_rfl
def l20:aZ:=⟨37,[(.tmp 4)],
 (
 .seq (
 .region [jA 3 (qO 1),jA 4 (qK false)]) (
 .seq (
 .seq (
 .region [jA 5 (qC 0)]) (.block 0 (.loop (
 .seq (
 .seq (
 .region [qm 7 5,jA 8 (qF 0 3),ql 9 8,jA 10 (qS 9),jA 11 (qB 7 10)]) (.cond (.t 11) .skip (.exit 0))) (
 .seq (.block 1 (
 .seq (
 .region [jA 14 (qF 0 3),ql 15 14,qm 16 5,jA 17 (qI 1 15 16),ql 18 17,qm 19 0,jA 20 (.bin .geq (.t 18) (.t 19))]) (.cond (.t 20) (
 .seq (
 .region [jA 4 (qK false)]) .ret) .skip))) (
 .region [qm 12 5,jA 13 (qA 12 1),qm 5 13])))))) (
 .seq (
 .seq (
 .region [jA 6 (qC 0)]) (.block 2 (.loop (
 .seq (
 .seq (
 .region [qm 21 6,jA 22 (qF 1 3),ql 23 22,jA 24 (qS 23),jA 25 (qB 21 24)]) (.cond (.t 25) .skip (.exit 2))) (
 .seq (.block 3 (
 .seq (
 .region [jA 28 (qF 1 3),ql 29 28,qm 30 6,jA 31 (qI 1 29 30),ql 32 31,qm 33 0,jA 34 (.bin .geq (.t 32) (.t 33))]) (.cond (.t 34) (
 .seq (
 .region [jA 4 (qK false)]) .ret) .skip))) (
 .region [qm 26 6,jA 27 (qA 26 1),qm 6 27])))))) (
 .seq (
 .region [jA 35 (qN 2 3),jA 36 (qG 35 35),qm 4 36]) .ret))))⟩
theorem c20:aF Try.prog GL [] Try.f20=some l20:=by kernel_rfl
def l21:aZ:=⟨23,[(.tmp 4)],
 (
 .seq (
 .region [jA 2 (qO 0),jA 4 (.mv (.c .eu))]) (
 .seq (
 .region [jA 6 (qN 3 2),qm 7 1,jA 8 (.iq none),jA 9 (.iq none),jA 10 (.build [(.int .i64 0), .aj, .aj,(.int .i64 0), .aj, .aj, .bN, .aj, .bN] [(0,(3,(.t 6))),(3,(1,(.t 7))),(6,(1,(.t 8))),(8,(1,(.t 9)))]),jA 11 (.box false (.t 10)),qm 5 11]) (
 .seq (
 .region [jB 12 (qM 5),jB 13 (qM 5),jB 14 (qN 3 2),jB 17 (qN 3 2),⟨(some 15),(.call (.c (.fn (.func 17) [] [])) [(.t 14)]),none,[(17,(none,(.load (some 3) (.t 2))))],true⟩,⟨(some 16),(.call (.c (.fn (.func 37) [] [])) [(.t 13),(.t 15)]),none,[(17,(none,(.load (some 3) (.t 2))))],true⟩,jB 18 (qG 38 17),jB 19 (qG 18 18),jB 20 (.build [(.int .i64 0), .aj] [(0,(1,(.t 16))),(1,(1,(.t 19)))]),jB 21 (.call (.c (.fn (.func 36) [] [])) [(.t 12),(.t 20)])]) (
 .seq (
 .region [qm 22 5,qm 4 22]) .ret))))⟩
theorem c21:aF Try.prog GL [11] Try.f21=some l21:=by kernel_rfl
def l22:aZ:=⟨4,[(.tmp 2)],
 (
 .seq (
 .region [jA 1 (.box false (.t 0)),jA 2 (.mv (.c .jh))]) (
 .seq (
 .region [jA 3 (.su (.func 39) [] [(.t 1)]),qm 2 3]) .ret))⟩
theorem c22:aF Try.prog GL [1] Try.f22=some l22:=by kernel_rfl
def l23:aZ:=⟨34,[(.tmp 4)],
 (
 .seq (
 .region [jA 4 (qC 0)]) (
 .seq (
 .region [jA 5 (qC 20000)]) (
 .seq (
 .seq (
 .region [qm 8 0,jA 9 (qS 8),jA 10 (qC 0)]) (.block 0 (.loop (
 .seq (
 .region [jA 11 (qB 10 9)]) (
 .seq (.cond (.t 11) .skip (.exit 0)) (
 .seq (.block 1 (
 .seq (
 .region [jA 12 (qI 1 8 10),ql 13 12,qm 7 13]) (
 .seq (
 .region [qm 14 5,jA 15 (qF 3 1),ql 16 15,ql 17 2,jA 18 (qI 1 16 17),ql 19 18,qm 20 7,jA 21 (qI 1 19 20),ql 22 21,jA 23 (.mJ false [(.t 14),(.t 22)]),qm 5 23]) (
 .region [jA 24 (qF 2 1),ql 25 24,ql 26 2,jA 27 (qI 1 25 26),ql 28 27,qm 29 7,jA 30 (qI 1 28 29),ql 31 30,jG 1 2 31])))) (
 .region [jA 32 (qA 10 1),qm 10 32]))))))) (
 .seq (
 .region [qm 33 5,qm 4 33]) .ret))))⟩
theorem c23:aF Try.prog GL [] Try.f23=some l23:=by kernel_rfl
def l24:aZ:=⟨25,[(.tmp 2)],
 (
 .seq (
 .region [jA 2 (qC 0)]) (
 .seq (
 .seq (
 .region [qm 5 0,jA 6 (qS 5),jA 7 (.bin .lss (.t 6) (.c (.int .i64 1)))]) (.cond (.t 7) .bad .skip)) (
 .seq (
 .region [qm 9 0,jA 10 (.vI 1 (.t 9) (.c (.int .i64 0))),ql 11 10,qm 3 11]) (
 .seq (
 .seq (
 .region [jA 4 (qC 1)]) (.block 0 (.loop (
 .seq (
 .seq (
 .region [qm 12 4,qm 13 0,jA 14 (qS 13),jA 15 (qB 12 14)]) (.cond (.t 15) .skip (.exit 0))) (
 .seq (.block 1 (
 .region [qm 18 3,qm 19 0,qm 20 4,jA 21 (qI 1 19 20),ql 22 21,jA 23 (.mJ false [(.t 18),(.t 22)]),qm 3 23])) (
 .region [qm 16 4,jA 17 (qA 16 1),qm 4 17])))))) (
 .seq (
 .region [qm 24 3,qm 2 24]) .ret)))))⟩
theorem c24:aF Try.prog GL [] Try.f24=some l24:=by kernel_rfl
def l25:aZ:=⟨19,[(.cell 4 (some 5))],
 (
 .seq (
 .region [jA 2 (qO 0),jA 3 (qO 1),jA 4 (.alloc [(.int .i64 0), .aj, .aj, .aj,(.int .i64 0)])]) (
 .seq (
 .region [jA 6 (qN 2 3),jA 7 (qG 42 6),jA 5 (.alloc [.aj, .aj]),jG 2 5 7]) (
 .seq (
 .region [jB 8 (qN 3 2),jB 9 (qF 0 5),jB 10 (qL 9),jB 11 (qF 1 5),jB 12 (qL 11),⟨(some 13),(.bt 1 2 [.aj] [(0,(1,(.t 10))),(1,(1,(.t 12)))]),none,[(8,(none,(.load (some 3) (.t 2)))),(10,(none,(.load none (.t 9)))),(12,(none,(.load none (.t 11))))],true⟩,jB 15 (qF 0 5),jB 16 (qL 15),jB 17 (qS 16),⟨(some 14),(.call (.c (.fn (.func 43) [] [])) [(.t 13)]),none,[(8,(none,(.load (some 3) (.t 2)))),(16,(none,(.load none (.t 15))))],true⟩,jB 18 (.build [(.int .i64 0), .aj, .aj, .aj,(.int .i64 0)] [(0,(3,(.t 8))),(3,(1,(.t 14))),(4,(1,(.t 17)))]),jH 5 4 18]) .ret)))⟩
theorem c25:aF Try.prog GL [] Try.f25=some l25:=by kernel_rfl
def l26:aZ:=⟨102,[(.cell 4 (some 2)),(.cell 5 (some 2)),(.tmp 6)],
 (
 .seq (
 .region [jA 2 (qO 0),jA 3 (.box false (.t 1)),jA 4 (.alloc [(.int .i64 0),(.int .i64 0)]),jA 5 (.alloc [(.int .i64 0),(.int .i64 0)]),jA 6 (qK false)]) (
 .seq (
 .region [jA 17 (qF 1 3),ql 18 17,jA 19 (qS 18),jA 20 (.ct 1 24 [.aj] (.t 19) (.t 19)),qm 7 20]) (
 .seq (
 .seq (
 .region [jA 21 (qF 1 3),ql 22 21,jA 23 (qS 22),jA 24 (qC 0)]) (.block 0 (.loop (
 .seq (
 .region [jA 25 (qB 24 23)]) (
 .seq (.cond (.t 25) .skip (.exit 0)) (
 .seq (.block 1 (
 .seq (
 .region [qm 26 24,jA 27 (qI 2 22 24),jA 28 (qN 2 27),jA 9 (.alloc [(.int .i64 0),(.int .i64 0)]),qm 8 26,jG 2 9 28]) (
 .seq (
 .region [jA 29 (qN 5 2),jA 30 (qN 2 9),jA 31 (.call (.c (.fn (.func 44) [] [])) [(.t 29),(.t 30)]),jA 32 (qS 31),jA 33 (qC 0)]) (.block 2 (.loop (
 .seq (
 .region [jA 34 (qB 33 32)]) (
 .seq (.cond (.t 34) .skip (.exit 2)) (
 .seq (.block 3 (
 .seq (
 .region [jA 35 (qI 2 31 33),jA 36 (qN 2 35),jA 11 (.alloc [(.int .i64 0),(.bool false)]),jG 2 11 36]) (
 .region [jB 37 (qM 7),jB 38 (qM 8),jB 39 (qM 7),jB 40 (qM 8),jB 41 (qI 1 39 40),jB 42 (qL 41),jB 43 (qF 0 3),jB 44 (qL 43),jB 45 (qN 5 2),jB 46 (qN 2 9),jB 47 (qN 2 11),⟨(some 48),(.call (.c (.fn (.func 45) [] [])) [(.t 45),(.t 46),(.t 47)]),none,[(42,(none,(.load none (.t 41)))),(44,(none,(.load none (.t 43))))],true⟩,jB 49 (.eD (.st [(0,(1, .int)),(1,(1, .int))]) (.int .i64 0) false (.t 44) (.t 48)),⟨(some 50),(.bt 1 1 [(.int .i64 0)] [(0,(1,(.t 49)))]),none,[(42,(none,(.load none (.t 41)))),(44,(none,(.load none (.t 43)))),(45,(none,(.load (some 5) (.t 2)))),(46,(none,(.load (some 2) (.t 9)))),(47,(none,(.load (some 2) (.t 11)))),(49,(none,(.eD (.st [(0,(1, .int)),(1,(1, .int))]) (.int .i64 0) false (.t 44) (.t 48))))],true⟩,jB 51 (.append 1 8 (.t 42) (.t 50)),jB 52 (qI 1 37 38),jH 1 52 51]))) (
 .region [jA 53 (qA 33 1),qm 33 53]))))))))) (
 .region [jA 54 (qA 24 1),qm 24 54]))))))) (
 .seq (
 .region [qm 55 7,jA 56 (qG 46 55),qm 12 56]) (
 .seq (
 .seq (
 .region [jA 57 (qF 1 3),ql 58 57,jA 59 (qS 58),jA 60 (qC 0)]) (.block 4 (.loop (
 .seq (
 .region [jA 61 (qB 60 59)]) (
 .seq (.cond (.t 61) .skip (.exit 4)) (
 .seq (.block 5 (
 .seq (
 .region [qm 62 60,jA 63 (qI 2 58 60),jA 64 (qN 2 63),jA 14 (.alloc [(.int .i64 0),(.int .i64 0)]),qm 13 62,jG 2 14 64]) (
 .seq (
 .region [jA 65 (qN 5 2),jA 66 (qN 2 14),jA 67 (.call (.c (.fn (.func 44) [] [])) [(.t 65),(.t 66)]),jA 68 (qS 67),jA 69 (qC 0)]) (.block 6 (.loop (
 .seq (
 .region [jA 70 (qB 69 68)]) (
 .seq (.cond (.t 70) .skip (.exit 6)) (
 .seq (.block 7 (
 .seq (
 .region [qm 71 69,jA 72 (qI 2 67 69),jA 73 (qN 2 72),jA 16 (.alloc [(.int .i64 0),(.bool false)]),qm 15 71,jG 2 16 73]) (
 .seq (
 .region [jB 74 (qF 1 16),jB 75 (qL 74),jB 76 (qM 75),jE 77 (qM 12) 76,jE 78 (qM 7) 76,jE 79 (qM 13) 76,jE 80 (qI 1 78 79) 76,jE 81 (qL 80) 76,jE 82 (qM 15) 76,jE 83 (qI 1 81 82) 76,jE 84 (qL 83) 76,jE 85 (qI 1 77 84) 76,jE 86 (qL 85) 76,jE 87 (qM 12) 76,jE 88 (qM 13) 76,jE 89 (qI 1 87 88) 76,jE 90 (qL 89) 76,jE 91 (.bin .eql (.t 86) (.t 90)) 76,jB 92 (.pick (.t 76) (.t 91) (.c (.bool false)))]) (.cond (.t 92) (
 .seq (
 .region [jB 93 (qN 2 14),jB 94 (qN 5 2),jB 95 (qN 2 14),jB 96 (qN 2 16),⟨(some 97),(.call (.c (.fn (.func 45) [] [])) [(.t 94),(.t 95),(.t 96)]),none,[(93,(none,(.load (some 2) (.t 14))))],true⟩,jH 2 4 93,jH 2 5 97,jB 6 (qK true)]) .ret) .skip)))) (
 .region [jA 98 (qA 69 1),qm 69 98]))))))))) (
 .region [jA 99 (qA 60 1),qm 60 99]))))))) (
 .seq (
 .region [jA 100 (.build [(.int .i64 0),(.int .i64 0)] []),jA 101 (.build [(.int .i64 0),(.int .i64 0)] []),jG 2 4 100,jG 2 5 101,jA 6 (qK false)]) .ret))))))⟩
theorem c26:aF Try.prog GL [3] Try.f26=some l26:=by kernel_rfl
def l27:aZ:=⟨55,[(.cell 4 (some 3))],
 (
 .seq (
 .region [jA 2 (qO 0),jA 4 (.alloc [.bN, .aj, .aj])]) (
 .seq (
 .region [jA 13 (.iq none),jA 14 (.build [.bN, .aj, .aj] [(0,(1,(.t 13)))]),jA 5 (.alloc [.bN, .aj, .aj]),jG 3 5 14]) (
 .seq (
 .region [jA 15 (.su (.func 47) [] [(.t 5)]),qm 6 15]) (
 .seq (
 .seq (
 .region [qm 16 1,jA 17 (qS 16),jA 18 (qC 0)]) (.block 0 (.loop (
 .seq (
 .region [jA 19 (qB 18 17)]) (
 .seq (.cond (.t 19) .skip (.exit 0)) (
 .seq (.block 1 (
 .seq (
 .region [jA 20 (qI 2 16 18),jA 21 (qN 2 20),jA 8 (.alloc [(.int .i64 0),(.int .i64 0)]),jG 2 8 21]) (
 .region [qm 22 6,jA 23 (qN 2 8),jA 24 (.call (.t 22) [(.t 23),(.c (.int .i64 (-1)))])]))) (
 .region [jA 25 (qA 18 1),qm 18 25]))))))) (
 .seq (
 .seq (
 .region [jA 9 (qC 0)]) (.block 2 (.loop (
 .seq (
 .seq (
 .region [qm 26 9,jA 27 (qF 1 5),ql 28 27,jA 29 (qS 28),jA 30 (qB 26 29)]) (.cond (.t 30) .skip (.exit 2))) (
 .seq (.block 3 (
 .seq (
 .region [jA 33 (qF 1 5),ql 34 33,qm 35 9,jA 36 (qI 2 34 35),jA 37 (qN 2 36),jA 10 (.alloc [(.int .i64 0),(.int .i64 0)]),jG 2 10 37]) (
 .seq (
 .region [jA 38 (qN 5 2),jA 39 (qN 2 10),jA 40 (.call (.c (.fn (.func 44) [] [])) [(.t 38),(.t 39)]),jA 41 (qS 40),jA 42 (qC 0)]) (.block 4 (.loop (
 .seq (
 .region [jA 43 (qB 42 41)]) (
 .seq (.cond (.t 43) .skip (.exit 4)) (
 .seq (.block 5 (
 .seq (
 .region [jA 44 (qI 2 40 42),jA 45 (qN 2 44),jA 12 (.alloc [(.int .i64 0),(.bool false)]),jG 2 12 45]) (
 .region [qm 46 6,jA 47 (qN 5 2),jA 48 (qN 2 10),jA 49 (qN 2 12),jA 50 (.call (.c (.fn (.func 45) [] [])) [(.t 47),(.t 48),(.t 49)]),qm 51 9,jA 52 (.call (.t 46) [(.t 50),(.t 51)])]))) (
 .region [jA 53 (qA 42 1),qm 42 53]))))))))) (
 .region [qm 31 9,jA 32 (qA 31 1),qm 9 32])))))) (
 .seq (
 .region [jA 54 (qN 3 5),jG 3 4 54]) .ret))))))⟩
theorem c27:aF Try.prog GL [] Try.f27=some l27:=by kernel_rfl
def l28:aZ:=⟨21,[(.tmp 2)],
 (
 .seq (
 .region [jA 1 (qO 0),jA 2 (.mv (.c .aj))]) (
 .seq (
 .region [jA 3 (.mv (.c .aj))]) (
 .seq (
 .seq (
 .region [jA 6 (qF 0 1),jA 7 (qF 1 6),ql 8 7,jA 9 (qS 8),jA 10 (qC 0)]) (.block 0 (.loop (
 .seq (
 .region [jA 11 (qB 10 9)]) (
 .seq (.cond (.t 11) .skip (.exit 0)) (
 .seq (.block 1 (
 .seq (
 .region [jA 12 (qI 1 8 10),ql 13 12,qm 5 13]) (
 .region [qm 14 3,qm 15 5,jA 16 (.build [(.int .i64 0),(.int .i64 0)] [(1,(1,(.t 15)))]),jA 17 (.bt 2 1 [(.int .i64 0),(.int .i64 0)] [(0,(2,(.t 16)))]),jA 18 (.append 2 16 (.t 14) (.t 17)),qm 3 18]))) (
 .region [jA 19 (qA 10 1),qm 10 19]))))))) (
 .seq (
 .region [qm 20 3,qm 2 20]) .ret))))⟩
theorem c28:aF Try.prog GL [] Try.f28=some l28:=by kernel_rfl
def l29:aZ:=⟨26,[(.tmp 4)],
 (
 .seq (
 .region [jA 2 (qO 0),jA 3 (qO 1),jA 4 (qK false)]) (
 .seq (
 .region [jA 5 (qF 0 2),ql 6 5,jA 7 (qF 0 3),ql 8 7,jA 9 (qB 6 8),qm 10 9,jC 11 (qF 0 2) 10,jC 12 (qL 11) 10,jC 13 (qF 0 3) 10,jC 14 (qL 13) 10,jC 15 (.bin .eql (.t 12) (.t 14)) 10,jC 16 (qM 15) 10,jD 17 (qF 1 2) 16,jD 18 (qL 17) 16,jD 19 (.un .not (.t 18)) 16,jC 20 (.pick (.t 16) (.t 19) (.c (.bool false))) 10,jC 21 (qM 20) 10,jD 22 (qF 1 3) 21,jD 23 (qL 22) 21,jC 24 (.pick (.t 21) (.t 23) (.c (.bool false))) 10,jA 25 (qP 10 24),qm 4 25]) .ret))⟩
theorem c29:aF Try.prog GL [] Try.f29=some l29:=by kernel_rfl
def l30:aZ:=⟨8,[(.tmp 2)],
 (
 .seq (
 .region [jA 2 (.mv (.c .aj))]) (
 .seq (
 .seq (
 .region [qm 3 0,jA 4 (.eq false .JC (.t 3) (.c .aj))]) (.cond (.t 4) (
 .seq (
 .region [jA 2 (.mv (.c .aj))]) .ret) .skip)) (
 .seq (
 .region [jA 5 (.bt 1 0 [(.int .i64 0)] []),qm 6 0,jA 7 (.append 1 8 (.t 5) (.t 6)),qm 2 7]) .ret)))⟩
theorem c30:aF Try.prog GL [] Try.f30=some l30:=by kernel_rfl
def l31:aZ:=⟨13,[(.tmp 3)],
 (
 .seq (
 .region [jA 3 (qK false)]) (
 .seq (
 .region [qm 4 0,jA 5 (.bin .geq (.t 4) (.c (.int .i64 0))),qm 6 5,jD 7 (qM 0) 6,jD 8 (qF 2 1) 6,jD 9 (qL 8) 6,jD 10 (qS 9) 6,jD 11 (qB 7 10) 6,jA 12 (.pick (.t 6) (.t 11) (.c (.bool false))),qm 3 12]) .ret))⟩
theorem c31:aF Try.prog GL [] Try.f31=some l31:=by kernel_rfl
def l32:aZ:=⟨23,[(.tmp 4)],
 (
 .seq (
 .region [jA 2 (qO 0),jA 3 (qO 1),jA 4 (qC 0)]) (
 .seq (
 .seq (
 .region [jA 6 (qF 0 2),ql 7 6,jA 8 (qF 0 3),ql 9 8,jA 10 (.call (.c (.fn (.func 48) [] [])) [(.t 7),(.t 9)]),qm 5 10]) (
 .seq (
 .region [qm 11 5,jA 12 (.bin .neq (.t 11) (.c (.int .i64 0))),qm 13 12,jC 14 (qF 1 2) 13,jC 15 (qL 14) 13,jC 16 (qF 1 3) 13,jC 17 (qL 16) 13,jC 18 (.eq false .bool (.t 15) (.t 17)) 13,jA 19 (qP 13 18)]) (.cond (.t 19) (
 .seq (
 .region [qm 20 5,qm 4 20]) .ret) .skip))) (
 .seq (
 .seq (
 .region [jA 21 (qF 1 3),ql 22 21]) (.cond (.t 22) (
 .seq (
 .region [jA 4 (.mv (.c (.int .i64 (-1))))]) .ret) .skip)) (
 .seq (
 .region [jA 4 (qC 1)]) .ret))))⟩
theorem c32:aF Try.prog GL [] Try.f32=some l32:=by kernel_rfl
def l33:aZ:=⟨27,[(.tmp 2)],
 (
 .seq (
 .region [jA 1 (qO 0),jA 2 (qK false)]) (
 .seq (
 .seq (
 .region [jA 3 (qF 0 1),ql 4 3,jA 5 (qS 4),jA 6 (.bin .gtr (.t 5) (.c (.int .i64 60))),qm 7 6,jC 8 (qF 1 1) 7,jC 9 (qL 8) 7,jC 10 (qS 9) 7,jC 11 (.bin .lss (.t 10) (.c (.int .i64 1))) 7,jA 12 (qP 7 11),qm 13 12,jC 14 (qF 1 1) 13,jC 15 (qL 14) 13,jC 16 (qS 15) 13,jC 17 (.bin .gtr (.t 16) (.c (.int .i64 40))) 13,jA 18 (qP 13 17)]) (.cond (.t 18) (
 .seq (
 .region [jA 2 (qK false)]) .ret) .skip)) (
 .seq (
 .region [jA 19 (qF 0 1),ql 20 19,jA 21 (.call (.c (.fn (.func 34) [] [])) [(.t 20),(.c (.int .i64 64))]),qm 22 21,jD 23 (qF 1 1) 22,jD 24 (qL 23) 22,jD 25 (.call (.c (.fn (.func 34) [] [])) [(.t 24),(.c (.int .i64 64))]) 22,jA 26 (.pick (.t 22) (.t 25) (.c (.bool false))),qm 2 26]) .ret)))⟩
theorem c33:aF Try.prog GL [] Try.f33=some l33:=by kernel_rfl
def l34:aZ:=⟨21,[(.tmp 4)],
 (
 .seq (
 .region [jA 4 (qK false)]) (
 .seq (
 .seq (
 .region [qm 7 0,jA 8 (qS 7),jA 9 (qC 0)]) (.block 0 (.loop (
 .seq (
 .region [jA 10 (qB 9 8)]) (
 .seq (.cond (.t 10) .skip (.exit 0)) (
 .seq (.block 1 (
 .seq (
 .region [jA 11 (qI 1 7 9),ql 12 11,qm 6 12]) (
 .seq (
 .region [qm 13 6,jA 14 (.bin .lss (.t 13) (.c (.int .i64 0))),qm 15 14,jC 16 (qM 6) 15,jC 17 (qM 1) 15,jC 18 (.bin .geq (.t 16) (.t 17)) 15,jA 19 (qP 15 18)]) (.cond (.t 19) (
 .seq (
 .region [jA 4 (qK false)]) .ret) .skip)))) (
 .region [jA 20 (qA 9 1),qm 9 20]))))))) (
 .seq (
 .region [jA 4 (qK true)]) .ret)))⟩
theorem c34:aF Try.prog GL [] Try.f34=some l34:=by kernel_rfl
def l35:aZ:=⟨53,[(.tmp 2)],
 (
 .seq (
 .region [jA 1 (qO 0),jA 2 (qK false)]) (
 .seq (
 .seq (
 .region [jA 7 (qF 0 1),ql 8 7,jA 9 (qS 8),jA 10 (.bin .gtr (.t 9) (.c (.int .i64 60))),qm 11 10,jC 12 (qF 1 1) 11,jC 13 (qL 12) 11,jC 14 (qS 13) 11,jC 15 (.bin .lss (.t 14) (.c (.int .i64 1))) 11,jA 16 (qP 11 15),qm 17 16,jC 18 (qF 1 1) 17,jC 19 (qL 18) 17,jC 20 (qS 19) 17,jC 21 (.bin .gtr (.t 20) (.c (.int .i64 40))) 17,jA 22 (qP 17 21)]) (.cond (.t 22) (
 .seq (
 .region [jA 2 (qK false)]) .ret) .skip)) (
 .seq (
 .seq (
 .region [jA 3 (qC 0)]) (.block 0 (.loop (
 .seq (
 .seq (
 .region [qm 23 3,jA 24 (qF 0 1),ql 25 24,jA 26 (qS 25),jA 27 (qB 23 26)]) (.cond (.t 27) .skip (.exit 0))) (
 .seq (.block 1 (
 .seq (
 .region [jA 30 (qF 0 1),ql 31 30,qm 32 3,jA 33 (qI 1 31 32),ql 34 33,jA 35 (qG 49 34),qm 4 35]) (
 .seq (
 .region [qm 36 4,jA 37 (.un .not (.t 36))]) (.cond (.t 37) (
 .seq (
 .region [jA 2 (qK false)]) .ret) .skip)))) (
 .region [qm 28 3,jA 29 (qA 28 1),qm 3 29])))))) (
 .seq (
 .seq (
 .region [jA 5 (qC 0)]) (.block 2 (.loop (
 .seq (
 .seq (
 .region [qm 38 5,jA 39 (qF 1 1),ql 40 39,jA 41 (qS 40),jA 42 (qB 38 41)]) (.cond (.t 42) .skip (.exit 2))) (
 .seq (.block 3 (
 .seq (
 .region [jA 45 (qF 1 1),ql 46 45,qm 47 5,jA 48 (qI 1 46 47),ql 49 48,jA 50 (qG 49 49),qm 6 50]) (
 .seq (
 .region [qm 51 6,jA 52 (.un .not (.t 51))]) (.cond (.t 52) (
 .seq (
 .region [jA 2 (qK false)]) .ret) .skip)))) (
 .region [qm 43 5,jA 44 (qA 43 1),qm 5 44])))))) (
 .seq (
 .region [jA 2 (qK true)]) .ret)))))⟩
theorem c35:aF Try.prog GL [] Try.f35=some l35:=by kernel_rfl
def l36:aZ:=⟨52,[(.tmp 4)],
 (
 .seq (
 .region [jA 3 (qO 1),jA 4 (qC 0)]) (
 .seq (
 .region [jA 8 (qF 0 3),ql 9 8,jA 10 (.bin .shr (.t 9) (.c (.int .u64 15))),jA 11 (qF 0 3),ql 12 11,jA 13 (.bin .and (.t 12) (.c (.int .i64 32767))),jA 14 (.bt 1 2 [(.int .i64 0)] [(0,(1,(.t 10))),(1,(1,(.t 13)))]),jA 15 (qF 1 3),ql 16 15,jA 17 (.append 1 8 (.t 14) (.t 16)),jA 18 (qG 50 17),qm 5 18]) (
 .seq (
 .region [qm 20 0,jA 21 (.bP (.t 20)),jA 22 (qF 8 21),ql 23 22,qm 24 5,jA 25 (.eD .str (.int .i64 0) true (.t 23) (.t 24)),qm 19 25,jA 26 (.ext (.t 19) 0),jA 27 (.ext (.t 19) 1),qm 6 26,qm 7 27]) (
 .seq (
 .seq (
 .region [qm 28 7,jA 29 (.un .not (.t 28))]) (.cond (.t 29) (
 .seq (
 .region [qm 30 0,jA 31 (.bP (.t 30)),jA 32 (qF 7 31),ql 33 32,jA 34 (qS 33),qm 6 34]) (
 .seq (
 .region [qm 35 0,jA 36 (.bP (.t 35)),jA 37 (qF 8 36),ql 38 37,qm 39 5,qm 40 6,⟨none,(.lQ .str (.t 38) (.t 39) (.t 40)),none,[],false⟩]) (
 .region [jB 41 (qM 0),jB 42 (qM 0),jB 43 (.bP (.t 42)),jB 44 (qF 7 43),jB 45 (qL 44),jB 46 (qN 2 3),⟨(some 47),(.bt 2 1 [(.int .i64 0), .aj] [(0,(2,(.t 46)))]),none,[(45,(none,(.load none (.t 44)))),(46,(none,(.load (some 2) (.t 3))))],true⟩,jB 48 (.append 2 32 (.t 45) (.t 47)),jB 49 (.bP (.t 41)),jB 50 (qF 7 49),jH 1 50 48]))) .skip)) (
 .seq (
 .region [qm 51 6,qm 4 51]) .ret)))))⟩
theorem c36:aF Try.prog GL [] Try.f36=some l36:=by kernel_rfl
def l37:aZ:=⟨77,[(.tmp 4)],
 (
 .seq (
 .region [jA 4 (qC 0)]) (
 .seq (
 .region [jA 5 (.mv (.c .aj))]) (
 .seq (
 .seq (
 .region [qm 11 1,jA 12 (qS 11),jA 13 (qC 0)]) (.block 0 (.loop (
 .seq (
 .region [jA 14 (qB 13 12)]) (
 .seq (.cond (.t 14) .skip (.exit 0)) (
 .seq (.block 1 (
 .seq (
 .region [jA 15 (qI 3 11 13),jA 16 (qN 3 15),jA 7 (.alloc [(.int .i64 0),(.int .i64 0), .aj]),jG 3 7 16]) (
 .seq (
 .region [qm 17 5,jA 18 (qF 0 7),ql 19 18,jA 20 (qF 1 7),ql 21 20,jA 22 (qA 21 1),jA 23 (qF 2 7),ql 24 23,jA 25 (qS 24),jA 26 (.bt 1 3 [(.int .i64 0)] [(0,(1,(.t 19))),(1,(1,(.t 22))),(2,(1,(.t 25)))]),jA 27 (.append 1 8 (.t 17) (.t 26)),qm 5 27]) (
 .region [qm 28 5,jA 29 (qF 2 7),ql 30 29,jA 31 (.append 1 8 (.t 28) (.t 30)),qm 5 31])))) (
 .region [jA 32 (qA 13 1),qm 13 32]))))))) (
 .seq (
 .region [qm 33 5,jA 34 (qG 50 33),qm 8 34]) (
 .seq (
 .region [qm 36 0,jA 37 (.bP (.t 36)),jA 38 (qF 6 37),ql 39 38,qm 40 8,jA 41 (.eD .str (.int .i64 0) true (.t 39) (.t 40)),qm 35 41,jA 42 (.ext (.t 35) 0),jA 43 (.ext (.t 35) 1),qm 9 42,qm 10 43]) (
 .seq (
 .seq (
 .region [qm 44 10,jA 45 (.un .not (.t 44))]) (.cond (.t 45) (
 .seq (
 .region [qm 46 0,jA 47 (.bP (.t 46)),jA 48 (qF 4 47),ql 49 48,jA 50 (qS 49),qm 9 50]) (
 .seq (
 .region [qm 51 0,jA 52 (.bP (.t 51)),jA 53 (qF 6 52),ql 54 53,qm 55 8,qm 56 9,⟨none,(.lQ .str (.t 54) (.t 55) (.t 56)),none,[],false⟩]) (
 .seq (
 .region [qm 57 0,qm 58 0,jA 59 (.bP (.t 58)),jA 60 (qF 4 59),ql 61 60,qm 62 1,jA 63 (.bt 1 1 [.aj] [(0,(1,(.t 62)))]),jA 64 (.append 1 24 (.t 61) (.t 63)),jA 65 (.bP (.t 57)),jA 66 (qF 4 65),jG 1 66 64]) (
 .region [qm 67 0,qm 68 0,jA 69 (.bP (.t 68)),jA 70 (qF 5 69),ql 71 70,jA 72 (.bt 1 1 [.aj] [(0,(1,(.c .aj)))]),jA 73 (.append 1 24 (.t 71) (.t 72)),jA 74 (.bP (.t 67)),jA 75 (qF 5 74),jG 1 75 73])))) .skip)) (
 .seq (
 .region [qm 76 9,qm 4 76]) .ret)))))))⟩
theorem c37:aF Try.prog GL [] Try.f37=some l37:=by kernel_rfl
def l38:aZ:=⟨10,[(.tmp 2)],
 (
 .seq (
 .region [jA 1 (qO 0),jA 2 (qC 0)]) (
 .seq (
 .seq (
 .region [jA 3 (qN 3 1),jA 4 (qG 15 3),jA 5 (.un .not (.t 4))]) (.cond (.t 5) (
 .seq (
 .region [jA 2 (qC 0)]) .ret) .skip)) (
 .seq (
 .region [jA 6 (qF 2 1),ql 7 6,jA 8 (qS 7),jA 9 (.bin .mul (.c (.int .i64 2)) (.t 8)),qm 2 9]) .ret)))⟩
theorem c38:aF Try.prog GL [] Try.f38=some l38:=by kernel_rfl
def l39:aZ:=⟨90,[],
 (
 .seq (
 .region [jA 3 (qC 0)]) (.block 0 (.loop (
 .seq (
 .seq (
 .region [qm 10 3,ql 11 1,jA 12 (.bP (.t 11)),jA 13 (qF 7 12),ql 14 13,jA 15 (qS 14),jA 16 (qB 10 15)]) (.cond (.t 16) .skip (.exit 0))) (
 .seq (.block 1 (
 .seq (
 .region [ql 19 1,jA 20 (.bP (.t 19)),jA 21 (qF 0 20),jA 22 (qF 0 21),ql 23 22,jA 24 (.ct 1 8 [(.int .i64 0)] (.t 23) (.t 23)),qm 4 24]) (
 .seq (
 .region [ql 25 1,jA 26 (.bP (.t 25)),jA 27 (qF 0 26),jA 28 (qF 0 27),ql 29 28,jA 30 (.ct 1 8 [(.int .i64 0)] (.t 29) (.t 29)),qm 5 30]) (
 .seq (
 .seq (
 .region [jB 31 (qL 1),jB 32 (qL 1),jB 33 (.bP (.t 32)),jB 34 (qF 7 33),jB 35 (qL 34),jB 36 (qM 3),jB 37 (qI 2 35 36),jB 38 (qF 0 37),jB 39 (qL 38),jB 42 (qC 0),jB 40 (.call (.c (.fn (.func 40) [] [])) [(.t 31),(.t 39)]),jB 41 (qS 40)]) (.block 2 (.loop (
 .seq (
 .region [jA 43 (qB 42 41)]) (
 .seq (.cond (.t 43) .skip (.exit 2)) (
 .seq (.block 3 (
 .seq (
 .region [qm 44 42,jA 45 (qI 3 40 42),jA 46 (qN 3 45),jA 7 (.alloc [(.int .i64 0), .aj, .aj]),qm 6 44,jG 3 7 46]) (
 .seq (
 .region [jB 48 (qL 1),jB 49 (.bP (.t 48)),jB 50 (qF 7 49),jB 51 (qL 50),jB 52 (qM 3),jB 53 (qI 2 51 52),jB 54 (qF 1 53),jB 55 (qL 54),jB 56 (qF 1 7),jB 57 (qN 2 56),jB 58 (.call (.c (.fn (.func 41) [] [])) [(.t 55),(.t 57)]),jB 47 (qM 58),jB 59 (.ext (.t 47) 0),jB 60 (.ext (.t 47) 1),jB 8 (qM 59),jB 9 (qM 60)]) (
 .seq (
 .region [qm 61 4,qm 62 6,ql 63 1,jA 64 (qF 0 7),ql 65 64,qm 66 8,jA 67 (.build [(.int .i64 0), .aj] [(0,(1,(.t 65))),(1,(1,(.t 66)))]),jA 68 (.call (.c (.fn (.func 36) [] [])) [(.t 63),(.t 67)]),jA 69 (qI 1 61 62),jG 1 69 68]) (
 .seq (
 .region [qm 70 5,qm 71 6,qm 72 9,jA 73 (qI 1 70 71),jG 1 73 72]) (
 .seq (
 .region [jB 74 (qL 1),jB 75 (.bP (.t 74)),jB 76 (qF 7 75),jB 77 (qL 76),jB 78 (qS 77),jB 79 (qL 1),jB 80 (.bP (.t 79)),jB 81 (qF 3 80),jB 82 (qL 81),jB 83 (.bin .gtr (.t 78) (.t 82))]) (.cond (.t 83) .ret .skip))))))) (
 .region [jA 84 (qA 42 1),qm 42 84]))))))) (
 .seq (
 .region [qm 85 0,qm 86 4,qm 87 5,jA 88 (.call (.t 85) [(.t 86),(.t 87)]),jA 89 (.un .not (.t 88))]) (.cond (.t 89) .ret .skip)))))) (
 .region [qm 17 3,jA 18 (qA 17 1),qm 3 18]))))))⟩
theorem c39:aF Try.prog GL [] Try.f39=some l39:=by kernel_rfl
def l40:aZ:=⟨67,[(.tmp 4)],
 (
 .seq (
 .region [jA 4 (.mv (.c .aj))]) (
 .seq (
 .seq (
 .region [qm 9 0,jA 10 (.bP (.t 9)),jA 11 (qF 5 10),ql 12 11,qm 13 1,jA 14 (qI 1 12 13),ql 15 14,jA 16 (.eq false .JC (.t 15) (.c .aj))]) (.cond (.t 16) (
 .seq (
 .region [qm 17 0,jA 18 (.bP (.t 17)),jA 19 (qF 0 18),jA 20 (qF 0 19),ql 21 20,jA 22 (.ct 3 56 [(.int .i64 0), .aj, .aj] (.t 21) (.t 21)),qm 5 22]) (
 .seq (
 .seq (
 .region [qm 23 5,jA 24 (qS 23),jA 25 (qC 0)]) (.block 0 (.loop (
 .seq (
 .region [jA 26 (qB 25 24)]) (
 .seq (.cond (.t 26) .skip (.exit 0)) (
 .seq (.block 1 (
 .seq (
 .region [qm 27 25,qm 6 27]) (
 .seq (
 .region [jB 29 (qM 0),jB 30 (.bP (.t 29)),jB 31 (qF 0 30),jB 32 (qN 3 31),jB 33 (qM 0),jB 34 (.bP (.t 33)),jB 35 (qF 4 34),jB 36 (qL 35),jB 37 (qM 1),jB 38 (qI 1 36 37),jB 39 (qL 38),jB 40 (qM 6),⟨(some 8),(.alloc [.aj, .aj]),none,[(32,(none,(.load (some 3) (.t 31)))),(36,(none,(.load none (.t 35)))),(39,(none,(.load none (.t 38))))],true⟩,jB 41 (.call (.c (.fn (.func 51) [] [])) [(.t 32),(.t 39),(.t 40)]),jB 28 (qM 41),jB 42 (.ext (.t 28) 0),jB 43 (.ext (.t 28) 1),jB 7 (qM 42),jH 2 8 43]) (
 .region [jB 44 (qM 5),jB 45 (qM 6),jB 46 (qM 0),jB 47 (qM 7),jB 49 (qN 2 8),⟨(some 48),(.call (.c (.fn (.func 37) [] [])) [(.t 46),(.t 47)]),none,[(49,(none,(.load (some 2) (.t 8))))],true⟩,jB 50 (.build [(.int .i64 0), .aj, .aj] [(0,(1,(.t 48))),(1,(2,(.t 49)))]),jB 51 (qI 3 44 45),jH 3 51 50])))) (
 .region [jA 52 (qA 25 1),qm 25 52]))))))) (
 .region [qm 53 0,jA 54 (.bP (.t 53)),jA 55 (qF 5 54),ql 56 55,qm 57 1,qm 58 5,jA 59 (qI 1 56 57),jG 1 59 58]))) .skip)) (
 .seq (
 .region [qm 60 0,jA 61 (.bP (.t 60)),jA 62 (qF 5 61),ql 63 62,qm 64 1,jA 65 (qI 1 63 64),ql 66 65,qm 4 66]) .ret)))⟩
theorem c40:aF Try.prog GL [] Try.f40=some l40:=by kernel_rfl
def l41:aZ:=⟨85,[(.tmp 4),(.tmp 5)],
 (
 .seq (
 .region [jA 3 (qO 1),jA 4 (.mv (.c .aj)),jA 5 (qC 0)]) (
 .seq (
 .region [qm 17 0,jA 18 (qS 17),qm 6 18]) (
 .seq (
 .seq (
 .region [qm 19 0,qm 20 6,jA 21 (.call (.c (.fn (.func 52) [] [])) [(.t 19),(.t 20)]),jA 22 (.un .not (.t 21))]) (.cond (.t 22) (
 .seq (
 .region [jA 4 (.mv (.c .aj)),jA 5 (qC 0)]) .ret) .skip)) (
 .seq (
 .region [jA 23 (qN 2 3),qm 24 6,jA 25 (.call (.c (.fn (.func 53) [] [])) [(.t 23),(.t 24)]),jA 7 (.alloc [.bN]),jG 1 7 25]) (
 .seq (
 .region [jA 26 (.su (.func 54) [] [(.t 7)]),qm 8 26]) (
 .seq (
 .region [jA 27 (.su (.func 55) [] [(.t 7)]),qm 9 27]) (
 .seq (
 .region [qm 28 6,jA 29 (.ct 1 8 [(.int .i64 0)] (.c (.int .i64 0)) (.t 28)),qm 10 29]) (
 .seq (
 .seq (
 .region [qm 30 0,jA 31 (qS 30),jA 32 (qC 0)]) (.block 0 (.loop (
 .seq (
 .region [jA 33 (qB 32 31)]) (
 .seq (.cond (.t 33) .skip (.exit 0)) (
 .seq (.block 1 (
 .seq (
 .region [jA 34 (qI 1 30 32),ql 35 34,qm 12 35]) (
 .seq (
 .region [qm 36 8,qm 37 12,jA 38 (.call (.t 36) [(.t 37)]),jA 39 (.un .not (.t 38))]) (.cond (.t 39) (
 .region [qm 40 10,qm 41 12,jA 42 (.bt 1 1 [(.int .i64 0)] [(0,(1,(.t 41)))]),jA 43 (.append 1 8 (.t 40) (.t 42)),qm 10 43]) .skip)))) (
 .region [jA 44 (qA 32 1),qm 32 44]))))))) (
 .seq (
 .seq (
 .region [qm 45 0,jA 46 (qS 45),jA 47 (qC 0)]) (.block 2 (.loop (
 .seq (
 .region [jA 48 (qB 47 46)]) (
 .seq (.cond (.t 48) .skip (.exit 2)) (
 .seq (.block 3 (
 .seq (
 .region [jA 49 (qI 1 45 47),ql 50 49,qm 14 50]) (
 .seq (
 .region [qm 51 8,qm 52 14,jA 53 (.call (.t 51) [(.t 52)])]) (.cond (.t 53) (
 .region [qm 54 10,qm 55 14,jA 56 (.bt 1 1 [(.int .i64 0)] [(0,(1,(.t 55)))]),jA 57 (.append 1 8 (.t 54) (.t 56)),qm 10 57]) .skip)))) (
 .region [jA 58 (qA 47 1),qm 47 58]))))))) (
 .seq (
 .region [qm 59 0,qm 60 8,jA 61 (.call (.c (.fn (.func 56) [] [])) [(.t 59),(.t 60)]),qm 62 0,qm 63 9,jA 64 (.call (.c (.fn (.func 56) [] [])) [(.t 62),(.t 63)]),qm 15 61,qm 16 64]) (
 .seq (.block 4 (
 .seq (
 .region [qm 66 16,qm 67 15,jA 68 (qB 66 67),qm 65 68]) (.cond (.t 65) (
 .seq (
 .region [qm 69 10,qm 70 16,jA 71 (.bin .mul (.c (.int .i64 2)) (.t 70)),jA 72 (qA 71 2),qm 4 69,qm 5 72]) .ret) (
 .seq (
 .region [qm 74 15,qm 75 16,jA 76 (qB 74 75),qm 73 76]) (.cond (.t 73) (
 .seq (
 .region [qm 77 10,qm 78 15,jA 79 (.bin .mul (.c (.int .i64 2)) (.t 78)),jA 80 (qA 79 1),qm 4 77,qm 5 80]) .ret) .skip))))) (
 .seq (
 .region [qm 81 10,qm 82 6,jA 83 (.bin .mul (.c (.int .i64 2)) (.t 82)),jA 84 (qA 83 1),qm 4 81,qm 5 84]) .ret))))))))))))⟩
theorem c41:aF Try.prog GL [] Try.f41=some l41:=by kernel_rfl
def l42:aZ:=⟨9,[(.cell 2 (some 2))],
 (
 .seq (
 .region [jA 1 (qO 0),jA 2 (.alloc [.aj, .aj])]) (
 .seq (
 .seq (
 .region [jA 3 (qN 2 1),jA 4 (qG 33 3),jA 5 (.un .not (.t 4))]) (.cond (.t 5) (
 .seq (
 .region [jA 6 (.build [.aj, .aj] []),jG 2 2 6]) .ret) .skip)) (
 .seq (
 .region [jA 7 (qN 2 1),jA 8 (qG 57 7),jG 2 2 8]) .ret)))⟩
theorem c42:aF Try.prog GL [] Try.f42=some l42:=by kernel_rfl
def l43:aZ:=⟨36,[(.tmp 2)],
 (
 .seq (
 .region [jA 2 (.mv (.c .aj))]) (
 .seq (
 .region [jA 3 (qC 0)]) (
 .seq (
 .seq (
 .region [qm 9 0,jA 10 (qS 9),jA 11 (qC 0)]) (.block 0 (.loop (
 .seq (
 .region [jA 12 (qB 11 10)]) (
 .seq (.cond (.t 12) .skip (.exit 0)) (
 .seq (.block 1 (
 .seq (
 .region [jA 13 (qI 1 9 11),ql 14 13,qm 5 14]) (
 .seq (
 .region [qm 15 3,qm 16 5,jA 17 (qS 16),jA 18 (.bin .add (.t 15) (.t 17)),qm 3 18]) (
 .seq (
 .region [qm 19 3,jA 20 (.bin .lss (.t 19) (.c (.int .i64 0)))]) (.cond (.t 20) .bad .skip))))) (
 .region [jA 22 (qA 11 1),qm 11 22]))))))) (
 .seq (
 .region [qm 23 3,jA 24 (.call (.c (.fn (.func 58) [] [])) [(.c .aj),(.t 23)]),qm 6 24]) (
 .seq (
 .seq (
 .region [qm 25 0,jA 26 (qS 25),jA 27 (qC 0)]) (.block 2 (.loop (
 .seq (
 .region [jA 28 (qB 27 26)]) (
 .seq (.cond (.t 28) .skip (.exit 2)) (
 .seq (.block 3 (
 .seq (
 .region [jA 29 (qI 1 25 27),ql 30 29,qm 8 30]) (
 .region [qm 31 6,qm 32 8,jA 33 (.append 1 8 (.t 31) (.t 32)),qm 6 33]))) (
 .region [jA 34 (qA 27 1),qm 27 34]))))))) (
 .seq (
 .region [qm 35 6,qm 2 35]) .ret))))))⟩
theorem c43:aF Try.prog GL [] Try.f43=some l43:=by kernel_rfl
def l44:aZ:=⟨20,[(.tmp 4)],
 (
 .seq (
 .region [jA 2 (qO 0),jA 3 (qO 1),jA 4 (.mv (.c .aj))]) (
 .seq (
 .region [jB 5 (qF 0 2),jB 6 (qF 2 5),jB 7 (qL 6),jB 8 (qF 1 3),jB 9 (qL 8),jB 10 (qI 1 7 9),jB 11 (qL 10),jB 12 (qF 3 2),jB 13 (qL 12),jB 14 (qF 0 3),jB 15 (qL 14),jB 16 (qI 1 13 15),jB 17 (qL 16),jB 18 (qI 1 11 17),jB 19 (qL 18),jB 4 (qM 19)]) .ret))⟩
theorem c44:aF Try.prog GL [] Try.f44=some l44:=by kernel_rfl
def l45:aZ:=⟨22,[(.cell 6 (some 2))],
 (
 .seq (
 .region [jA 3 (qO 0),jA 4 (qO 1),jA 5 (qO 2),jA 6 (.alloc [(.int .i64 0),(.int .i64 0)])]) (
 .seq (
 .region [jA 8 (qF 0 4),ql 9 8,jA 10 (qA 9 1),qm 7 10]) (
 .seq (
 .seq (
 .region [qm 11 7,jA 12 (qF 3 3),ql 13 12,jA 14 (qS 13),jA 15 (.bin .eql (.t 11) (.t 14))]) (.cond (.t 15) (
 .region [jA 16 (qF 4 3),ql 17 16,qm 7 17]) .skip)) (
 .seq (
 .region [qm 18 7,jA 19 (qF 0 5),ql 20 19,jA 21 (.build [(.int .i64 0),(.int .i64 0)] [(0,(1,(.t 18))),(1,(1,(.t 20)))]),jG 2 6 21]) .ret))))⟩
theorem c45:aF Try.prog GL [] Try.f45=some l45:=by kernel_rfl
def l46:aZ:=⟨157,[(.tmp 2)],
 (
 .seq (
 .region [jA 2 (.mv (.c .aj))]) (
 .seq (
 .region [qm 14 0,jA 15 (qS 14),jA 16 (.ct 1 8 [(.int .i64 0)] (.t 15) (.t 15)),qm 3 16]) (
 .seq (
 .region [qm 17 0,jA 18 (qS 17),jA 19 (.ct 1 8 [(.int .i64 0)] (.t 18) (.t 18)),qm 4 19]) (
 .seq (
 .region [qm 20 0,jA 21 (qS 20),jA 22 (.ct 1 8 [(.int .i64 0)] (.t 21) (.t 21)),qm 5 22]) (
 .seq (
 .region [qm 23 0,jA 24 (qS 23),jA 25 (.ct 1 8 [(.int .i64 0)] (.t 24) (.t 24)),qm 6 25]) (
 .seq (
 .region [jA 7 (.mv (.c .aj)),jA 8 (.mv (.c .aj))]) (
 .seq (
 .region [jA 9 (qC 0)]) (
 .seq (
 .seq (
 .region [qm 26 0,jA 27 (qS 26),jA 28 (qC 0)]) (.block 0 (.loop (
 .seq (
 .region [jA 29 (qB 28 27)]) (
 .seq (.cond (.t 29) .skip (.exit 0)) (
 .seq (.block 1 (
 .seq (
 .region [qm 30 28,qm 10 30]) (.scope (
 .seq (
 .seq (
 .region [qm 31 4,qm 32 10,jA 33 (qI 1 31 32),ql 34 33,jA 35 (.bin .eql (.t 34) (.c (.int .i64 0)))]) (.cond (.t 35) (
 .region [qm 36 8,qm 37 10,jA 38 (.bt 1 1 [(.int .i64 0)] [(0,(1,(.t 37)))]),jA 39 (.append 1 8 (.t 36) (.t 38)),qm 8 39]) .skip)) (
 .seq .skip (.block 2 (.loop (
 .seq (
 .seq (
 .region [qm 40 8,jA 41 (qS 40),jA 42 (.bin .gtr (.t 41) (.c (.int .i64 0)))]) (.cond (.t 42) .skip (.exit 2))) (.block 3 (
 .seq (
 .region [qm 43 8,qm 44 8,jA 45 (qS 44),jA 46 (.bin .sub (.t 45) (.c (.int .i64 1))),jA 47 (qI 1 43 46),ql 48 47,qm 11 48]) (
 .seq (
 .seq (
 .region [qm 49 4,qm 50 11,jA 51 (qI 1 49 50),ql 52 51,jA 53 (.bin .eql (.t 52) (.c (.int .i64 0)))]) (.cond (.t 53) (
 .seq (
 .region [qm 54 9,jA 55 (qA 54 1),qm 9 55]) (
 .seq (
 .region [qm 56 4,qm 57 11,qm 58 5,qm 59 11,qm 60 9,qm 61 9,jA 62 (qI 1 56 57),jG 1 62 60,jA 63 (qI 1 58 59),jG 1 63 61]) (
 .region [qm 64 7,qm 65 11,jA 66 (.bt 1 1 [(.int .i64 0)] [(0,(1,(.t 65)))]),jA 67 (.append 1 8 (.t 64) (.t 66)),qm 7 67]))) .skip)) (
 .seq (.block 4 (.loop (
 .seq (
 .seq (
 .region [jB 68 (qM 6),jB 69 (qM 11),jB 70 (qI 1 68 69),jB 71 (qL 70),jB 72 (qM 0),jB 73 (qM 11),jB 74 (qI 1 72 73),jB 75 (qL 74),jB 76 (qS 75),jB 77 (qB 71 76)]) (.cond (.t 77) .skip (.exit 4))) (.block 5 (
 .seq (
 .region [jB 78 (qM 0),jB 79 (qM 11),jB 80 (qI 1 78 79),jB 81 (qL 80),jB 82 (qM 6),jB 83 (qM 11),jB 84 (qI 1 82 83),jB 85 (qL 84),jB 86 (qI 1 81 85),jB 87 (qL 86),jB 12 (qM 87)]) (
 .seq (
 .seq (
 .region [qm 88 4,qm 89 12,jA 90 (qI 1 88 89),ql 91 90,jA 92 (.bin .eql (.t 91) (.c (.int .i64 0)))]) (.cond (.t 92) (
 .seq (
 .region [qm 93 8,qm 94 12,jA 95 (.bt 1 1 [(.int .i64 0)] [(0,(1,(.t 94)))]),jA 96 (.append 1 8 (.t 93) (.t 95)),qm 8 96]) (.exit 3)) .skip)) (
 .seq (
 .seq (
 .region [qm 97 3,qm 98 12,jA 99 (qI 1 97 98),ql 100 99,jA 101 (.bin .eql (.t 100) (.c (.int .i64 0)))]) (.cond (.t 101) (
 .region [jB 102 (qM 5),jB 103 (qM 11),jB 104 (qM 5),jB 105 (qM 11),jB 106 (qI 1 104 105),jB 107 (qL 106),jB 108 (qM 5),jB 109 (qM 12),jB 110 (qI 1 108 109),jB 111 (qL 110),jB 112 (.mJ false [(.t 107),(.t 111)]),jB 113 (qI 1 102 103),jH 1 113 112]) .skip)) (
 .region [qm 114 6,qm 115 11,jA 116 (qI 1 114 115),ql 117 116,jA 118 (qA 117 1),jA 119 (qI 1 114 115),jG 1 119 118])))))))) (
 .seq (
 .region [qm 120 8,qm 121 8,jA 122 (qS 121),jA 123 (.bin .sub (.t 122) (.c (.int .i64 1))),jA 124 (.slice 1 (.t 120) none (some (.t 123))),qm 8 124]) (
 .seq (
 .seq (
 .region [jB 125 (qM 5),jB 126 (qM 11),jB 127 (qI 1 125 126),jB 128 (qL 127),jB 129 (qM 4),jB 130 (qM 11),jB 131 (qI 1 129 130),jB 132 (qL 131),jB 133 (qB 128 132)]) (.cond (.t 133) (.exit 3) .skip)) (
 .seq (
 .region [jA 13 (.mv (.c (.int .i64 (-1))))]) (.block 6 (.loop (
 .seq (
 .seq (
 .region [qm 134 13,qm 135 11,jA 136 (.bin .neq (.t 134) (.t 135))]) (.cond (.t 136) .skip (.exit 6))) (.block 7 (
 .seq (
 .region [qm 137 7,qm 138 7,jA 139 (qS 138),jA 140 (.bin .sub (.t 139) (.c (.int .i64 1))),jA 141 (qI 1 137 140),ql 142 141,qm 13 142]) (
 .seq (
 .region [qm 143 7,qm 144 7,jA 145 (qS 144),jA 146 (.bin .sub (.t 145) (.c (.int .i64 1))),jA 147 (.slice 1 (.t 143) none (some (.t 146))),qm 7 147]) (
 .region [qm 148 3,qm 149 13,qm 150 4,qm 151 11,jA 152 (qI 1 150 151),ql 153 152,jA 154 (qI 1 148 149),jG 1 154 153])))))))))))))))))))))) (
 .region [jA 155 (qA 28 1),qm 28 155]))))))) (
 .seq (
 .region [qm 156 3,qm 2 156]) .ret)))))))))⟩
theorem c46:aF Try.prog GL [] Try.f46=some l46:=by kernel_rfl
def l47:aZ:=⟨34,[],
 (
 .seq (
 .region [jA 3 (qO 0)]) (
 .seq (
 .region [jA 8 (qF 0 2),ql 9 8,jA 10 (qN 2 3),jA 11 (.eD (.st [(0,(1, .int)),(1,(1, .int))]) (.int .i64 0) true (.t 9) (.t 10)),qm 7 11,jA 12 (.ext (.t 7) 0),jA 13 (.ext (.t 7) 1),qm 5 12,qm 6 13]) (
 .seq (
 .region [qm 14 6,jA 15 (.un .not (.t 14))]) (.cond (.t 15) (
 .seq (
 .region [jA 16 (qF 0 2),ql 17 16,jA 18 (qN 2 3),jA 19 (qF 1 2),ql 20 19,jA 21 (qS 20),⟨none,(.lQ (.st [(0,(1, .int)),(1,(1, .int))]) (.t 17) (.t 18) (.t 21)),none,[],false⟩]) (
 .seq (
 .region [jA 22 (qF 1 2),ql 23 22,jA 24 (qN 2 3),jA 25 (.bt 2 1 [(.int .i64 0),(.int .i64 0)] [(0,(2,(.t 24)))]),jA 26 (.append 2 16 (.t 23) (.t 25)),jA 27 (qF 1 2),jG 1 27 26]) (
 .region [jA 28 (qF 2 2),ql 29 28,qm 30 1,jA 31 (.bt 1 1 [(.int .i64 0)] [(0,(1,(.t 30)))]),jA 32 (.append 1 8 (.t 29) (.t 31)),jA 33 (qF 2 2),jG 1 33 32]))) .skip))))⟩
theorem c47:aF Try.prog GL [] Try.f47=some l47:=by kernel_rfl
def l48:aZ:=⟨20,[(.tmp 4)],
 (
 .seq (
 .region [jA 4 (qC 0)]) (
 .seq (
 .region [qm 7 0,jA 8 (qG 59 7),qm 5 8]) (
 .seq (
 .region [qm 9 1,jA 10 (qG 59 9),qm 6 10]) (
 .seq (
 .seq (
 .region [qm 11 5]) (.cond (.t 11) (
 .seq (
 .seq (
 .region [qm 12 6]) (.cond (.t 12) (
 .seq (
 .region [jA 4 (qC 0)]) .ret) .skip)) (
 .seq (
 .region [jA 4 (.mv (.c (.int .i64 (-1))))]) .ret)) .skip)) (
 .seq (
 .seq (
 .region [qm 13 6]) (.cond (.t 13) (
 .seq (
 .region [jA 4 (qC 1)]) .ret) .skip)) (
 .seq (
 .seq (
 .region [qm 14 0,qm 15 1,jA 16 (qB 14 15)]) (.cond (.t 16) (
 .seq (
 .region [jA 4 (.mv (.c (.int .i64 (-1))))]) .ret) .skip)) (
 .seq (
 .seq (
 .region [qm 17 0,qm 18 1,jA 19 (.bin .gtr (.t 17) (.t 18))]) (.cond (.t 19) (
 .seq (
 .region [jA 4 (qC 1)]) .ret) .skip)) (
 .seq (
 .region [jA 4 (qC 0)]) .ret))))))))⟩
theorem c48:aF Try.prog GL [] Try.f48=some l48:=by kernel_rfl
def l49:aZ:=⟨9,[(.tmp 2)],
 (
 .seq (
 .region [jA 2 (qK false)]) (
 .seq (
 .region [qm 3 0,jA 4 (.bin .geq (.t 3) (.c (.int .i64 0))),qm 5 4,jD 6 (qM 0) 5,jD 7 (.bin .lss (.t 6) (.c (.int .i64 64))) 5,jA 8 (.pick (.t 5) (.t 7) (.c (.bool false))),qm 2 8]) .ret))⟩
theorem c49:aF Try.prog GL [] Try.f49=some l49:=by kernel_rfl
def l50:aZ:=⟨24,[(.tmp 2)],
 (
 .seq (
 .region [jA 2 (.mv (.c (.str ⟨#[]⟩)))]) (
 .seq (
 .region [qm 7 0,jA 8 (qS 7),jA 9 (.bin .mul (.c (.int .i64 2)) (.t 8)),jA 10 (.ct 1 1 [(.int .u8 0)] (.c (.int .i64 0)) (.t 9)),jA 3 (.alloc [.aj]),jG 1 3 10]) (
 .seq (
 .region [jA 11 (.su (.func 60) [] [(.t 3)]),qm 4 11]) (
 .seq (
 .seq (
 .region [qm 12 0,jA 13 (qS 12),jA 14 (qC 0)]) (.block 0 (.loop (
 .seq (
 .region [jA 15 (qB 14 13)]) (
 .seq (.cond (.t 15) .skip (.exit 0)) (
 .seq (.block 1 (
 .seq (
 .region [jA 16 (qI 1 12 14),ql 17 16,qm 6 17]) (
 .region [qm 18 4,qm 19 6,jA 20 (.call (.t 18) [(.t 19)])]))) (
 .region [jA 21 (qA 14 1),qm 14 21]))))))) (
 .seq (
 .region [ql 22 3,jA 23 (.lF (.t 22)),qm 2 23]) .ret)))))⟩
theorem c50:aF Try.prog GL [] Try.f50=some l50:=by kernel_rfl
def l51:aZ:=⟨108,[(.tmp 6),(.cell 7 (some 2))],
 (
 .seq (
 .region [jA 3 (qO 0),jA 6 (.mv (.c .aj)),jA 7 (.alloc [.aj, .aj])]) (
 .seq (
 .seq (
 .region [jA 14 (qN 3 3),qm 15 1,jA 16 (.call (.c (.fn (.func 61) [] [])) [(.t 14),(.t 15)]),jA 17 (.un .not (.t 16)),qm 18 17,jC 19 (qM 2) 18,jC 20 (.bin .lss (.t 19) (.c (.int .i64 0))) 18,jA 21 (qP 18 20),qm 22 21,jC 23 (qM 2) 22,jC 24 (qF 0 3) 22,jC 25 (qL 24) 22,jC 26 (.bin .geq (.t 23) (.t 25)) 22,jA 27 (qP 22 26)]) (.cond (.t 27) (
 .seq (
 .region [jA 28 (.build [.aj, .aj] []),jA 6 (.mv (.c .aj)),jG 2 7 28]) .ret) .skip)) (
 .seq (
 .region [jA 29 (qN 3 3),qm 30 1,qm 31 2,jA 32 (.call (.c (.fn (.func 62) [] [])) [(.t 29),(.t 30),(.t 31)]),qm 8 32]) (
 .seq (
 .region [qm 33 8,jA 34 (qG 63 33)]) (
 .seq (
 .region [qm 35 8,jA 36 (qG 64 35)]) (
 .seq (
 .region [qm 37 8,jA 38 (qG 65 37)]) (
 .seq (
 .region [jA 9 (.mv (.c .aj))]) (
 .seq (
 .region [jA 10 (.alloc [.aj, .aj])]) (
 .seq (
 .region [qm 39 8,jA 40 (qS 39),jA 41 (.ct 1 8 [(.int .i64 0)] (.t 40) (.t 40)),qm 11 41]) (
 .seq (
 .seq (
 .region [qm 42 8,jA 43 (qS 42),jA 44 (qC 0)]) (.block 0 (.loop (
 .seq (
 .region [jA 45 (qB 44 43)]) (
 .seq (.cond (.t 45) .skip (.exit 0)) (
 .seq (.block 1 (
 .seq (
 .region [qm 46 44,jA 47 (qI 7 42 44),jA 48 (qN 7 47),jA 13 (.alloc [(.int .i64 0),(.int .i64 0), .aj, .bN,(.bool false),(.bool false),(.bool false)]),qm 12 46,jG 7 13 48]) (
 .seq (
 .seq (
 .region [jA 49 (qF 6 13),ql 50 49]) (.cond (.t 50) (
 .seq (
 .seq (
 .region [jA 51 (qF 4 13),ql 52 51]) (.cond (.t 52) (
 .region [jA 53 (qF 1 10),ql 54 53,jA 55 (qF 0 13),jA 56 (qF 0 55),ql 57 56,jA 58 (.bt 1 1 [(.int .i64 0)] [(0,(1,(.t 57)))]),jA 59 (.append 1 8 (.t 54) (.t 58)),jA 60 (qF 1 10),jG 1 60 59]) .skip)) (.exit 1)) .skip)) (
 .seq (
 .seq (
 .region [jA 61 (qF 5 13),ql 62 61]) (.cond (.t 62) (
 .region [jA 63 (qF 0 10),ql 64 63,jA 65 (qF 0 13),jA 66 (qF 0 65),ql 67 66,jA 68 (.bt 1 1 [(.int .i64 0)] [(0,(1,(.t 67)))]),jA 69 (.append 1 8 (.t 64) (.t 68)),jA 70 (qF 0 10),jG 1 70 69]) .skip)) (
 .seq (
 .region [qm 71 11,qm 72 12,qm 73 9,jA 74 (qS 73),jA 75 (qI 1 71 72),jG 1 75 74]) (
 .seq (
 .seq (
 .region [jA 76 (qF 0 13),jA 77 (qF 1 76),ql 78 77,jA 79 (.bin .geq (.t 78) (.c (.int .i64 0)))]) (.cond (.t 79) (
 .region [qm 80 11,jA 81 (qF 0 13),jA 82 (qF 1 81),ql 83 82,jA 84 (qI 1 80 83),ql 85 84,jA 86 (qF 0 13),jA 87 (qF 1 86),jG 1 87 85]) .skip)) (
 .seq (
 .region [jA 88 (qF 3 13),ql 89 88,jA 90 (qG 67 89),jA 91 (qG 66 90),jA 92 (qF 0 13),jA 93 (qF 2 92),jG 1 93 91]) (
 .region [qm 94 9,jA 95 (qF 0 13),jA 96 (qN 3 95),jA 97 (.bt 3 1 [(.int .i64 0),(.int .i64 0), .aj] [(0,(3,(.t 96)))]),jA 98 (.append 3 40 (.t 94) (.t 97)),qm 9 98])))))))) (
 .region [jA 99 (qA 44 1),qm 44 99]))))))) (
 .seq (
 .region [jA 100 (qF 0 10),ql 101 100,jA 102 (qG 68 101)]) (
 .seq (
 .region [jA 103 (qF 1 10),ql 104 103,jA 105 (qG 68 104)]) (
 .seq (
 .region [jB 106 (qM 9),jB 107 (qN 2 10),jB 6 (qM 106),jH 2 7 107]) .ret)))))))))))))⟩
theorem c51:aF Try.prog GL [] Try.f51=some l51:=by kernel_rfl
def l52:aZ:=⟨46,[(.tmp 4)],
 (
 .seq (
 .region [jA 4 (qK false)]) (
 .seq (
 .seq (
 .region [qm 8 1,jA 9 (.bin .lss (.t 8) (.c (.int .i64 0))),qm 10 9,jC 11 (qM 1) 10,jC 12 (.bin .gtr (.t 11) (.c (.int .i64 6000))) 10,jA 13 (qP 10 12),qm 14 13,jC 15 (qM 0) 14,jC 16 (qS 15) 14,jC 17 (qM 1) 14,jC 18 (.bin .neq (.t 16) (.t 17)) 14,jA 19 (qP 14 18)]) (.cond (.t 19) (
 .seq (
 .region [jA 4 (qK false)]) .ret) .skip)) (
 .seq (
 .region [qm 20 1,jA 21 (qA 20 1),jA 22 (.ct 1 1 [(.bool false)] (.t 21) (.t 21)),qm 5 22]) (
 .seq (
 .seq (
 .region [qm 23 0,jA 24 (qS 23),jA 25 (qC 0)]) (.block 0 (.loop (
 .seq (
 .region [jA 26 (qB 25 24)]) (
 .seq (.cond (.t 26) .skip (.exit 0)) (
 .seq (.block 1 (
 .seq (
 .region [jA 27 (qI 1 23 25),ql 28 27,qm 7 28]) (
 .seq (
 .seq (
 .region [qm 29 7,jA 30 (.bin .lss (.t 29) (.c (.int .i64 1))),qm 31 30,jC 32 (qM 7) 31,jC 33 (qM 1) 31,jC 34 (.bin .gtr (.t 32) (.t 33)) 31,jA 35 (qP 31 34),qm 36 35,jC 37 (qM 5) 36,jC 38 (qM 7) 36,jC 39 (qI 1 37 38) 36,jC 40 (qL 39) 36,jA 41 (qP 36 40)]) (.cond (.t 41) (
 .seq (
 .region [jA 4 (qK false)]) .ret) .skip)) (
 .region [qm 42 5,qm 43 7,jA 44 (qI 1 42 43),⟨none,(.store 1 (.t 44) (.c (.bool true))),none,[],false⟩])))) (
 .region [jA 45 (qA 25 1),qm 25 45]))))))) (
 .seq (
 .region [jA 4 (qK true)]) .ret)))))⟩
theorem c52:aF Try.prog GL [] Try.f52=some l52:=by kernel_rfl
def l53:aZ:=⟨18,[(.tmp 4)],
 (
 .seq (
 .region [jA 2 (qO 0),jA 3 (qO 1),jA 4 (.mv (.c .bN))]) (
 .seq (
 .region [jA 7 (.iq none),jA 5 (.alloc [.bN]),jG 1 5 7]) (
 .seq (
 .region [jA 8 (.su (.func 69) [] [(.t 3),(.t 5)]),qm 6 8]) (
 .seq (
 .region [qm 9 6,jA 10 (qF 0 2),ql 11 10,jA 12 (.call (.t 9) [(.t 11),(.c (.int .i64 1))])]) (
 .seq (
 .region [qm 13 6,jA 14 (qF 1 2),ql 15 14,jA 16 (.call (.t 13) [(.t 15),(.c (.int .i64 2))])]) (
 .seq (
 .region [ql 17 5,qm 4 17]) .ret))))))⟩
theorem c53:aF Try.prog GL [] Try.f53=some l53:=by kernel_rfl
def l54:aZ:=⟨8,[(.tmp 3)],
 (
 .seq (
 .region [jA 3 (qK false)]) (
 .seq (
 .region [ql 4 1,qm 5 0,jA 6 (.eD (.int .i64) (.int .i64 0) false (.t 4) (.t 5)),jA 7 (.bin .eql (.t 6) (.c (.int .i64 2))),qm 3 7]) .ret))⟩
theorem c54:aF Try.prog GL [] Try.f54=some l54:=by kernel_rfl
def l55:aZ:=⟨8,[(.tmp 3)],
 (
 .seq (
 .region [jA 3 (qK false)]) (
 .seq (
 .region [ql 4 1,qm 5 0,jA 6 (.eD (.int .i64) (.int .i64 0) false (.t 4) (.t 5)),jA 7 (.bin .eql (.t 6) (.c (.int .i64 1))),qm 3 7]) .ret))⟩
theorem c55:aF Try.prog GL [] Try.f55=some l55:=by kernel_rfl
def l56:aZ:=⟨21,[(.tmp 4)],
 (
 .seq (
 .region [jA 4 (qC 0)]) (
 .seq (
 .seq (
 .region [qm 7 0,jA 8 (qS 7),jA 9 (qC 0)]) (.block 0 (.loop (
 .seq (
 .region [jA 10 (qB 9 8)]) (
 .seq (.cond (.t 10) .skip (.exit 0)) (
 .seq (.block 1 (
 .seq (
 .region [qm 11 9,jA 12 (qI 1 7 9),ql 13 12,qm 5 11,qm 6 13]) (
 .seq (
 .region [qm 14 1,qm 15 6,jA 16 (.call (.t 14) [(.t 15)])]) (.cond (.t 16) (
 .seq (
 .region [qm 17 5,qm 4 17]) .ret) .skip)))) (
 .region [jA 18 (qA 9 1),qm 9 18]))))))) (
 .seq (
 .region [qm 19 0,jA 20 (qS 19),qm 4 20]) .ret)))⟩
theorem c56:aF Try.prog GL [] Try.f56=some l56:=by kernel_rfl
def l57:aZ:=⟨55,[(.cell 2 (some 2))],
 (
 .seq (
 .region [jA 1 (qO 0),jA 2 (.alloc [.aj, .aj])]) (
 .seq (
 .region [jB 7 (qF 1 1),jB 8 (qL 7),jB 9 (qF 1 1),jB 10 (qL 9),⟨(some 11),(.call (.c (.fn (.func 70) [] [])) [(.t 10)]),none,[(8,(none,(.load none (.t 7))))],true⟩,jB 12 (.slice 1 (.t 8) none (some (.t 11))),jB 3 (qM 12)]) (
 .seq (
 .region [qm 13 3,jA 14 (qS 13),qm 4 14]) (
 .seq (
 .region [jA 15 (qF 0 1),ql 16 15,jA 17 (qS 16),qm 5 17,jA 6 (qC 0)]) (
 .seq (.block 0 (.loop (
 .seq (
 .seq (
 .region [jB 18 (qM 5),jB 19 (.bin .gtr (.t 18) (.c (.int .i64 0))),jB 20 (qM 19),jE 21 (qF 0 1) 20,jE 22 (qL 21) 20,jE 23 (qM 5) 20,jE 24 (.bin .sub (.t 23) (.c (.int .i64 1))) 20,jE 25 (qI 1 22 24) 20,jE 26 (qL 25) 20,jE 27 (qM 3) 20,jE 28 (qM 4) 20,jE 29 (.bin .sub (.t 28) (.c (.int .i64 1))) 20,jE 30 (qM 6) 20,jE 31 (.bin .sub (.t 29) (.t 30)) 20,jE 32 (qI 1 27 31) 20,jE 33 (qL 32) 20,jE 34 (.bin .eql (.t 26) (.t 33)) 20,jB 35 (.pick (.t 20) (.t 34) (.c (.bool false)))]) (.cond (.t 35) .skip (.exit 0))) (.block 1 (
 .seq (
 .region [qm 36 5,jA 37 (.bin .sub (.t 36) (.c (.int .i64 1))),qm 5 37]) (
 .region [qm 38 6,jA 39 (qA 38 1),qm 40 4,jA 41 (.bin .rem (.t 39) (.t 40)),qm 6 41])))))) (
 .seq (
 .region [jB 42 (qF 0 1),jB 43 (qL 42),jB 44 (qM 5),jB 45 (.slice 1 (.t 43) none (some (.t 44))),jB 47 (qM 3),jB 48 (qM 4),jB 49 (qM 6),jB 50 (.bin .sub (.t 48) (.t 49)),jB 51 (qM 4),jB 52 (.bin .rem (.t 50) (.t 51)),jB 46 (qG 30 45),jB 53 (.call (.c (.fn (.func 71) [] [])) [(.t 47),(.t 52)]),jB 54 (.build [.aj, .aj] [(0,(1,(.t 46))),(1,(1,(.t 53)))]),jH 2 2 54]) .ret))))))⟩
theorem c57:aF Try.prog GL [] Try.f57=some l57:=by kernel_rfl
def l58:aZ:=⟨27,[(.tmp 4)],
 (
 .seq (
 .region [jA 4 (.mv (.c .aj))]) (
 .seq (
 .seq (
 .region [qm 5 1,jA 6 (.bin .lss (.t 5) (.c (.int .i64 0)))]) (.cond (.t 6) .bad .skip)) (
 .seq (
 .seq (
 .region [qm 8 1,qm 9 0,jA 10 (.Ht (.t 9)),qm 11 0,jA 12 (qS 11),jA 13 (.bin .sub (.t 10) (.t 12)),jA 14 (.bin .sub (.t 8) (.t 13)),qm 1 14]) (
 .seq (
 .region [qm 15 1,jA 16 (.bin .gtr (.t 15) (.c (.int .i64 0)))]) (.cond (.t 16) (
 .region [qm 17 0,qm 18 0,jA 19 (.Ht (.t 18)),jA 20 (.slice 1 (.t 17) none (some (.t 19))),qm 21 1,jA 22 (.Hy 1 8 [(.int .i64 0)] (.t 20) (.t 21)),qm 23 0,jA 24 (qS 23),jA 25 (.slice 1 (.t 22) none (some (.t 24))),qm 0 25]) .skip))) (
 .seq (
 .region [qm 26 0,qm 4 26]) .ret))))⟩
theorem c58:aF Try.prog GL [] Try.f58=some l58:=by kernel_rfl
def l59:aZ:=⟨6,[(.tmp 2)],
 (
 .seq (
 .region [jA 2 (qK false)]) (
 .seq (
 .region [qm 3 0,qm 4 0,jA 5 (.bin .neq (.t 3) (.t 4)),qm 2 5]) .ret))⟩
theorem c59:aF Try.prog GL [] Try.f59=some l59:=by kernel_rfl
def l60:aZ:=⟨11,[],
 (
 .region [ql 3 1,qm 4 0,jA 5 (.oA .u8 (.t 4)),qm 6 0,jA 7 (.bin .shr (.t 6) (.c (.int .u64 8))),jA 8 (.oA .u8 (.t 7)),jA 9 (.bt 1 2 [(.int .u8 0)] [(0,(1,(.t 5))),(1,(1,(.t 8)))]),jA 10 (.append 1 1 (.t 3) (.t 9)),jG 1 1 10])⟩
theorem c60:aF Try.prog GL [] Try.f60=some l60:=by kernel_rfl
def l61:aZ:=⟨22,[(.tmp 4)],
 (
 .seq (
 .region [jA 2 (qO 0),jA 4 (qK false)]) (
 .seq (
 .region [jA 5 (qN 3 2),jA 6 (qG 15 5),qm 7 6,jD 8 (qM 1) 7,jD 9 (qS 8) 7,jD 10 (qF 2 2) 7,jD 11 (qL 10) 7,jD 12 (qS 11) 7,jD 13 (.bin .leq (.t 9) (.t 12)) 7,jA 14 (.pick (.t 7) (.t 13) (.c (.bool false))),qm 15 14,jD 16 (qF 2 2) 15,jD 17 (qL 16) 15,jD 18 (qS 17) 15,jD 19 (qM 1) 15,jD 20 (.call (.c (.fn (.func 72) [] [])) [(.t 18),(.t 19)]) 15,jA 21 (.pick (.t 15) (.t 20) (.c (.bool false))),qm 4 21]) .ret))⟩
theorem c61:aF Try.prog GL [] Try.f61=some l61:=by kernel_rfl
def l62:aZ:=⟨53,[(.tmp 6)],
 (
 .seq (
 .region [jA 3 (qO 0),jA 6 (.mv (.c .aj))]) (
 .seq (
 .region [jA 7 (.mv (.c .aj))]) (
 .seq (
 .seq (
 .region [qm 14 1,jA 15 (qS 14),jA 16 (qC 0)]) (.block 0 (.loop (
 .seq (
 .region [jA 17 (qB 16 15)]) (
 .seq (.cond (.t 17) .skip (.exit 0)) (
 .seq (.block 1 (
 .seq (
 .region [jA 18 (qI 3 14 16),jA 19 (qN 3 18),jA 9 (.alloc [(.int .i64 0),(.int .i64 0), .aj]),jG 3 9 19]) (
 .seq (
 .region [jA 20 (qN 3 3),jA 21 (qF 2 9),ql 22 21,qm 23 2,jA 24 (.call (.c (.fn (.func 73) [] [])) [(.t 20),(.t 22),(.t 23),(.c (.fn (.func 74) [] []))]),qm 10 24]) (
 .region [qm 25 7,jA 26 (qN 3 9),qm 27 10,jA 28 (.build [(.int .i64 0),(.int .i64 0), .aj, .bN,(.bool false),(.bool false),(.bool false)] [(0,(3,(.t 26))),(3,(1,(.t 27))),(4,(1,(.c (.bool true))))]),jA 29 (.bt 7 1 [(.int .i64 0),(.int .i64 0), .aj, .bN,(.bool false),(.bool false),(.bool false)] [(0,(7,(.t 28)))]),jA 30 (.append 7 56 (.t 25) (.t 29)),qm 7 30])))) (
 .region [jA 31 (qA 16 1),qm 16 31]))))))) (
 .seq (
 .seq (
 .region [qm 32 1,jA 33 (qS 32),jA 34 (qC 0)]) (.block 2 (.loop (
 .seq (
 .region [jA 35 (qB 34 33)]) (
 .seq (.cond (.t 35) .skip (.exit 2)) (
 .seq (.block 3 (
 .seq (
 .region [qm 36 34,jA 37 (qI 3 32 34),jA 38 (qN 3 37),jA 12 (.alloc [(.int .i64 0),(.int .i64 0), .aj]),qm 11 36,jG 3 12 38]) (
 .seq (
 .region [jA 39 (qN 3 3),jA 40 (qF 2 12),ql 41 40,qm 42 2,jA 43 (.call (.c (.fn (.func 73) [] [])) [(.t 39),(.t 41),(.t 42),(.c (.fn (.func 75) [] []))]),qm 13 43]) (
 .region [qm 44 7,qm 45 11,jA 46 (.build [(.int .i64 0),(.int .i64 0), .aj] [(1,(1,(.t 45)))]),qm 47 13,jA 48 (.build [(.int .i64 0),(.int .i64 0), .aj, .bN,(.bool false),(.bool false),(.bool false)] [(0,(3,(.t 46))),(3,(1,(.t 47)))]),jA 49 (.bt 7 1 [(.int .i64 0),(.int .i64 0), .aj, .bN,(.bool false),(.bool false),(.bool false)] [(0,(7,(.t 48)))]),jA 50 (.append 7 56 (.t 44) (.t 49)),qm 7 50])))) (
 .region [jA 51 (qA 34 1),qm 34 51]))))))) (
 .seq (
 .region [qm 52 7,qm 6 52]) .ret)))))⟩
theorem c62:aF Try.prog GL [] Try.f62=some l62:=by kernel_rfl
def l63:aZ:=⟨87,[],
 (
 .seq (
 .region [qm 7 0,jA 8 (qS 7),jA 9 (.ct 1 8 [.bN] (.t 8) (.t 8)),qm 2 9]) (
 .seq (
 .region [qm 10 0,jA 11 (qS 10),jA 12 (qC 0)]) (.block 0 (.loop (
 .seq (
 .region [jA 13 (qB 12 11)]) (
 .seq (.cond (.t 13) .skip (.exit 0)) (
 .seq (.block 1 (
 .seq (
 .region [qm 14 12,qm 3 14]) (
 .seq (
 .region [qm 15 0,qm 16 3,jA 17 (qI 7 15 16),qm 4 17]) (
 .seq (
 .region [qm 18 2,qm 19 3,jA 20 (.iq none),jA 21 (qI 1 18 19),jG 1 21 20]) (
 .seq (
 .seq (
 .region [qm 22 4,jA 23 (.bP (.t 22)),jA 24 (qF 0 23),jA 25 (qF 1 24),ql 26 25,jA 27 (.bin .geq (.t 26) (.c (.int .i64 0)))]) (.cond (.t 27) (
 .seq (
 .region [jA 28 (.iq none),qm 5 28]) (
 .seq (
 .seq (
 .region [qm 29 4,jA 30 (.bP (.t 29)),jA 31 (qF 3 30),ql 32 31,jA 33 (.oc (.t 32))]) (.block 2 (.loop (
 .seq (
 .region [jA 34 (.ku (.t 33)),jA 35 (.ext (.t 34) 0)]) (
 .seq (.cond (.t 35) .skip (.exit 2)) (.block 3 (
 .seq (
 .region [jA 36 (.od (.t 33)),jA 37 (.ext (.t 36) 0),qm 6 37]) (
 .seq (
 .region [qm 38 0,qm 39 4,jA 40 (.bP (.t 39)),jA 41 (qF 0 40),jA 42 (qF 1 41),ql 43 42,jA 44 (qI 7 38 43),jA 45 (qF 3 44),ql 46 45,qm 47 6,jA 48 (.eD (.int .i64) (.bool false) false (.t 46) (.t 47)),qm 49 48,jD 50 (qM 2) 49,jD 51 (qM 4) 49,jD 52 (.bP (.t 51)) 49,jD 53 (qF 0 52) 49,jD 54 (qF 1 53) 49,jD 55 (qL 54) 49,jD 56 (qI 1 50 55) 49,jD 57 (qL 56) 49,jD 58 (qM 6) 49,jD 59 (.eD (.int .i64) (.bool false) false (.t 57) (.t 58)) 49,jD 60 (.un .not (.t 59)) 49,jA 61 (.pick (.t 49) (.t 60) (.c (.bool false)))]) (.cond (.t 61) (
 .seq (
 .region [qm 62 5,qm 63 6,⟨none,(.lQ (.int .i64) (.t 62) (.t 63) (.c (.bool true))),none,[],false⟩]) (
 .region [qm 64 2,qm 65 4,jA 66 (.bP (.t 65)),jA 67 (qF 0 66),jA 68 (qF 1 67),ql 69 68,jA 70 (qI 1 64 69),ql 71 70,qm 72 6,⟨none,(.lQ (.int .i64) (.t 71) (.t 72) (.c (.bool true))),none,[],false⟩])) .skip))))))))) (
 .region [qm 73 4,qm 74 5,jA 75 (.bP (.t 73)),jA 76 (qF 3 75),jG 1 76 74]))) .skip)) (
 .region [qm 77 4,qm 78 4,jA 79 (.bP (.t 78)),jA 80 (qF 3 79),ql 81 80,jA 82 (.kn (.t 81)),jA 83 (.bin .eql (.t 82) (.c (.int .i64 0))),jA 84 (.bP (.t 77)),jA 85 (qF 6 84),jG 1 85 83])))))) (
 .region [jA 86 (qA 12 1),qm 12 86]))))))))⟩
theorem c63:aF Try.prog GL [] Try.f63=some l63:=by kernel_rfl
def l64:aZ:=⟨92,[],
 (
 .seq (
 .region [qm 7 0,jA 8 (qS 7),jA 9 (.ct 1 8 [(.int .i64 0)] (.t 8) (.t 8)),qm 2 9]) (
 .seq (
 .seq (
 .region [qm 10 0,jA 11 (qS 10),jA 12 (qC 0)]) (.block 0 (.loop (
 .seq (
 .region [jA 13 (qB 12 11)]) (
 .seq (.cond (.t 13) .skip (.exit 0)) (
 .seq (.block 1 (
 .seq (
 .region [jA 14 (qI 7 10 12),jA 15 (qN 7 14),jA 4 (.alloc [(.int .i64 0),(.int .i64 0), .aj, .bN,(.bool false),(.bool false),(.bool false)]),jG 7 4 15]) (
 .seq (
 .region [jA 16 (qF 0 4),jA 17 (qF 1 16),ql 18 17,jA 19 (.bin .geq (.t 18) (.c (.int .i64 0)))]) (.cond (.t 19) (
 .region [jB 20 (qM 2),jB 21 (qF 0 4),jB 22 (qF 1 21),jB 23 (qL 22),jB 24 (qI 1 20 23),jB 25 (qL 24),jB 26 (qF 3 4),jB 27 (qL 26),jB 28 (.kn (.t 27)),jB 29 (.bin .add (.t 25) (.t 28)),jB 30 (qI 1 20 23),jH 1 30 29]) .skip)))) (
 .region [jA 31 (qA 12 1),qm 12 31]))))))) (
 .seq (
 .region [qm 32 0,jA 33 (qS 32),jA 34 (qC 0)]) (.block 2 (.loop (
 .seq (
 .region [jA 35 (qB 34 33)]) (
 .seq (.cond (.t 35) .skip (.exit 2)) (
 .seq (.block 3 (
 .seq (
 .region [qm 36 34,qm 5 36]) (
 .seq (
 .region [qm 37 0,qm 38 5,jA 39 (qI 7 37 38),qm 6 39]) (
 .seq (
 .seq (
 .region [qm 40 6,jA 41 (.bP (.t 40)),jA 42 (qF 0 41),jA 43 (qF 1 42),ql 44 43,jA 45 (.bin .geq (.t 44) (.c (.int .i64 0))),qm 46 45,jD 47 (qM 0) 46,jD 48 (qM 6) 46,jD 49 (.bP (.t 48)) 46,jD 50 (qF 0 49) 46,jD 51 (qF 1 50) 46,jD 52 (qL 51) 46,jD 53 (qI 7 47 52) 46,jD 54 (qF 5 53) 46,jD 55 (qL 54) 46,jD 56 (qM 55) 46,jC 57 (qM 0) 56,jC 58 (qM 6) 56,jC 59 (.bP (.t 58)) 56,jC 60 (qF 0 59) 56,jC 61 (qF 1 60) 56,jC 62 (qL 61) 56,jC 63 (qI 7 57 62) 56,jC 64 (qF 6 63) 56,jC 65 (qL 64) 56,jD 66 (qP 56 65) 46,jA 67 (.pick (.t 46) (.t 66) (.c (.bool false)))]) (.cond (.t 67) (
 .region [qm 68 6,jA 69 (.bP (.t 68)),jA 70 (qF 6 69),⟨none,(.store 1 (.t 70) (.c (.bool true))),none,[],false⟩]) .skip)) (
 .region [jB 71 (qM 6),jB 72 (qM 6),jB 73 (.bP (.t 72)),jB 74 (qF 6 73),jB 75 (qL 74),jB 76 (.un .not (.t 75)),jB 77 (qM 76),jE 78 (qM 2) 77,jE 79 (qM 5) 77,jE 80 (qI 1 78 79) 77,jE 81 (qL 80) 77,jE 82 (qM 6) 77,jE 83 (.bP (.t 82)) 77,jE 84 (qF 3 83) 77,jE 85 (qL 84) 77,jE 86 (.kn (.t 85)) 77,jE 87 (.bin .eql (.t 81) (.t 86)) 77,jB 88 (.pick (.t 77) (.t 87) (.c (.bool false))),jB 89 (.bP (.t 71)),jB 90 (qF 5 89),jH 1 90 88]))))) (
 .region [jA 91 (qA 34 1),qm 34 91])))))))))⟩
theorem c64:aF Try.prog GL [] Try.f64=some l64:=by kernel_rfl
def l65:aZ:=⟨50,[],
 (.scope (
 .seq (
 .region [jA 7 (.iq none),qm 2 7]) (
 .seq (
 .seq (
 .region [qm 8 0,jA 9 (.call (.c (.fn (.func 76) [] [])) [(.t 8),(.c (.fn (.func 77) [] []))]),jA 10 (qS 9),jA 11 (qC 0)]) (.block 0 (.loop (
 .seq (
 .region [jA 12 (qB 11 10)]) (
 .seq (.cond (.t 12) .skip (.exit 0)) (
 .seq (.block 1 (
 .seq (
 .region [jA 13 (qI 7 9 11),jA 14 (qN 7 13),jA 4 (.alloc [(.int .i64 0),(.int .i64 0), .aj, .bN,(.bool false),(.bool false),(.bool false)]),jG 7 4 14]) (
 .region [qm 15 2,jA 16 (qF 0 4),jA 17 (qF 0 16),ql 18 17,⟨none,(.lQ (.int .i64) (.t 15) (.t 18) (.c (.bool true))),none,[],false⟩]))) (
 .region [jA 19 (qA 11 1),qm 11 19]))))))) (
 .seq (
 .region [jA 5 (qC 0)]) (
 .seq .skip (
 .seq (
 .region [qm 20 0,jA 21 (qS 20),jA 22 (qC 0)]) (.block 2 (.loop (
 .seq (
 .region [jA 23 (qB 22 21)]) (
 .seq (.cond (.t 23) .skip (.exit 2)) (
 .seq (.block 3 (
 .seq (
 .region [qm 24 22,qm 6 24]) (
 .seq (
 .seq (
 .region [qm 25 0,qm 26 6,jA 27 (qI 7 25 26),jA 28 (qF 4 27),ql 29 28,qm 30 29,jC 31 (qM 0) 30,jC 32 (qM 6) 30,jC 33 (qI 7 31 32) 30,jC 34 (qF 6 33) 30,jC 35 (qL 34) 30,jA 36 (qP 30 35)]) (.cond (.t 36) (.exit 3) .skip)) (.block 4 (.loop (.block 5 (
 .seq (
 .region [qm 37 5,jA 38 (qA 37 1),qm 5 38]) (
 .seq (
 .region [qm 39 2,qm 40 5,jA 41 (.eD (.int .i64) (.bool false) false (.t 39) (.t 40)),jA 42 (.un .not (.t 41))]) (.cond (.t 42) (
 .seq (
 .region [qm 43 0,qm 44 6,qm 45 5,jA 46 (qI 7 43 44),jA 47 (qF 0 46),jA 48 (qF 0 47),jG 1 48 45]) (.exit 3)) .skip))))))))) (
 .region [jA 49 (qA 22 1),qm 22 49]))))))))))))⟩
theorem c65:aF Try.prog GL [] Try.f65=some l65:=by kernel_rfl
def l66:aZ:=⟨9,[(.tmp 2)],
 (
 .seq (
 .region [jA 2 (.mv (.c .aj))]) (
 .seq (
 .region [qm 4 0,jA 5 (qG 78 4),qm 3 5]) (
 .seq (
 .region [qm 6 3,jA 7 (qG 68 6)]) (
 .seq (
 .region [qm 8 3,qm 2 8]) .ret))))⟩
theorem c66:aF Try.prog GL [] Try.f66=some l66:=by kernel_rfl
def l67:aZ:=⟨4,[(.tmp 2)],
 (
 .seq (
 .region [jA 1 (.box false (.t 0)),jA 2 (.mv (.c .jh))]) (
 .seq (
 .region [jA 3 (.su (.func 79) [] [(.t 1)]),qm 2 3]) .ret))⟩
theorem c67:aF Try.prog GL [1] Try.f67=some l67:=by kernel_rfl
def l69:aZ:=⟨25,[],
 (
 .seq (
 .region [qm 8 0,jA 9 (qS 8),jA 10 (qC 0)]) (.block 0 (.loop (
 .seq (
 .region [jA 11 (qB 10 9)]) (
 .seq (.cond (.t 11) .skip (.exit 0)) (
 .seq (.block 1 (
 .seq (
 .region [jA 12 (qI 1 8 10),ql 13 12,qm 7 13]) (
 .seq (
 .region [qm 14 7,jA 15 (.bin .geq (.t 14) (.c (.int .i64 1))),qm 16 15,jD 17 (qM 7) 16,jD 18 (qL 2) 16,jD 19 (.bin .leq (.t 17) (.t 18)) 16,jA 20 (.pick (.t 16) (.t 19) (.c (.bool false)))]) (.cond (.t 20) (
 .region [ql 21 3,qm 22 7,qm 23 1,⟨none,(.lQ (.int .i64) (.t 21) (.t 22) (.t 23)),none,[],false⟩]) .skip)))) (
 .region [jA 24 (qA 10 1),qm 10 24])))))))⟩
theorem c69:aF Try.prog GL [] Try.f69=some l69:=by kernel_rfl
def l70:aZ:=⟨30,[(.tmp 2)],
 (
 .seq (
 .region [jA 2 (qC 0)]) (
 .seq (
 .seq (
 .region [jA 3 (qC 1)]) (.block 0 (.loop (
 .seq (
 .seq (
 .region [qm 4 3,qm 5 0,jA 6 (qS 5),jA 7 (qB 4 6)]) (.cond (.t 7) .skip (.exit 0))) (
 .seq (.block 1 (
 .seq (
 .region [jB 10 (qM 0),jB 11 (qS 10),jB 12 (qM 3),jB 13 (.bin .rem (.t 11) (.t 12)),jB 14 (.bin .eql (.t 13) (.c (.int .i64 0))),jB 15 (qM 14),jE 16 (qM 0) 15,jE 17 (qM 3) 15,jE 18 (.slice 1 (.t 16) (some (.t 17)) none) 15,jE 19 (qM 0) 15,jE 20 (qM 0) 15,jE 21 (qS 20) 15,jE 22 (qM 3) 15,jE 23 (.bin .sub (.t 21) (.t 22)) 15,jE 24 (.slice 1 (.t 19) none (some (.t 23))) 15,jE 25 (.call (.c (.fn (.func 82) [] [])) [(.t 18),(.t 24)]) 15,jB 26 (.pick (.t 15) (.t 25) (.c (.bool false)))]) (.cond (.t 26) (
 .seq (
 .region [qm 27 3,qm 2 27]) .ret) .skip))) (
 .region [qm 8 3,jA 9 (qA 8 1),qm 3 9])))))) (
 .seq (
 .region [qm 28 0,jA 29 (qS 28),qm 2 29]) .ret)))⟩
theorem c70:aF Try.prog GL [] Try.f70=some l70:=by kernel_rfl
def l71:aZ:=⟨23,[(.tmp 4)],
 (
 .seq (
 .region [jA 4 (.mv (.c .aj))]) (
 .seq (
 .region [qm 7 0,jA 8 (qS 7),jA 9 (.ct 1 8 [(.int .i64 0)] (.t 8) (.t 8)),qm 5 9]) (
 .seq (
 .region [qm 10 5,qm 11 0,qm 12 1,jA 13 (.slice 1 (.t 11) (some (.t 12)) none),jA 14 (.copy 1 (.t 10) (.t 13)),qm 6 14]) (
 .seq (
 .region [jB 15 (qM 5),jB 16 (qM 6),jB 17 (.slice 1 (.t 15) (some (.t 16)) none),jB 18 (qM 0),jB 19 (qM 1),jB 20 (.slice 1 (.t 18) none (some (.t 19))),jB 21 (.copy 1 (.t 17) (.t 20))]) (
 .seq (
 .region [qm 22 5,qm 4 22]) .ret)))))⟩
theorem c71:aF Try.prog GL [] Try.f71=some l71:=by kernel_rfl
def l72:aZ:=⟨161,[(.tmp 4)],
 (
 .seq (
 .region [jA 4 (qK false)]) (
 .seq (
 .region [jA 14 (.iq none),qm 5 14]) (
 .seq (
 .region [qm 15 1,jA 16 (qS 15),jA 17 (.ct 1 8 [.bN] (.t 16) (.t 16)),qm 6 17]) (
 .seq (
 .region [qm 18 1,jA 19 (qS 18),jA 20 (.ct 1 8 [.bN] (.t 19) (.t 19)),qm 7 20]) (
 .seq (
 .seq (
 .region [qm 21 1,jA 22 (qS 21),jA 23 (qC 0)]) (.block 0 (.loop (
 .seq (
 .region [jA 24 (qB 23 22)]) (
 .seq (.cond (.t 24) .skip (.exit 0)) (
 .seq (.block 1 (
 .seq (
 .region [qm 25 23,jA 26 (qI 3 21 23),jA 27 (qN 3 26),jA 9 (.alloc [(.int .i64 0),(.int .i64 0), .aj]),qm 8 25,jG 3 9 27]) (
 .seq (
 .seq (
 .region [qm 28 8,jA 29 (.bin .eql (.t 28) (.c (.int .i64 0))),qm 30 29,jD 31 (qF 1 9) 30,jD 32 (qL 31) 30,jD 33 (.bin .neq (.t 32) (.c (.int .i64 (-1)))) 30,jA 34 (.pick (.t 30) (.t 33) (.c (.bool false))),qm 35 34,jC 36 (qM 8) 35,jC 37 (.bin .gtr (.t 36) (.c (.int .i64 0))) 35,jC 38 (qM 37) 35,jD 39 (qF 1 9) 38,jD 40 (qL 39) 38,jD 41 (.bin .lss (.t 40) (.c (.int .i64 0))) 38,jD 42 (qM 41) 38,jC 43 (qF 1 9) 42,jC 44 (qL 43) 42,jC 45 (qM 8) 42,jC 46 (.bin .geq (.t 44) (.t 45)) 42,jD 47 (qP 42 46) 38,jC 48 (.pick (.t 38) (.t 47) (.c (.bool false))) 35,jA 49 (qP 35 48)]) (.cond (.t 49) (
 .seq (
 .region [jA 4 (qK false)]) .ret) .skip)) (
 .seq (
 .seq (
 .region [jA 50 (qF 0 9),ql 51 50,jA 52 (.bin .lss (.t 51) (.c (.int .i64 1))),qm 53 52,jC 54 (qF 0 9) 53,jC 55 (qL 54) 53,jC 56 (qM 0) 53,jC 57 (.bin .mul (.c (.int .i64 2)) (.t 56)) 53,jC 58 (.bin .gtr (.t 55) (.t 57)) 53,jA 59 (qP 53 58),qm 60 59,jC 61 (qM 5) 60,jC 62 (qF 0 9) 60,jC 63 (qL 62) 60,jC 64 (.eD (.int .i64) (.bool false) false (.t 61) (.t 63)) 60,jA 65 (qP 60 64),qm 66 65,jC 67 (qF 2 9) 66,jC 68 (qL 67) 66,jC 69 (qS 68) 66,jC 70 (.bin .eql (.t 69) (.c (.int .i64 0))) 66,jA 71 (qP 66 70)]) (.cond (.t 71) (
 .seq (
 .region [jA 4 (qK false)]) .ret) .skip)) (
 .seq (
 .region [qm 72 5,jA 73 (qF 0 9),ql 74 73,⟨none,(.lQ (.int .i64) (.t 72) (.t 74) (.c (.bool true))),none,[],false⟩]) (
 .seq (
 .region [qm 75 6,qm 76 8,jA 77 (.iq none),jA 78 (qI 1 75 76),jG 1 78 77]) (
 .seq (
 .region [qm 79 7,qm 80 8,jA 81 (.iq none),jA 82 (qI 1 79 80),jG 1 82 81]) (
 .seq (
 .region [jA 83 (qF 2 9),ql 84 83,jA 85 (qS 84),jA 86 (qC 0)]) (.block 2 (.loop (
 .seq (
 .region [jA 87 (qB 86 85)]) (
 .seq (.cond (.t 87) .skip (.exit 2)) (
 .seq (.block 3 (
 .seq (
 .region [qm 88 86,jA 89 (qI 1 84 86),ql 90 89,qm 10 88,qm 11 90]) (
 .seq (
 .seq (
 .region [qm 91 11,jA 92 (.bin .lss (.t 91) (.c (.int .i64 0))),qm 93 92,jC 94 (qM 11) 93,jC 95 (qM 0) 93,jC 96 (.bin .geq (.t 94) (.t 95)) 93,jA 97 (qP 93 96),qm 98 97,jC 99 (qM 10) 98,jC 100 (.bin .gtr (.t 99) (.c (.int .i64 0))) 98,jC 101 (qM 100) 98,jD 102 (qF 2 9) 101,jD 103 (qL 102) 101,jD 104 (qM 10) 101,jD 105 (.bin .sub (.t 104) (.c (.int .i64 1))) 101,jD 106 (qI 1 103 105) 101,jD 107 (qL 106) 101,jD 108 (qM 11) 101,jD 109 (.bin .geq (.t 107) (.t 108)) 101,jC 110 (.pick (.t 101) (.t 109) (.c (.bool false))) 98,jA 111 (qP 98 110)]) (.cond (.t 111) (
 .seq (
 .region [jA 4 (qK false)]) .ret) .skip)) (
 .seq (
 .region [qm 112 6,qm 113 8,jA 114 (qI 1 112 113),ql 115 114,qm 116 11,⟨none,(.lQ (.int .i64) (.t 115) (.t 116) (.c (.bool true))),none,[],false⟩]) (
 .seq (
 .seq (
 .region [qm 117 8,jA 118 (.bin .eql (.t 117) (.c (.int .i64 0)))]) (.cond (.t 118) (.exit 3) .skip)) (
 .seq (
 .seq (
 .region [qm 119 6,jA 120 (qF 1 9),ql 121 120,jA 122 (qI 1 119 121),ql 123 122,qm 124 11,jA 125 (.eD (.int .i64) (.bool false) false (.t 123) (.t 124)),jA 126 (.un .not (.t 125)),qm 127 126,jC 128 (qM 7) 127,jC 129 (qF 1 9) 127,jC 130 (qL 129) 127,jC 131 (qI 1 128 130) 127,jC 132 (qL 131) 127,jC 133 (qM 11) 127,jC 134 (.eD (.int .i64) (.bool false) false (.t 132) (.t 133)) 127,jA 135 (qP 127 134)]) (.cond (.t 135) (
 .seq (
 .region [jA 4 (qK false)]) .ret) .skip)) (
 .region [qm 136 7,jA 137 (qF 1 9),ql 138 137,jA 139 (qI 1 136 138),ql 140 139,qm 141 11,⟨none,(.lQ (.int .i64) (.t 140) (.t 141) (.c (.bool true))),none,[],false⟩]))))))) (
 .region [jA 142 (qA 86 1),qm 86 142])))))))))))))) (
 .region [jA 143 (qA 23 1),qm 23 143]))))))) (
 .seq (
 .seq (
 .region [qm 144 1,jA 145 (qS 144),jA 146 (qC 0)]) (.block 4 (.loop (
 .seq (
 .region [jA 147 (qB 146 145)]) (
 .seq (.cond (.t 147) .skip (.exit 4)) (
 .seq (.block 5 (
 .seq (
 .region [qm 148 146,jA 149 (qI 3 144 146),jA 150 (qN 3 149),jA 13 (.alloc [(.int .i64 0),(.int .i64 0), .aj]),qm 12 148,jG 3 13 150]) (
 .seq (
 .region [jB 151 (qM 7),jB 152 (qM 12),jB 153 (qI 1 151 152),jB 154 (qL 153),jB 155 (.kn (.t 154)),jB 156 (qF 2 13),jB 157 (qL 156),jB 158 (qS 157),jB 159 (.bin .eql (.t 155) (.t 158))]) (.cond (.t 159) (
 .seq (
 .region [jA 4 (qK false)]) .ret) .skip)))) (
 .region [jA 160 (qA 146 1),qm 146 160]))))))) (
 .seq (
 .region [jA 4 (qK true)]) .ret)))))))⟩
theorem c72:aF Try.prog GL [] Try.f72=some l72:=by kernel_rfl
def l73:aZ:=⟨42,[(.tmp 8)],
 (
 .seq (
 .region [jA 4 (qO 0),jA 8 (.mv (.c .bN))]) (
 .seq (
 .region [jA 14 (.iq none),qm 9 14]) (
 .seq (
 .seq (
 .region [qm 15 1,jA 16 (qS 15),jA 17 (qC 0)]) (.block 0 (.loop (
 .seq (
 .region [jA 18 (qB 17 16)]) (
 .seq (.cond (.t 18) .skip (.exit 0)) (
 .seq (.block 1 (
 .seq (
 .region [jA 19 (qI 1 15 17),ql 20 19,qm 11 20]) (
 .seq (
 .region [jA 21 (qF 2 4),ql 22 21,qm 23 11,jA 24 (qI 1 22 23),ql 25 24,qm 26 2,jA 27 (qI 1 25 26),ql 28 27,qm 29 3,jA 30 (.call (.c (.fn (.func 83) [] [])) [(.t 28),(.t 29)]),jA 31 (qS 30),jA 32 (qC 0)]) (.block 2 (.loop (
 .seq (
 .region [jA 33 (qB 32 31)]) (
 .seq (.cond (.t 33) .skip (.exit 2)) (
 .seq (.block 3 (
 .seq (
 .region [jA 34 (qI 2 30 32),jA 35 (qN 2 34),jA 13 (.alloc [(.int .i64 0),(.bool false)]),jG 2 13 35]) (
 .region [qm 36 9,jA 37 (qF 0 13),ql 38 37,⟨none,(.lQ (.int .i64) (.t 36) (.t 38) (.c (.bool true))),none,[],false⟩]))) (
 .region [jA 39 (qA 32 1),qm 32 39]))))))))) (
 .region [jA 40 (qA 17 1),qm 17 40]))))))) (
 .seq (
 .region [qm 41 9,qm 8 41]) .ret))))⟩
theorem c73:aF Try.prog GL [] Try.f73=some l73:=by kernel_rfl
def l74:aZ:=⟨3,[(.tmp 2)],
 (
 .seq (
 .region [jA 1 (qO 0),jA 2 (qK false)]) (
 .seq (
 .region [jA 2 (qK true)]) .ret))⟩
theorem c74:aF Try.prog GL [] Try.f74=some l74:=by kernel_rfl
def l75:aZ:=⟨5,[(.tmp 2)],
 (
 .seq (
 .region [jA 1 (qO 0),jA 2 (qK false)]) (
 .seq (
 .region [jA 3 (qF 1 1),ql 4 3,qm 2 4]) .ret))⟩
theorem c75:aF Try.prog GL [] Try.f75=some l75:=by kernel_rfl
def l76:aZ:=⟨23,[(.tmp 4)],
 (
 .seq (
 .region [jA 4 (.mv (.c .aj))]) (
 .seq (
 .region [jA 5 (.mv (.c .aj))]) (
 .seq (
 .seq (
 .region [qm 8 0,jA 9 (qS 8),jA 10 (qC 0)]) (.block 0 (.loop (
 .seq (
 .region [jA 11 (qB 10 9)]) (
 .seq (.cond (.t 11) .skip (.exit 0)) (
 .seq (.block 1 (
 .seq (
 .region [jA 12 (qI 7 8 10),jA 13 (qN 7 12),jA 7 (.alloc [(.int .i64 0),(.int .i64 0), .aj, .bN,(.bool false),(.bool false),(.bool false)]),jG 7 7 13]) (
 .seq (
 .region [qm 14 1,jA 15 (qN 7 7),jA 16 (.call (.t 14) [(.t 15)])]) (.cond (.t 16) (
 .region [qm 17 5,jA 18 (qN 7 7),jA 19 (.bt 7 1 [(.int .i64 0),(.int .i64 0), .aj, .bN,(.bool false),(.bool false),(.bool false)] [(0,(7,(.t 18)))]),jA 20 (.append 7 56 (.t 17) (.t 19)),qm 5 20]) .skip)))) (
 .region [jA 21 (qA 10 1),qm 10 21]))))))) (
 .seq (
 .region [qm 22 5,qm 4 22]) .ret))))⟩
theorem c76:aF Try.prog GL [] Try.f76=some l76:=by kernel_rfl
def l77:aZ:=⟨5,[(.tmp 2)],
 (
 .seq (
 .region [jA 1 (.box false (.t 0)),jA 2 (qK false)]) (
 .seq (
 .region [jA 3 (qF 4 1),ql 4 3,qm 2 4]) .ret))⟩
theorem c77:aF Try.prog GL [1] Try.f77=some l77:=by kernel_rfl
def l78:aZ:=⟨5,[(.tmp 2)],
 (
 .seq (
 .region [jA 2 (.mv (.c .aj))]) (
 .seq (
 .region [qm 3 0,jA 4 (.call (.c (.fn (.func 84) [] [])) [(.c .aj),(.t 3)]),qm 2 4]) .ret))⟩
theorem c78:aF Try.prog GL [] Try.f78=some l78:=by kernel_rfl
def l79:aZ:=⟨14,[],
 (
 .seq (
 .region [ql 4 1,jA 5 (.oc (.t 4))]) (.block 0 (.loop (
 .seq (
 .region [jA 6 (.ku (.t 5)),jA 7 (.ext (.t 6) 0)]) (
 .seq (.cond (.t 7) .skip (.exit 0)) (.block 1 (
 .seq (
 .region [jA 8 (.od (.t 5)),jA 9 (.ext (.t 8) 0),qm 3 9]) (
 .seq (
 .region [qm 10 0,qm 11 3,jA 12 (.call (.t 10) [(.t 11)]),jA 13 (.un .not (.t 12))]) (.cond (.t 13) .ret .skip)))))))))⟩
theorem c79:aF Try.prog GL [] Try.f79=some l79:=by kernel_rfl
def l82:aZ:=⟨26,[(.tmp 4)],
 (
 .seq (
 .region [jA 4 (qK false)]) (
 .seq (
 .seq (
 .region [qm 6 0,jA 7 (qS 6),qm 8 1,jA 9 (qS 8),jA 10 (.bin .neq (.t 7) (.t 9))]) (.cond (.t 10) (
 .seq (
 .region [jA 4 (qK false)]) .ret) .skip)) (
 .seq (
 .seq (
 .region [qm 11 0,jA 12 (qS 11),jA 13 (qC 0)]) (.block 0 (.loop (
 .seq (
 .region [jA 14 (qB 13 12)]) (
 .seq (.cond (.t 14) .skip (.exit 0)) (
 .seq (.block 1 (
 .seq (
 .region [qm 15 13,qm 5 15]) (
 .seq (
 .region [jB 16 (qM 0),jB 17 (qM 5),jB 18 (qI 1 16 17),jB 19 (qL 18),jB 20 (qM 1),jB 21 (qM 5),jB 22 (qI 1 20 21),jB 23 (qL 22),jB 24 (.bin .neq (.t 19) (.t 23))]) (.cond (.t 24) (
 .seq (
 .region [jA 4 (qK false)]) .ret) .skip)))) (
 .region [jA 25 (qA 13 1),qm 13 25]))))))) (
 .seq (
 .region [jA 4 (qK true)]) .ret))))⟩
theorem c82:aF Try.prog GL [] Try.f82=some l82:=by kernel_rfl
def l83:aZ:=⟨23,[(.tmp 4)],
 (
 .seq (
 .region [jA 4 (.mv (.c .aj))]) (
 .seq (
 .region [jA 5 (.mv (.c .aj))]) (
 .seq (
 .seq (
 .region [qm 8 0,jA 9 (qS 8),jA 10 (qC 0)]) (.block 0 (.loop (
 .seq (
 .region [jA 11 (qB 10 9)]) (
 .seq (.cond (.t 11) .skip (.exit 0)) (
 .seq (.block 1 (
 .seq (
 .region [jA 12 (qI 2 8 10),jA 13 (qN 2 12),jA 7 (.alloc [(.int .i64 0),(.bool false)]),jG 2 7 13]) (
 .seq (
 .region [qm 14 1,jA 15 (qN 2 7),jA 16 (.call (.t 14) [(.t 15)])]) (.cond (.t 16) (
 .region [qm 17 5,jA 18 (qN 2 7),jA 19 (.bt 2 1 [(.int .i64 0),(.bool false)] [(0,(2,(.t 18)))]),jA 20 (.append 2 16 (.t 17) (.t 19)),qm 5 20]) .skip)))) (
 .region [jA 21 (qA 10 1),qm 10 21]))))))) (
 .seq (
 .region [qm 22 5,qm 4 22]) .ret))))⟩
theorem c83:aF Try.prog GL [] Try.f83=some l83:=by kernel_rfl
def l84:aZ:=⟨13,[(.tmp 4)],
 (
 .seq (
 .region [jA 2 (.box false (.t 0)),jA 4 (.mv (.c .aj))]) (
 .seq (
 .seq (
 .region [qm 6 1]) (.block 0 (.rangeFunc (.t 6) [7] (
 .region [qm 5 7]) (.block 1 (
 .region [ql 8 2,qm 9 5,jA 10 (.bt 1 1 [(.int .i64 0)] [(0,(1,(.t 9)))]),jA 11 (.append 1 8 (.t 8) (.t 10)),jG 1 2 11]))))) (
 .seq (
 .region [ql 12 2,qm 4 12]) .ret)))⟩
theorem c84:aF Try.prog GL [2] Try.f84=some l84:=by kernel_rfl
end Go.Proofs.Ytkbiecjdcjfhaaa
