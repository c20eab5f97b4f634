/- Plain forms of functions, by program. -/
import Derived.Test.YtgobbogomchnhaaGreatDoorProg
import Derived.Test.YtgobbogomchnhaaGreatDoorPvComp
import Derived.Test.YtgobbogomchnhaaGreatDoorGl
import Derived.KernelRfl
set_option linter.unusedSimpArgs false
set_option linter.unusedVariables false
namespace Go.Proofs.YtgobbogomchnhaaGreatDoor
open Go Go.Pv
set_option maxRecDepth 100000
def l3:LFunc:=⟨74,[(.tmp 6)],
 (
 .seq (
 .region [jA 3 (qO 0),jA 4 (qO 1),jA 6 (qK false)]) (
 .seq (
 .region [jA 12 (.call (.c (.fn (.func 5) [] [])) []),qm 7 12]) (
 .seq (
 .seq (
 .region [jA 13 (qN 3 3),jA 14 (qG 6 13),jA 15 (.un .not (.t 14)),qm 16 15,jC 17 (qN 3 4) 16,jC 18 (qG 6 17) 16,jC 19 (.un .not (.t 18)) 16,jA 20 (qP 16 19),qm 21 20,jC 22 (qM 2) 21,jC 23 (.bin .gtr (.t 22) (.c (.int .i64 300))) 21,jA 24 (qP 21 23)]) (.cond (.t 24) (
 .seq (
 .region [qm 25 7,qm 6 25]) .ret) .skip)) (
 .seq (
 .region [jA 27 (qN 3 3),jA 28 (qN 3 4),qm 29 2,jA 30 (.call (.c (.fn (.func 7) [] [])) [(.t 27),(.t 28),(.t 29)]),qm 26 30,jA 31 (.ext (.t 26) 0),jA 32 (.ext (.t 26) 1),jA 8 (.alloc [(.int .i64 0), .nils, .nils]),jG 3 8 31,qm 9 32]) (
 .seq (
 .region [jA 34 (qN 3 3),jA 35 (qN 3 4),qm 36 2,jA 37 (.call (.c (.fn (.func 8) [] [])) [(.t 34),(.t 35),(.t 36)]),qm 33 37,jA 38 (.ext (.t 33) 0),jA 39 (.ext (.t 33) 1),jA 10 (.alloc [(.int .i64 0), .nils, .nils]),jG 3 10 38,qm 11 39]) (
 .seq (
 .region [jB 40 (qM 7),jB 41 (qM 40),jE 42 (qN 3 3) 41,jE 44 (qN 3 3) 41,⟨(some 43),(.call (.c (.fn (.func 9) [] [])) [(.t 42)]),(some (41,true)),[(44,((some (41,true)),(.load (some 3) (.t 3))))],true⟩,jE 45 (qG 10 44) 41,jE 46 (.eq false .bool (.t 43) (.t 45)) 41,jB 47 (.pick (.t 41) (.t 46) (.c (.bool false))),jB 48 (qM 47),jE 49 (qM 9) 48,jE 50 (qM 11) 48,jE 51 (.bin .eql (.t 49) (.t 50)) 48,jB 52 (.pick (.t 48) (.t 51) (.c (.bool false))),jB 53 (qM 52),jE 54 (qN 3 8) 53,jE 55 (qN 3 10) 53,jE 56 (.call (.c (.fn (.func 11) [] [])) [(.t 54),(.t 55)]) 53,jB 57 (.pick (.t 53) (.t 56) (.c (.bool false))),jB 58 (qM 57),jE 59 (qN 3 3) 58,jE 60 (qN 3 4) 58,jE 62 (qN 3 3) 58,jE 63 (qN 3 4) 58,⟨(some 61),(.call (.c (.fn (.func 12) [] [])) [(.t 59),(.t 60)]),(some (58,true)),[(62,((some (58,true)),(.load (some 3) (.t 3)))),(63,((some (58,true)),(.load (some 3) (.t 4))))],true⟩,jE 64 (.call (.c (.fn (.func 13) [] [])) [(.t 62),(.t 63)]) 58,jE 65 (.call (.c (.fn (.func 11) [] [])) [(.t 61),(.t 64)]) 58,jB 66 (.pick (.t 58) (.t 65) (.c (.bool false))),jB 67 (qM 66),jE 68 (qN 3 3) 67,jE 70 (qN 3 3) 67,⟨(some 69),(.call (.c (.fn (.func 14) [] [])) [(.t 68)]),(some (67,true)),[(70,((some (67,true)),(.load (some 3) (.t 3))))],true⟩,jE 71 (qG 15 70) 67,jE 72 (.call (.c (.fn (.func 11) [] [])) [(.t 69),(.t 71)]) 67,jB 73 (.pick (.t 67) (.t 72) (.c (.bool false))),jB 6 (qM 73)]) .ret))))))⟩
theorem c3:compFunc Tryz.prog GL [] Tryz.f3=some l3:=by kernel_rfl
def l4:LFunc:=⟨71,[(.tmp 6)],
 (
 .seq (
 .region [jA 3 (qO 0),jA 4 (qO 1),jA 5 (qO 2),jA 6 (qK false)]) (
 .seq (
 .region [jA 12 (.call (.c (.fn (.func 16) [] [])) []),qm 7 12]) (
 .seq (
 .seq (
 .region [jA 13 (qN 3 3),jA 14 (qN 2 4),jA 15 (.call (.c (.fn (.func 17) [] [])) [(.t 13),(.t 14)]),jA 16 (.un .not (.t 15)),qm 17 16,jC 18 (qF 0 5) 17,jC 19 (qL 18) 17,jC 20 (qS 19) 17,jC 21 (.bin .gtr (.t 20) (.c (.int .i64 40))) 17,jA 22 (qP 17 21),qm 23 22,jC 24 (qF 1 5) 23,jC 25 (qL 24) 23,jC 26 (qS 25) 23,jC 27 (.bin .gtr (.t 26) (.c (.int .i64 40))) 23,jA 28 (qP 23 27)]) (.cond (.t 28) (
 .seq (
 .region [qm 29 7,qm 6 29]) .ret) .skip)) (
 .seq (
 .region [jA 31 (qN 3 3),jA 32 (qN 2 4),jA 33 (.call (.c (.fn (.func 18) [] [])) [(.t 31),(.t 32)]),qm 30 33,jA 34 (.ext (.t 30) 0),jA 35 (.ext (.t 30) 1),jA 8 (.alloc [.nils, .nils]),jG 2 8 34,qm 9 35]) (
 .seq (
 .region [jA 37 (qN 3 3),jA 38 (qN 2 4),jA 39 (.call (.c (.fn (.func 19) [] [])) [(.t 37),(.t 38)]),qm 36 39,jA 40 (.ext (.t 36) 0),jA 41 (.ext (.t 36) 1),jA 10 (.alloc [.nils, .nils]),jG 2 10 40,qm 11 41]) (
 .seq (
 .region [jB 42 (qM 7),jB 43 (qM 42),jE 44 (qM 9) 43,jE 45 (qM 11) 43,jE 46 (.eq false .bool (.t 44) (.t 45)) 43,jB 47 (.pick (.t 43) (.t 46) (.c (.bool false))),jB 48 (qM 47),jE 49 (qN 2 8) 48,jE 50 (qN 2 10) 48,jE 51 (.call (.c (.fn (.func 20) [] [])) [(.t 49),(.t 50)]) 48,jB 52 (.pick (.t 48) (.t 51) (.c (.bool false))),jB 53 (qM 52),jE 54 (qN 3 3) 53,jE 55 (qN 2 4) 53,jE 57 (qM 11) 53,jE 56 (.call (.c (.fn (.func 21) [] [])) [(.t 54),(.t 55)]) 53,jE 58 (.eq false .bool (.t 56) (.t 57)) 53,jB 59 (.pick (.t 53) (.t 58) (.c (.bool false))),jB 60 (qM 59),jE 61 (qN 3 3) 60,jE 62 (qN 2 4) 60,jE 63 (qN 2 5) 60,jE 65 (qN 3 3) 60,jE 66 (qN 2 4) 60,jE 67 (qN 2 5) 60,⟨(some 64),(.call (.c (.fn (.func 22) [] [])) [(.t 61),(.t 62),(.t 63)]),(some (60,true)),[(65,((some (60,true)),(.load (some 3) (.t 3)))),(66,((some (60,true)),(.load (some 2) (.t 4)))),(67,((some (60,true)),(.load (some 2) (.t 5))))],true⟩,jE 68 (.call (.c (.fn (.func 23) [] [])) [(.t 65),(.t 66),(.t 67)]) 60,jE 69 (.eq false .bool (.t 64) (.t 68)) 60,jB 70 (.pick (.t 60) (.t 69) (.c (.bool false))),jB 6 (qM 70)]) .ret))))))⟩
theorem c4:compFunc Tryz.prog GL [] Tryz.f4=some l4:=by kernel_rfl
def l6:LFunc:=⟨54,[(.tmp 2)],
 (
 .seq (
 .region [jA 1 (qO 0),jA 2 (qK false)]) (
 .seq (
 .seq (
 .region [jA 5 (qF 0 1),ql 6 5,jA 7 (.bin .gtr (.t 6) (.c (.int .i64 20))),qm 8 7,jC 9 (qF 1 1) 8,jC 10 (qL 9) 8,jC 11 (qS 10) 8,jC 12 (.bin .gtr (.t 11) (.c (.int .i64 20))) 8,jA 13 (qP 8 12),qm 14 13,jC 15 (qF 2 1) 14,jC 16 (qL 15) 14,jC 17 (qS 16) 14,jC 18 (.bin .gtr (.t 17) (.c (.int .i64 10))) 14,jA 19 (qP 14 18)]) (.cond (.t 19) (
 .seq (
 .region [jA 2 (qK false)]) .ret) .skip)) (
 .seq (
 .seq (
 .region [jA 3 (qC 0)]) (.block 0 (.loop (
 .seq (
 .seq (
 .region [qm 20 3,jA 21 (qF 2 1),ql 22 21,jA 23 (qS 22),jA 24 (qB 20 23)]) (.cond (.t 24) .skip (.exit 0))) (
 .seq (.block 1 (
 .seq (
 .seq (
 .region [jA 27 (qF 2 1),ql 28 27,qm 29 3,jA 30 (qI 1 28 29),ql 31 30,jA 32 (qS 31),jA 33 (.bin .gtr (.t 32) (.c (.int .i64 20)))]) (.cond (.t 33) (
 .seq (
 .region [jA 2 (qK false)]) .ret) .skip)) (
 .seq (
 .region [jA 4 (qC 0)]) (.block 2 (.loop (
 .seq (
 .seq (
 .region [qm 34 4,jA 35 (qF 2 1),ql 36 35,qm 37 3,jA 38 (qI 1 36 37),ql 39 38,jA 40 (qS 39),jA 41 (qB 34 40)]) (.cond (.t 41) .skip (.exit 2))) (
 .seq (.block 3 (
 .seq (
 .region [jA 44 (qF 2 1),ql 45 44,qm 46 3,jA 47 (qI 1 45 46),ql 48 47,qm 49 4,jA 50 (qI 1 48 49),ql 51 50,jA 52 (qS 51),jA 53 (.bin .gtr (.t 52) (.c (.int .i64 20)))]) (.cond (.t 53) (
 .seq (
 .region [jA 2 (qK false)]) .ret) .skip))) (
 .region [qm 42 4,jA 43 (qA 42 1),qm 4 43])))))))) (
 .region [qm 25 3,jA 26 (qA 25 1),qm 3 26])))))) (
 .seq (
 .region [jA 2 (qK true)]) .ret))))⟩
def l7:LFunc:=⟨79,[(.cell 6 (some 3)),(.tmp 7)],
 (
 .seq (
 .region [jA 3 (qO 0),jA 4 (qO 1),jA 6 (.alloc [(.int .i64 0), .nils, .nils]),jA 7 (qC 0)]) (
 .seq (
 .seq (
 .region [jA 14 (qN 3 3),jA 15 (qG 9 14),jA 16 (.un .not (.t 15)),qm 17 16,jC 18 (qN 3 4) 17,jC 19 (qG 9 18) 17,jC 20 (.un .not (.t 19)) 17,jA 21 (qP 17 20),qm 22 21,jC 23 (qF 0 3) 22,jC 24 (qL 23) 22,jC 25 (qF 0 4) 22,jC 26 (qL 25) 22,jC 27 (.bin .neq (.t 24) (.t 26)) 22,jA 28 (qP 22 27),qm 29 28,jC 30 (qM 2) 29,jC 31 (.bin .lss (.t 30) (.c (.int .i64 1))) 29,jA 32 (qP 29 31),qm 33 32,jC 34 (qM 2) 33,jC 35 (.bin .gtr (.t 34) (.c (.int .i64 3000))) 33,jA 36 (qP 33 35)]) (.cond (.t 36) (
 .seq (
 .region [jA 37 (.build [(.int .i64 0), .nils, .nils] []),jG 3 6 37,jA 7 (qC 1)]) .ret) .skip)) (
 .seq (
 .seq (
 .region [jA 38 (qF 1 3),ql 39 38,jA 40 (qS 39),jA 41 (qF 1 4),ql 42 41,jA 43 (qS 42),jA 44 (.bin .mul (.t 40) (.t 43)),qm 45 2,jA 46 (.bin .gtr (.t 44) (.t 45))]) (.cond (.t 46) (
 .seq (
 .region [jA 47 (.build [(.int .i64 0), .nils, .nils] []),jG 3 6 47,jA 7 (qC 2)]) .ret) .skip)) (
 .seq (
 .region [jA 8 (.mv (.c .nils))]) (
 .seq (
 .seq (
 .region [jA 48 (qF 1 3),ql 49 48,jA 50 (qS 49),jA 51 (qC 0)]) (.block 0 (.loop (
 .seq (
 .region [jA 52 (qB 51 50)]) (
 .seq (.cond (.t 52) .skip (.exit 0)) (
 .seq (.block 1 (
 .seq (
 .region [jA 53 (qI 1 49 51),ql 54 53,qm 10 54]) (
 .seq (
 .region [jA 55 (qF 1 4),ql 56 55,jA 57 (qS 56),jA 58 (qC 0)]) (.block 2 (.loop (
 .seq (
 .region [jA 59 (qB 58 57)]) (
 .seq (.cond (.t 59) .skip (.exit 2)) (
 .seq (.block 3 (
 .seq (
 .region [jA 60 (qI 1 56 58),ql 61 60,qm 12 61]) (
 .region [qm 62 8,qm 63 10,qm 64 12,jA 65 (.build [(.int .i64 0),(.int .i64 0),(.int .i64 0)] [(0,(1,(.t 63))),(1,(1,(.t 64)))]),jA 66 (.bslice 3 1 [(.int .i64 0),(.int .i64 0),(.int .i64 0)] [(0,(3,(.t 65)))]),jA 67 (.append 3 24 (.t 62) (.t 66)),qm 8 67]))) (
 .region [jA 68 (qA 58 1),qm 58 68]))))))))) (
 .region [jA 69 (qA 51 1),qm 51 69]))))))) (
 .seq (
 .region [jA 70 (.mkfn (.func 27) [] [(.t 3),(.t 4)]),qm 13 70]) (
 .seq (
 .region [jA 71 (qF 0 3),ql 72 71,qm 73 8,qm 74 2,qm 75 13,jA 76 (.call (.c (.fn (.func 29) [] [])) [(.t 72),(.t 73),(.t 74),(.t 75)]),jA 77 (.ext (.t 76) 0),jA 78 (.ext (.t 76) 1),jG 3 6 77,qm 7 78]) .ret)))))))⟩
theorem c7:compFunc Tryz.prog GL [] Tryz.f7=some l7:=by kernel_rfl
def l8:LFunc:=⟨200,[(.cell 6 (some 3)),(.tmp 7)],
 (
 .seq (
 .region [jA 3 (qO 0),jA 4 (qO 1),jA 6 (.alloc [(.int .i64 0), .nils, .nils]),jA 7 (qC 0)]) (
 .seq (
 .seq (
 .region [jA 24 (qN 3 3),jA 25 (qG 10 24),jA 26 (.un .not (.t 25)),qm 27 26,jC 28 (qN 3 4) 27,jC 29 (qG 10 28) 27,jC 30 (.un .not (.t 29)) 27,jA 31 (qP 27 30),qm 32 31,jC 33 (qF 0 3) 32,jC 34 (qL 33) 32,jC 35 (qF 0 4) 32,jC 36 (qL 35) 32,jC 37 (.bin .neq (.t 34) (.t 36)) 32,jA 38 (qP 32 37),qm 39 38,jC 40 (qM 2) 39,jC 41 (.bin .lss (.t 40) (.c (.int .i64 1))) 39,jA 42 (qP 39 41),qm 43 42,jC 44 (qM 2) 43,jC 45 (.bin .gtr (.t 44) (.c (.int .i64 3000))) 43,jA 46 (qP 43 45)]) (.cond (.t 46) (
 .seq (
 .region [jA 47 (.build [(.int .i64 0), .nils, .nils] []),jG 3 6 47,jA 7 (qC 1)]) .ret) .skip)) (
 .seq (
 .region [jA 48 (qF 0 3),ql 49 48,jA 50 (.build [(.int .i64 0), .nils, .nils] [(0,(1,(.t 49)))]),jA 8 (.alloc [(.int .i64 0), .nils, .nils]),jG 3 8 50]) (
 .seq (
 .region [jA 51 (.bslice 3 0 [(.int .i64 0),(.int .i64 0),(.int .i64 0)] []),qm 9 51]) (
 .seq (
 .seq (
 .region [jA 10 (qC 0)]) (.block 0 (.loop (
 .seq (
 .seq (
 .region [qm 52 10,jA 53 (qF 1 3),ql 54 53,jA 55 (qS 54),jA 56 (qB 52 55)]) (.cond (.t 56) .skip (.exit 0))) (
 .seq (.block 1 (
 .seq (
 .region [jA 11 (qC 0)]) (.block 2 (.loop (
 .seq (
 .seq (
 .region [qm 59 11,jA 60 (qF 1 4),ql 61 60,jA 62 (qS 61),jA 63 (qB 59 62)]) (.cond (.t 63) .skip (.exit 2))) (
 .seq (.block 3 (
 .seq (
 .region [jA 66 (qF 1 8),ql 67 66,qm 68 9,jA 69 (qS 68),jA 70 (.bslice 1 1 [(.int .i64 0)] [(0,(1,(.t 69)))]),jA 71 (.append 1 8 (.t 67) (.t 70)),jA 72 (qF 1 8),jG 1 72 71]) (
 .region [jB 73 (qM 9),jB 74 (qF 1 3),jB 75 (qL 74),jB 76 (qM 10),jB 77 (qI 1 75 76),jB 78 (qL 77),jB 79 (qF 1 4),jB 80 (qL 79),jB 81 (qM 11),jB 82 (qI 1 80 81),jB 83 (qL 82),jB 84 (.build [(.int .i64 0),(.int .i64 0),(.int .i64 0)] [(0,(1,(.t 78))),(1,(1,(.t 83)))]),⟨(some 85),(.bslice 3 1 [(.int .i64 0),(.int .i64 0),(.int .i64 0)] [(0,(3,(.t 84)))]),none,[(75,(none,(.load none (.t 74)))),(78,(none,(.load none (.t 77)))),(80,(none,(.load none (.t 79)))),(83,(none,(.load none (.t 82))))],true⟩,jB 86 (.append 3 24 (.t 73) (.t 85)),jB 9 (qM 86)]))) (
 .region [qm 64 11,jA 65 (qA 64 1),qm 11 65]))))))) (
 .region [qm 57 10,jA 58 (qA 57 1),qm 10 58])))))) (
 .seq (
 .seq (
 .region [qm 87 9,jA 88 (qS 87),qm 89 2,jA 90 (.bin .gtr (.t 88) (.t 89))]) (.cond (.t 90) (
 .seq (
 .region [jA 91 (.build [(.int .i64 0), .nils, .nils] []),jG 3 6 91,jA 7 (qC 2)]) .ret) .skip)) (
 .seq (
 .seq (
 .region [jA 12 (qC 0)]) (.block 4 (.loop (
 .seq (
 .seq (
 .region [qm 92 12,qm 93 9,jA 94 (qS 93),jA 95 (qB 92 94)]) (.cond (.t 95) .skip (.exit 4))) (
 .seq (.block 5 (
 .seq (
 .region [jA 98 (.bslice 1 0 [.nils] []),qm 13 98]) (
 .seq (
 .seq (
 .region [jA 14 (qC 0)]) (.block 6 (.loop (
 .seq (
 .seq (
 .region [qm 99 14,jA 100 (qF 0 8),ql 101 100,jA 102 (qB 99 101)]) (.cond (.t 102) .skip (.exit 6))) (
 .seq (.block 7 (
 .seq (
 .region [jA 105 (.bslice 2 0 [(.int .i64 0),(.bool false)] []),qm 15 105]) (
 .seq (
 .region [jB 106 (qF 2 3),jB 107 (qL 106),jB 108 (qM 9),jB 109 (qM 12),jB 110 (qI 3 108 109),jB 111 (qF 0 110),jB 112 (qL 111),jB 113 (qI 1 107 112),jB 114 (qL 113),jB 115 (qM 14),jB 116 (qI 1 114 115),jB 117 (qL 116),jB 16 (qM 117)]) (
 .seq (
 .region [jB 118 (qF 2 4),jB 119 (qL 118),jB 120 (qM 9),jB 121 (qM 12),jB 122 (qI 3 120 121),jB 123 (qF 1 122),jB 124 (qL 123),jB 125 (qI 1 119 124),jB 126 (qL 125),jB 127 (qM 14),jB 128 (qI 1 126 127),jB 129 (qL 128),jB 17 (qM 129)]) (
 .seq (
 .seq (
 .region [jA 18 (qC 0)]) (.block 8 (.loop (
 .seq (
 .seq (
 .region [qm 130 18,qm 131 16,jA 132 (qS 131),jA 133 (qB 130 132)]) (.cond (.t 133) .skip (.exit 8))) (
 .seq (.block 9 (
 .seq (
 .region [jA 19 (qC 0)]) (.block 10 (.loop (
 .seq (
 .seq (
 .region [qm 136 19,qm 137 17,jA 138 (qS 137),jA 139 (qB 136 138)]) (.cond (.t 139) .skip (.exit 10))) (
 .seq (.block 11 (
 .seq (
 .region [jB 143 (qM 9),jB 144 (qM 12),jB 145 (qI 3 143 144),jB 146 (qF 2 145),jB 147 (qL 146),jB 148 (qM 16),jB 149 (qM 18),jB 150 (qI 2 148 149),jB 151 (qF 1 150),jB 152 (qL 151),jB 153 (qM 17),jB 154 (qM 19),jB 155 (qI 2 153 154),jB 156 (qF 1 155),jB 157 (qL 156),jB 158 (.call (.c (.fn (.func 30) [] [])) [(.t 147),(.t 152),(.t 157)]),jB 142 (qM 158),jB 159 (.ext (.t 142) 0),jB 160 (.ext (.t 142) 1),jB 20 (qM 159),jB 21 (qM 160)]) (
 .seq (
 .region [jB 162 (qM 9),jB 163 (qM 16),jB 164 (qM 18),jB 165 (qI 2 163 164),jB 166 (qF 0 165),jB 167 (qL 166),jB 168 (qM 17),jB 169 (qM 19),jB 170 (qI 2 168 169),jB 171 (qF 0 170),jB 172 (qL 171),jB 173 (qM 20),jB 174 (.build [(.int .i64 0),(.int .i64 0),(.int .i64 0)] [(0,(1,(.t 167))),(1,(1,(.t 172))),(2,(1,(.t 173)))]),jB 175 (.call (.c (.fn (.func 31) [] [])) [(.t 162),(.t 174)]),jB 161 (qM 175),jB 176 (.ext (.t 161) 0),jB 177 (.ext (.t 161) 1),jB 22 (qM 176),jB 23 (qM 177)]) (
 .seq (
 .region [qm 178 22,qm 9 178]) (
 .region [qm 179 15,qm 180 23,qm 181 21,jA 182 (.build [(.int .i64 0),(.bool false)] [(0,(1,(.t 180))),(1,(1,(.t 181)))]),jA 183 (.call (.c (.fn (.func 32) [] [])) [(.t 179),(.t 182)]),qm 15 183]))))) (
 .region [qm 140 19,jA 141 (qA 140 1),qm 19 141]))))))) (
 .region [qm 134 18,jA 135 (qA 134 1),qm 18 135])))))) (
 .region [qm 184 13,qm 185 15,jA 186 (.bslice 1 1 [.nils] [(0,(1,(.t 185)))]),jA 187 (.append 1 24 (.t 184) (.t 186)),qm 13 187])))))) (
 .region [qm 103 14,jA 104 (qA 103 1),qm 14 104])))))) (
 .seq (
 .seq (
 .region [qm 188 9,jA 189 (qS 188),qm 190 2,jA 191 (.bin .gtr (.t 189) (.t 190))]) (.cond (.t 191) (
 .seq (
 .region [jA 192 (.build [(.int .i64 0), .nils, .nils] []),jG 3 6 192,jA 7 (qC 2)]) .ret) .skip)) (
 .region [jA 193 (qF 2 8),ql 194 193,qm 195 13,jA 196 (.bslice 1 1 [.nils] [(0,(1,(.t 195)))]),jA 197 (.append 1 24 (.t 194) (.t 196)),jA 198 (qF 2 8),jG 1 198 197]))))) (
 .region [qm 96 12,jA 97 (qA 96 1),qm 12 97])))))) (
 .seq (
 .region [jA 199 (qN 3 8),jG 3 6 199,jA 7 (qC 0)]) .ret))))))))⟩
theorem c8:compFunc Tryz.prog GL [] Tryz.f8=some l8:=by kernel_rfl
def l9:LFunc:=⟨101,[(.tmp 2)],
 (
 .seq (
 .region [jA 1 (qO 0),jA 2 (qK false)]) (
 .seq (
 .seq (
 .region [jA 12 (qF 0 1),ql 13 12,jA 14 (.bin .lss (.t 13) (.c (.int .i64 1))),qm 15 14,jC 16 (qF 0 1) 15,jC 17 (qL 16) 15,jC 18 (.bin .gtr (.t 17) (.c (.int .i64 64))) 15,jA 19 (qP 15 18),qm 20 19,jC 21 (qF 2 1) 20,jC 22 (qL 21) 20,jC 23 (qS 22) 20,jC 24 (.bin .gtr (.t 23) (.c (.int .i64 3000))) 20,jA 25 (qP 20 24)]) (.cond (.t 25) (
 .seq (
 .region [jA 2 (qK false)]) .ret) .skip)) (
 .seq (
 .region [jA 26 (.mkfn (.func 33) [] [(.t 1)]),qm 3 26]) (
 .seq (
 .seq (
 .region [jA 27 (qF 1 1),ql 28 27,jA 29 (qS 28),jA 30 (qC 0)]) (.block 0 (.loop (
 .seq (
 .region [jA 31 (qB 30 29)]) (
 .seq (.cond (.t 31) .skip (.exit 0)) (
 .seq (.block 1 (
 .seq (
 .region [qm 32 30,jA 33 (qI 1 28 30),ql 34 33,qm 4 32,qm 5 34]) (
 .seq (
 .region [qm 35 3,qm 36 5,jA 37 (.call (.t 35) [(.t 36)]),jA 38 (.un .not (.t 37)),qm 39 38,jC 40 (qM 4) 39,jC 41 (.bin .gtr (.t 40) (.c (.int .i64 0))) 39,jC 42 (qM 41) 39,jD 43 (qF 1 1) 42,jD 44 (qL 43) 42,jD 45 (qM 4) 42,jD 46 (.bin .sub (.t 45) (.c (.int .i64 1))) 42,jD 47 (qI 1 44 46) 42,jD 48 (qL 47) 42,jD 49 (qM 5) 42,jD 50 (.bin .geq (.t 48) (.t 49)) 42,jC 51 (.pick (.t 42) (.t 50) (.c (.bool false))) 39,jA 52 (qP 39 51)]) (.cond (.t 52) (
 .seq (
 .region [jA 2 (qK false)]) .ret) .skip)))) (
 .region [jA 53 (qA 30 1),qm 30 53]))))))) (
 .seq (
 .seq (
 .region [jA 54 (qF 2 1),ql 55 54,jA 56 (qS 55),jA 57 (qC 0)]) (.block 2 (.loop (
 .seq (
 .region [jA 58 (qB 57 56)]) (
 .seq (.cond (.t 58) .skip (.exit 2)) (
 .seq (.block 3 (
 .seq (
 .region [jA 59 (qI 1 55 57),ql 60 59,qm 7 60]) (
 .seq (
 .seq (
 .region [qm 61 7,jA 62 (qS 61),jA 63 (qF 0 1),ql 64 63,jA 65 (.bin .neq (.t 62) (.t 64))]) (.cond (.t 65) (
 .seq (
 .region [jA 2 (qK false)]) .ret) .skip)) (
 .seq (
 .region [qm 66 7,jA 67 (qS 66),jA 68 (qC 0)]) (.block 4 (.loop (
 .seq (
 .region [jA 69 (qB 68 67)]) (
 .seq (.cond (.t 69) .skip (.exit 4)) (
 .seq (.block 5 (
 .seq (
 .region [jA 70 (qI 1 66 68),ql 71 70,qm 9 71]) (
 .seq (
 .region [qm 72 9,jA 73 (qS 72),jA 74 (qC 0)]) (.block 6 (.loop (
 .seq (
 .region [jA 75 (qB 74 73)]) (
 .seq (.cond (.t 75) .skip (.exit 6)) (
 .seq (.block 7 (
 .seq (
 .region [qm 76 74,jA 77 (qI 2 72 74),jA 78 (qN 2 77),jA 11 (.alloc [(.int .i64 0),(.bool false)]),qm 10 76,jG 2 11 78]) (
 .seq (
 .region [jB 79 (qM 3),jB 80 (qF 0 11),jB 81 (qL 80),jB 82 (.call (.t 79) [(.t 81)]),jB 83 (.un .not (.t 82)),jB 84 (qM 83),jF 85 (qM 10) 84,jF 86 (.bin .gtr (.t 85) (.c (.int .i64 0))) 84,jF 87 (qM 86) 84,jE 88 (qM 9) 87,jE 89 (qM 10) 87,jE 90 (.bin .sub (.t 89) (.c (.int .i64 1))) 87,jE 91 (qI 2 88 90) 87,jE 92 (qN 2 91) 87,jE 93 (qN 2 11) 87,jE 94 (.call (.c (.fn (.func 34) [] [])) [(.t 92),(.t 93)]) 87,jE 95 (.bin .geq (.t 94) (.c (.int .i64 0))) 87,jF 96 (.pick (.t 87) (.t 95) (.c (.bool false))) 84,jB 97 (qP 84 96)]) (.cond (.t 97) (
 .seq (
 .region [jA 2 (qK false)]) .ret) .skip)))) (
 .region [jA 98 (qA 74 1),qm 74 98]))))))))) (
 .region [jA 99 (qA 68 1),qm 68 99])))))))))) (
 .region [jA 100 (qA 57 1),qm 57 100]))))))) (
 .seq (
 .region [jA 2 (qK true)]) .ret))))))⟩
theorem c9:compFunc Tryz.prog GL [] Tryz.f9=some l9:=by kernel_rfl
def l10:LFunc:=⟨134,[(.tmp 2)],
 (
 .seq (
 .region [jA 1 (qO 0),jA 2 (qK false)]) (
 .seq (
 .seq (
 .region [jA 8 (qF 0 1),ql 9 8,jA 10 (.bin .lss (.t 9) (.c (.int .i64 1))),qm 11 10,jC 12 (qF 0 1) 11,jC 13 (qL 12) 11,jC 14 (.bin .gtr (.t 13) (.c (.int .i64 64))) 11,jA 15 (qP 11 14),qm 16 15,jC 17 (qF 2 1) 16,jC 18 (qL 17) 16,jC 19 (qS 18) 16,jC 20 (.bin .gtr (.t 19) (.c (.int .i64 3000))) 16,jA 21 (qP 16 20)]) (.cond (.t 21) (
 .seq (
 .region [jA 2 (qK false)]) .ret) .skip)) (
 .seq (
 .seq (
 .region [jA 3 (qC 0)]) (.block 0 (.loop (
 .seq (
 .seq (
 .region [qm 22 3,jA 23 (qF 1 1),ql 24 23,jA 25 (qS 24),jA 26 (qB 22 25)]) (.cond (.t 26) .skip (.exit 0))) (
 .seq (.block 1 (
 .seq (
 .region [jB 29 (qF 1 1),jB 30 (qL 29),jB 31 (qM 3),jB 32 (qI 1 30 31),jB 33 (qL 32),jB 34 (.bin .lss (.t 33) (.c (.int .i64 0))),jB 35 (qM 34),jF 36 (qF 1 1) 35,jF 37 (qL 36) 35,jF 38 (qM 3) 35,jF 39 (qI 1 37 38) 35,jF 40 (qL 39) 35,jF 41 (qF 2 1) 35,jF 42 (qL 41) 35,jF 43 (qS 42) 35,jF 44 (.bin .geq (.t 40) (.t 43)) 35,jB 45 (qP 35 44),jB 46 (qM 45),jF 47 (qM 3) 46,jF 48 (.bin .gtr (.t 47) (.c (.int .i64 0))) 46,jF 49 (qM 48) 46,jE 50 (qF 1 1) 49,jE 51 (qL 50) 49,jE 52 (qM 3) 49,jE 53 (.bin .sub (.t 52) (.c (.int .i64 1))) 49,jE 54 (qI 1 51 53) 49,jE 55 (qL 54) 49,jE 56 (qF 1 1) 49,jE 57 (qL 56) 49,jE 58 (qM 3) 49,jE 59 (qI 1 57 58) 49,jE 60 (qL 59) 49,jE 61 (.bin .geq (.t 55) (.t 60)) 49,jF 62 (.pick (.t 49) (.t 61) (.c (.bool false))) 46,jB 63 (qP 46 62)]) (.cond (.t 63) (
 .seq (
 .region [jA 2 (qK false)]) .ret) .skip))) (
 .region [qm 27 3,jA 28 (qA 27 1),qm 3 28])))))) (
 .seq (
 .seq (
 .region [jA 4 (qC 0)]) (.block 2 (.loop (
 .seq (
 .seq (
 .region [qm 64 4,jA 65 (qF 2 1),ql 66 65,jA 67 (qS 66),jA 68 (qB 64 67)]) (.cond (.t 68) .skip (.exit 2))) (
 .seq (.block 3 (
 .seq (
 .seq (
 .region [jB 71 (qF 2 1),jB 72 (qL 71),jB 73 (qM 4),jB 74 (qI 1 72 73),jB 75 (qL 74),jB 76 (qS 75),jB 77 (qF 0 1),jB 78 (qL 77),jB 79 (.bin .neq (.t 76) (.t 78))]) (.cond (.t 79) (
 .seq (
 .region [jA 2 (qK false)]) .ret) .skip)) (
 .seq (
 .region [jA 5 (qC 0)]) (.block 4 (.loop (
 .seq (
 .seq (
 .region [qm 80 5,jA 81 (qF 0 1),ql 82 81,jA 83 (qB 80 82)]) (.cond (.t 83) .skip (.exit 4))) (
 .seq (.block 5 (
 .seq (
 .region [jA 86 (qF 2 1),ql 87 86,qm 88 4,jA 89 (qI 1 87 88),ql 90 89,qm 91 5,jA 92 (qI 1 90 91),ql 93 92,qm 6 93]) (
 .seq (
 .region [jA 7 (qC 0)]) (.block 6 (.loop (
 .seq (
 .seq (
 .region [qm 94 7,qm 95 6,jA 96 (qS 95),jA 97 (qB 94 96)]) (.cond (.t 97) .skip (.exit 6))) (
 .seq (.block 7 (
 .seq (
 .region [jB 100 (qM 6),jB 101 (qM 7),jB 102 (qI 2 100 101),jB 103 (qF 0 102),jB 104 (qL 103),jB 105 (.bin .lss (.t 104) (.c (.int .i64 0))),jB 106 (qM 105),jF 107 (qM 6) 106,jF 108 (qM 7) 106,jF 109 (qI 2 107 108) 106,jF 110 (qF 0 109) 106,jF 111 (qL 110) 106,jF 112 (qF 2 1) 106,jF 113 (qL 112) 106,jF 114 (qS 113) 106,jF 115 (.bin .geq (.t 111) (.t 114)) 106,jB 116 (qP 106 115),jB 117 (qM 116),jF 118 (qM 7) 117,jF 119 (.bin .gtr (.t 118) (.c (.int .i64 0))) 117,jF 120 (qM 119) 117,jE 121 (qM 6) 120,jE 122 (qM 7) 120,jE 123 (.bin .sub (.t 122) (.c (.int .i64 1))) 120,jE 124 (qI 2 121 123) 120,jE 125 (qN 2 124) 120,jE 126 (qM 6) 120,jE 127 (qM 7) 120,jE 128 (qI 2 126 127) 120,jE 129 (qN 2 128) 120,jE 130 (.call (.c (.fn (.func 35) [] [])) [(.t 125),(.t 129)]) 120,jE 131 (.un .not (.t 130)) 120,jF 132 (.pick (.t 120) (.t 131) (.c (.bool false))) 117,jB 133 (qP 117 132)]) (.cond (.t 133) (
 .seq (
 .region [jA 2 (qK false)]) .ret) .skip))) (
 .region [qm 98 7,jA 99 (qA 98 1),qm 7 99])))))))) (
 .region [qm 84 5,jA 85 (qA 84 1),qm 5 85])))))))) (
 .region [qm 69 4,jA 70 (qA 69 1),qm 4 70])))))) (
 .seq (
 .region [jA 2 (qK true)]) .ret)))))⟩
theorem c10:compFunc Tryz.prog GL [] Tryz.f10=some l10:=by kernel_rfl
def l17:LFunc:=⟨8,[(.tmp 4)],
 (
 .seq (
 .region [jA 2 (qO 0),jA 3 (qO 1),jA 4 (qK false)]) (
 .seq (
 .region [jA 5 (qN 3 2),jA 6 (qN 2 3),jA 7 (.call (.c (.fn (.func 47) [] [])) [(.t 5),(.t 6),(.c (.int .i64 12))]),qm 4 7]) .ret))⟩
theorem c17:compFunc Tryz.prog GL [] Tryz.f17=some l17:=by kernel_rfl
def l18:LFunc:=⟨53,[(.cell 4 (some 2)),(.tmp 5)],
 (
 .seq (
 .region [jA 2 (qO 0),jA 3 (qO 1),jA 4 (.alloc [.nils, .nils]),jA 5 (qK false)]) (
 .seq (
 .seq (
 .region [jA 11 (qN 3 2),jA 12 (qG 9 11),jA 13 (.un .not (.t 12)),qm 14 13,jC 15 (qF 0 2) 14,jC 16 (qL 15) 14,jC 17 (qN 2 3) 14,jC 18 (.call (.c (.fn (.func 46) [] [])) [(.t 16),(.t 17)]) 14,jC 19 (.un .not (.t 18)) 14,jA 20 (qP 14 19)]) (.cond (.t 20) (
 .seq (
 .region [jA 21 (.build [.nils, .nils] []),jG 2 4 21,jA 5 (qK false)]) .ret) .skip)) (
 .seq (
 .region [jA 22 (qN 3 2),jA 23 (qN 2 3),jA 24 (.call (.c (.fn (.func 48) [] [])) [(.t 22),(.t 23)]),jA 6 (.alloc [(.int .i64 0), .nils, .nils, .nils,(.int .i64 0)]),jG 5 6 24]) (
 .seq (
 .region [jB 25 (qN 5 6),jB 26 (qN 5 6),⟨(some 7),(.alloc [.nilm, .nils, .nils]),none,[(25,(none,(.load (some 5) (.t 6)))),(26,(none,(.load (some 5) (.t 6))))],true⟩,⟨(some 27),(.call (.c (.fn (.func 50) [] [])) [(.t 26)]),none,[(25,(none,(.load (some 5) (.t 6))))],true⟩,jB 28 (.call (.c (.fn (.func 49) [] [])) [(.t 25),(.t 27)]),jH 3 7 28]) (
 .seq (
 .region [jA 30 (qN 5 6),jA 31 (qN 3 7),jA 32 (.call (.c (.fn (.func 51) [] [])) [(.t 30),(.t 31)]),qm 29 32,jA 33 (.ext (.t 29) 0),jA 34 (.ext (.t 29) 1),jA 35 (.ext (.t 29) 2),jA 8 (.alloc [(.int .i64 0),(.int .i64 0)]),jA 9 (.alloc [(.int .i64 0),(.int .i64 0)]),jG 2 8 33,jG 2 9 34,qm 10 35]) (
 .seq (
 .seq (
 .region [qm 36 10,jA 37 (.un .not (.t 36))]) (.cond (.t 37) (
 .seq (
 .region [jA 38 (.build [.nils, .nils] []),jG 2 4 38,jA 5 (qK false)]) .ret) .skip)) (
 .seq (
 .region [jB 39 (qN 3 7),jB 40 (qN 2 8),jB 42 (qF 1 8),jB 43 (qL 42),⟨(some 44),(.bslice 1 1 [(.int .i64 0)] [(0,(1,(.t 43)))]),none,[(39,(none,(.load (some 3) (.t 7)))),(40,(none,(.load (some 2) (.t 8)))),(43,(none,(.load none (.t 42))))],true⟩,jB 45 (qN 5 6),jB 46 (qN 2 9),⟨(some 47),(.bslice 2 1 [(.int .i64 0),(.int .i64 0)] [(0,(2,(.t 46)))]),none,[(39,(none,(.load (some 3) (.t 7)))),(40,(none,(.load (some 2) (.t 8)))),(43,(none,(.load none (.t 42)))),(45,(none,(.load (some 5) (.t 6)))),(46,(none,(.load (some 2) (.t 9))))],true⟩,jB 49 (qN 2 8),⟨(some 41),(.call (.c (.fn (.func 52) [] [])) [(.t 39),(.t 40)]),none,[(43,(none,(.load none (.t 42)))),(45,(none,(.load (some 5) (.t 6)))),(46,(none,(.load (some 2) (.t 9)))),(49,(none,(.load (some 2) (.t 8))))],true⟩,⟨(some 48),(.call (.c (.fn (.func 49) [] [])) [(.t 45),(.t 47)]),none,[(43,(none,(.load none (.t 42)))),(49,(none,(.load (some 2) (.t 8))))],true⟩,⟨(some 50),(.call (.c (.fn (.func 52) [] [])) [(.t 48),(.t 49)]),none,[(43,(none,(.load none (.t 42))))],true⟩,jB 51 (.append 1 8 (.t 44) (.t 50)),jB 52 (.build [.nils, .nils] [(0,(1,(.t 41))),(1,(1,(.t 51)))]),jH 2 4 52,jB 5 (qK true)]) .ret)))))))⟩
theorem c18:compFunc Tryz.prog GL [] Tryz.f18=some l18:=by kernel_rfl
def l19:LFunc:=⟨138,[(.cell 4 (some 2)),(.tmp 5)],
 (
 .seq (
 .region [jA 2 (qO 0),jA 3 (.box false (.t 1)),jA 4 (.alloc [.nils, .nils]),jA 5 (qK false)]) (
 .seq (
 .seq (
 .region [jA 14 (qN 3 2),jA 15 (qN 2 3),jA 16 (.call (.c (.fn (.func 53) [] [])) [(.t 14),(.t 15)]),jA 17 (.un .not (.t 16))]) (.cond (.t 17) (
 .seq (
 .region [jA 18 (.build [.nils, .nils] []),jG 2 4 18,jA 5 (qK false)]) .ret) .skip)) (
 .seq (
 .region [jA 19 (qN 2 3),jA 20 (qG 54 19),jG 2 3 20]) (
 .seq (
 .region [jA 21 (qN 3 2),jA 22 (qN 2 3),jA 23 (qF 1 2),ql 24 23,jA 25 (.call (.c (.fn (.func 55) [] [])) [(.t 21),(.t 22),(.c (.int .i64 0)),(.t 24)]),qm 6 25]) (
 .seq (
 .seq (
 .region [jA 7 (qC 0)]) (.block 0 (.loop (
 .seq (
 .seq (
 .region [qm 26 7,qm 27 6,jA 28 (.nilchk (.t 27)),jA 29 (qF 6 28),ql 30 29,jA 31 (qS 30),jA 32 (qB 26 31)]) (.cond (.t 32) .skip (.exit 0))) (
 .seq (.block 1 (
 .seq (
 .region [jB 35 (qF 2 2),jB 36 (qL 35),jB 37 (qM 6),jB 38 (.nilchk (.t 37)),jB 39 (qF 7 38),jB 40 (qL 39),jB 41 (qM 7),jB 42 (qI 1 40 41),jB 43 (qL 42),jB 44 (qI 1 36 43),jB 45 (qL 44),jB 46 (qM 6),jB 47 (qM 6),jB 48 (.nilchk (.t 47)),jB 49 (qF 6 48),jB 50 (qL 49),jB 51 (qM 7),jB 52 (qI 1 50 51),jB 53 (qL 52),⟨(some 54),(.call (.c (.fn (.func 56) [] [])) [(.t 46),(.t 53)]),none,[(36,(none,(.load none (.t 35)))),(40,(none,(.load none (.t 39)))),(43,(none,(.load none (.t 42)))),(45,(none,(.load none (.t 44))))],true⟩,jB 55 (qI 1 45 54),jB 56 (qL 55),jB 8 (qM 56)]) (
 .seq (
 .region [jA 9 (qC 0)]) (.block 2 (.loop (
 .seq (
 .seq (
 .region [qm 57 9,qm 58 8,jA 59 (qS 58),jA 60 (qB 57 59)]) (.cond (.t 60) .skip (.exit 2))) (
 .seq (.block 3 (
 .seq (
 .seq (
 .region [qm 63 8,qm 64 9,jA 65 (qI 2 63 64),jA 66 (qF 1 65),ql 67 66,jA 68 (.un .not (.t 67))]) (.cond (.t 68) (.exit 3) .skip)) (
 .seq (
 .region [jB 69 (qN 3 2),jB 70 (qN 2 3),jB 71 (qM 6),jB 72 (qM 6),jB 73 (.nilchk (.t 72)),jB 74 (qF 6 73),jB 75 (qL 74),jB 76 (qM 7),jB 77 (qI 1 75 76),jB 78 (qL 77),jB 80 (qM 8),jB 81 (qM 9),jB 82 (qI 2 80 81),jB 83 (qF 0 82),jB 84 (qL 83),⟨(some 85),(.bslice 1 1 [(.int .i64 0)] [(0,(1,(.t 84)))]),none,[(69,(none,(.load (some 3) (.t 2)))),(70,(none,(.load (some 2) (.t 3)))),(75,(none,(.load none (.t 74)))),(78,(none,(.load none (.t 77)))),(84,(none,(.load none (.t 83))))],true⟩,⟨(some 79),(.call (.c (.fn (.func 57) [] [])) [(.t 71),(.t 78)]),none,[(69,(none,(.load (some 3) (.t 2)))),(70,(none,(.load (some 2) (.t 3)))),(84,(none,(.load none (.t 83))))],true⟩,jB 86 (.call (.c (.fn (.func 55) [] [])) [(.t 69),(.t 70),(.t 79),(.t 85)]),jB 10 (qM 86)]) (
 .seq (
 .region [jB 87 (qM 10),jB 88 (.nilchk (.t 87)),jB 89 (qF 5 88),jB 90 (qL 89),jB 91 (qM 6),jB 92 (.nilchk (.t 91)),jB 93 (qF 6 92),jB 94 (qL 93),jB 95 (qM 7),jB 96 (qI 1 94 95),jB 97 (qL 96),jB 98 (qI 1 90 97),jB 99 (qL 98),jB 100 (qM 6),jB 101 (.nilchk (.t 100)),jB 102 (qF 7 101),jB 103 (qL 102),jB 104 (qM 7),jB 105 (qI 1 103 104),jB 106 (qL 105),jB 107 (qI 1 99 106),jB 108 (qL 107),jB 11 (qM 108)]) (
 .seq (
 .seq (
 .region [qm 109 11,jA 110 (.bin .lss (.t 109) (.c (.int .i64 0)))]) (.cond (.t 110) (.exit 3) .skip)) (
 .seq (
 .region [qm 111 6,qm 112 7,jA 113 (.call (.c (.fn (.func 58) [] [])) [(.t 111),(.t 112)]),qm 12 113]) (
 .seq (
 .region [qm 114 10,qm 115 11,jA 116 (.call (.c (.fn (.func 58) [] [])) [(.t 114),(.t 115)]),qm 13 116]) (
 .seq (
 .region [jB 117 (qM 12),jB 118 (qM 12),jB 119 (qS 118),jB 120 (.bin .sub (.t 119) (.c (.int .i64 1))),jB 121 (.slice 1 (.t 117) none (some (.t 120))),jB 122 (qM 6),jB 123 (.nilchk (.t 122)),jB 124 (qF 7 123),jB 125 (qL 124),jB 126 (qM 7),jB 127 (qI 1 125 126),jB 128 (qL 127),⟨(some 129),(.bslice 1 1 [(.int .i64 0)] [(0,(1,(.t 128)))]),none,[(125,(none,(.load none (.t 124)))),(128,(none,(.load none (.t 127))))],true⟩,jB 130 (qM 13),jB 131 (qM 13),jB 132 (qS 131),jB 133 (.bin .sub (.t 132) (.c (.int .i64 1))),jB 134 (.slice 1 (.t 130) none (some (.t 133))),jB 135 (.append 1 8 (.t 129) (.t 134)),jB 136 (.build [.nils, .nils] [(0,(1,(.t 121))),(1,(1,(.t 135)))]),jH 2 4 136,jB 5 (qK true)]) .ret)))))))) (
 .region [qm 61 9,jA 62 (qA 61 1),qm 9 62])))))))) (
 .region [qm 33 7,jA 34 (qA 33 1),qm 7 34])))))) (
 .seq (
 .region [jA 137 (.build [.nils, .nils] []),jG 2 4 137,jA 5 (qK false)]) .ret))))))⟩
theorem c19:compFunc Tryz.prog GL [3] Tryz.f19=some l19:=by kernel_rfl
def l20:LFunc:=⟨17,[(.tmp 4)],
 (
 .seq (
 .region [jA 2 (qO 0),jA 3 (qO 1),jA 4 (qK false)]) (
 .seq (
 .region [jA 5 (qF 0 2),ql 6 5,jA 7 (qF 0 3),ql 8 7,jA 9 (.call (.c (.fn (.func 59) [] [])) [(.t 6),(.t 8)]),qm 10 9,jD 11 (qF 1 2) 10,jD 12 (qL 11) 10,jD 13 (qF 1 3) 10,jD 14 (qL 13) 10,jD 15 (.call (.c (.fn (.func 59) [] [])) [(.t 12),(.t 14)]) 10,jA 16 (.pick (.t 10) (.t 15) (.c (.bool false))),qm 4 16]) .ret))⟩
theorem c20:compFunc Tryz.prog GL [] Tryz.f20=some l20:=by kernel_rfl
def l21:LFunc:=⟨33,[(.tmp 4)],
 (
 .seq (
 .region [jA 2 (qO 0),jA 3 (qO 1),jA 4 (qK false)]) (
 .seq (
 .seq (
 .region [jA 9 (qN 3 2),jA 10 (qG 9 9),jA 11 (.un .not (.t 10)),qm 12 11,jC 13 (qF 0 2) 12,jC 14 (qL 13) 12,jC 15 (qN 2 3) 12,jC 16 (.call (.c (.fn (.func 46) [] [])) [(.t 14),(.t 15)]) 12,jC 17 (.un .not (.t 16)) 12,jA 18 (qP 12 17)]) (.cond (.t 18) (
 .seq (
 .region [jA 4 (qK false)]) .ret) .skip)) (
 .seq (
 .region [jA 19 (qN 3 2),jA 20 (qN 2 3),jA 21 (.call (.c (.fn (.func 48) [] [])) [(.t 19),(.t 20)]),jA 5 (.alloc [(.int .i64 0), .nils, .nils, .nils,(.int .i64 0)]),jG 5 5 21]) (
 .seq (
 .region [jB 23 (qN 5 5),jB 24 (qN 5 5),jB 25 (qN 5 5),⟨(some 6),(.alloc [(.int .i64 0),(.int .i64 0)]),none,[(23,(none,(.load (some 5) (.t 5)))),(24,(none,(.load (some 5) (.t 5)))),(25,(none,(.load (some 5) (.t 5))))],true⟩,⟨(some 7),(.alloc [(.int .i64 0),(.int .i64 0)]),none,[(23,(none,(.load (some 5) (.t 5)))),(24,(none,(.load (some 5) (.t 5)))),(25,(none,(.load (some 5) (.t 5))))],true⟩,⟨(some 26),(.call (.c (.fn (.func 50) [] [])) [(.t 25)]),none,[(23,(none,(.load (some 5) (.t 5)))),(24,(none,(.load (some 5) (.t 5))))],true⟩,⟨(some 27),(.call (.c (.fn (.func 49) [] [])) [(.t 24),(.t 26)]),none,[(23,(none,(.load (some 5) (.t 5))))],true⟩,jB 28 (.call (.c (.fn (.func 51) [] [])) [(.t 23),(.t 27)]),jB 22 (qM 28),jB 29 (.ext (.t 22) 0),jB 30 (.ext (.t 22) 1),jB 31 (.ext (.t 22) 2),jH 2 6 29,jH 2 7 30,jB 8 (qM 31)]) (
 .seq (
 .region [qm 32 8,qm 4 32]) .ret)))))⟩
theorem c21:compFunc Tryz.prog GL [] Tryz.f21=some l21:=by kernel_rfl
def l22:LFunc:=⟨102,[(.tmp 6)],
 (
 .seq (
 .region [jA 3 (qO 0),jA 4 (qO 1),jA 5 (qO 2),jA 6 (qK false)]) (
 .seq (
 .seq (
 .region [jA 15 (qN 3 3),jA 16 (qG 9 15),jA 17 (.un .not (.t 16)),qm 18 17,jC 19 (qF 0 3) 18,jC 20 (qL 19) 18,jC 21 (qN 2 4) 18,jC 22 (.call (.c (.fn (.func 46) [] [])) [(.t 20),(.t 21)]) 18,jC 23 (.un .not (.t 22)) 18,jA 24 (qP 18 23),qm 25 24,jC 26 (qF 1 5) 25,jC 27 (qL 26) 25,jC 28 (qS 27) 25,jC 29 (.bin .eql (.t 28) (.c (.int .i64 0))) 25,jA 30 (qP 25 29)]) (.cond (.t 30) (
 .seq (
 .region [jA 6 (qK false)]) .ret) .skip)) (
 .seq (
 .region [jA 31 (.mkfn (.func 60) [] [(.t 5)]),jA 7 (.alloc [.nilf]),jG 1 7 31]) (
 .seq (
 .seq (
 .region [jB 32 (qF 1 3),jB 33 (qL 32),jB 34 (qL 7),⟨(some 35),(.call (.t 34) [(.c (.int .i64 0))]),none,[(33,(none,(.load none (.t 32))))],true⟩,jB 36 (.call (.c (.fn (.func 62) [] [])) [(.t 33),(.t 35)]),jB 37 (.un .not (.t 36))]) (.cond (.t 37) (
 .seq (
 .region [jA 6 (qK false)]) .ret) .skip)) (
 .seq (
 .region [jA 38 (qF 0 5),ql 39 38,jA 40 (qS 39),jA 41 (qF 0 4),ql 42 41,jA 43 (qS 42),jA 44 (.minmax true [(.t 40),(.t 43)]),qm 8 44]) (
 .seq (
 .region [jB 45 (qF 1 5),jB 46 (qL 45),jB 47 (qS 46),jB 48 (qF 1 5),jB 49 (qL 48),jB 50 (qS 49),jB 51 (qF 1 4),jB 52 (qL 51),jB 53 (qS 52),jB 56 (qF 1 4),jB 57 (qL 56),jB 58 (qS 57),⟨(some 54),(.call (.c (.fn (.func 63) [] [])) [(.t 50),(.t 53)]),none,[(46,(none,(.load none (.t 45)))),(57,(none,(.load none (.t 56))))],true⟩,jB 55 (.bin .quo (.t 47) (.t 54)),jB 59 (.bin .mul (.t 55) (.t 58)),jB 9 (qM 59)]) (
 .seq (
 .region [jA 10 (qK false)]) (
 .seq (
 .seq (
 .region [qm 60 8,qm 61 9,jA 62 (.bin .add (.t 60) (.t 61)),jA 63 (qC 0)]) (.block 0 (.loop (
 .seq (
 .region [jA 64 (qB 63 62)]) (
 .seq (.cond (.t 64) .skip (.exit 0)) (
 .seq (.block 1 (
 .seq (
 .region [qm 65 63,jA 11 (.alloc [(.int .i64 0)]),jG 1 11 65]) (
 .seq (
 .region [jB 66 (qF 2 3),jB 67 (qL 66),jB 68 (qL 7),jB 69 (qL 11),jB 73 (qF 0 4),jB 74 (qL 73),jB 75 (qF 1 4),jB 76 (qL 75),jB 77 (qL 11),⟨(some 12),(.alloc [.nils]),none,[(67,(none,(.load none (.t 66)))),(68,(none,(.load none (.t 7)))),(69,(none,(.load none (.t 11)))),(74,(none,(.load none (.t 73)))),(76,(none,(.load none (.t 75)))),(77,(none,(.load none (.t 11))))],true⟩,⟨(some 70),(.call (.t 68) [(.t 69)]),none,[(67,(none,(.load none (.t 66)))),(74,(none,(.load none (.t 73)))),(76,(none,(.load none (.t 75)))),(77,(none,(.load none (.t 11))))],true⟩,jB 71 (qI 1 67 70),jB 72 (qL 71),⟨(some 78),(.call (.c (.fn (.func 61) [] [])) [(.t 74),(.t 76),(.t 77)]),none,[(67,(none,(.load none (.t 66)))),(72,(none,(.load none (.t 71))))],true⟩,jB 79 (qI 1 72 78),jB 80 (qL 79),jH 1 12 80]) (
 .seq (
 .region [jA 81 (.mkfn (.func 64) [] [(.t 12),(.t 7),(.t 11)]),qm 13 81]) (
 .seq (
 .region [qm 82 13,jA 83 (.call (.t 82) [(.c (.bool true))]),qm 14 83]) (
 .seq (
 .seq (
 .region [qm 84 14,jA 85 (.un .not (.t 84)),qm 86 85,jD 87 (qM 13) 86,jD 88 (.call (.t 87) [(.c (.bool false))]) 86,jD 89 (.un .not (.t 88)) 86,jA 90 (.pick (.t 86) (.t 89) (.c (.bool false)))]) (.cond (.t 90) (
 .seq (
 .region [jA 6 (qK false)]) .ret) .skip)) (
 .region [qm 91 10,qm 92 91,jC 93 (qM 14) 92,jC 94 (qM 93) 92,jD 95 (qL 11) 94,jD 96 (qM 8) 94,jD 97 (.bin .geq (.t 95) (.t 96)) 94,jC 98 (.pick (.t 94) (.t 97) (.c (.bool false))) 92,jA 99 (qP 92 98),qm 10 99]))))))) (
 .region [jA 100 (qA 63 1),qm 63 100]))))))) (
 .seq (
 .region [qm 101 10,qm 6 101]) .ret)))))))))⟩
theorem c22:compFunc Tryz.prog GL [] Tryz.f22=some l22:=by kernel_rfl
def l23:LFunc:=⟨128,[(.tmp 6)],
 (
 .seq (
 .region [jA 3 (qO 0),jA 4 (qO 1),jA 5 (qO 2),jA 6 (qK false)]) (
 .seq (
 .seq (
 .region [jA 18 (qF 1 5),ql 19 18,jA 20 (qS 19),jA 21 (.bin .eql (.t 20) (.c (.int .i64 0))),qm 22 21,jC 23 (qN 3 3) 22,jC 24 (qN 2 4) 22,jC 25 (.call (.c (.fn (.func 53) [] [])) [(.t 23),(.t 24)]) 22,jC 26 (.un .not (.t 25)) 22,jA 27 (qP 22 26)]) (.cond (.t 27) (
 .seq (
 .region [jA 6 (qK false)]) .ret) .skip)) (
 .seq (
 .region [jA 28 (qN 2 5),jA 29 (.call (.c (.fn (.func 66) [] [])) [(.t 28),(.c (.int .i64 0))]),qm 7 29]) (
 .seq (
 .region [jA 8 (qK false)]) (
 .seq (
 .seq (
 .region [jA 9 (qC 0)]) (.block 0 (.loop (
 .seq (
 .seq (
 .region [qm 30 9,jA 31 (qF 1 3),ql 32 31,jA 33 (qS 32),jA 34 (qB 30 33)]) (.cond (.t 34) .skip (.exit 0))) (
 .seq (.block 1 (
 .region [qm 37 8,qm 38 37,jC 39 (qF 1 3) 38,jC 40 (qL 39) 38,jC 41 (qM 9) 38,jC 42 (qI 1 40 41) 38,jC 43 (qL 42) 38,jC 44 (qM 7) 38,jC 45 (.bin .eql (.t 43) (.t 44)) 38,jA 46 (qP 38 45),qm 8 46])) (
 .region [qm 35 9,jA 36 (qA 35 1),qm 9 36])))))) (
 .seq (
 .region [jA 47 (qF 0 5),ql 48 47,jA 49 (qS 48),jA 50 (qF 0 4),ql 51 50,jA 52 (qS 51),jA 53 (.minmax true [(.t 49),(.t 52)]),qm 10 53]) (
 .seq (
 .region [qm 54 10,jA 55 (qF 1 5),ql 56 55,jA 57 (qS 56),jA 58 (qF 1 4),ql 59 58,jA 60 (qS 59),jA 61 (.bin .mul (.t 57) (.t 60)),jA 62 (.bin .add (.t 54) (.t 61)),qm 11 62]) (
 .seq (
 .region [jA 12 (qK false)]) (
 .seq (
 .seq (
 .region [jA 13 (qC 0)]) (.block 2 (.loop (
 .seq (
 .seq (
 .region [qm 63 13,qm 64 11,jA 65 (qB 63 64),qm 66 65,jD 67 (qM 8) 66,jA 68 (.pick (.t 66) (.t 67) (.c (.bool false)))]) (.cond (.t 68) .skip (.exit 2))) (
 .seq (.block 3 (
 .seq (
 .region [jA 71 (qN 2 5),qm 72 13,jA 73 (.call (.c (.fn (.func 66) [] [])) [(.t 71),(.t 72)]),qm 14 73]) (
 .seq (
 .seq (
 .region [qm 74 14,jA 75 (.bin .lss (.t 74) (.c (.int .i64 0))),qm 76 75,jC 77 (qM 14) 76,jC 78 (qF 2 3) 76,jC 79 (qL 78) 76,jC 80 (qS 79) 76,jC 81 (.bin .geq (.t 77) (.t 80)) 76,jA 82 (qP 76 81)]) (.cond (.t 82) (
 .seq (
 .region [jA 6 (qK false)]) .ret) .skip)) (
 .seq (
 .region [jB 83 (qF 2 3),jB 84 (qL 83),jB 85 (qM 14),jB 86 (qI 1 84 85),jB 87 (qL 86),jB 88 (qN 2 4),jB 89 (qM 13),⟨(some 90),(.call (.c (.fn (.func 67) [] [])) [(.t 88),(.t 89)]),none,[(84,(none,(.load none (.t 83)))),(87,(none,(.load none (.t 86))))],true⟩,jB 91 (qI 1 87 90),jB 92 (qL 91),jB 15 (qM 92)]) (
 .seq (
 .region [jA 16 (qK false)]) (
 .seq (
 .seq (
 .region [jA 17 (qC 0)]) (.block 4 (.loop (
 .seq (
 .seq (
 .region [qm 93 17,qm 94 15,jA 95 (qS 94),jA 96 (qB 93 95)]) (.cond (.t 96) .skip (.exit 4))) (
 .seq (.block 5 (
 .seq (
 .region [jB 99 (qM 15),jB 100 (qM 17),jB 101 (qI 2 99 100),jB 102 (qF 0 101),jB 103 (qL 102),jB 104 (qN 2 5),jB 105 (qM 13),jB 106 (qA 105 1),⟨(some 107),(.call (.c (.fn (.func 66) [] [])) [(.t 104),(.t 106)]),none,[(103,(none,(.load none (.t 102))))],true⟩,jB 108 (.bin .eql (.t 103) (.t 107))]) (.cond (.t 108) (
 .seq (
 .region [jA 16 (qK true)]) (
 .region [qm 109 12,qm 110 109,jC 111 (qM 15) 110,jC 112 (qM 17) 110,jC 113 (qI 2 111 112) 110,jC 114 (qF 1 113) 110,jC 115 (qL 114) 110,jC 116 (qM 115) 110,jD 117 (qM 13) 116,jD 118 (qM 10) 116,jD 119 (.bin .geq (.t 117) (.t 118)) 116,jC 120 (.pick (.t 116) (.t 119) (.c (.bool false))) 110,jA 121 (qP 110 120),qm 12 121])) .skip))) (
 .region [qm 97 17,jA 98 (qA 97 1),qm 17 98])))))) (
 .seq (
 .region [qm 122 16,jA 123 (.un .not (.t 122))]) (.cond (.t 123) (
 .seq (
 .region [jA 6 (qK false)]) .ret) .skip)))))))) (
 .region [qm 69 13,jA 70 (qA 69 1),qm 13 70])))))) (
 .seq (
 .region [qm 124 8,qm 125 124,jD 126 (qM 12) 125,jA 127 (.pick (.t 125) (.t 126) (.c (.bool false))),qm 6 127]) .ret))))))))))⟩
theorem c23:compFunc Tryz.prog GL [] Tryz.f23=some l23:=by kernel_rfl
def l33:LFunc:=⟨13,[(.tmp 3)],
 (
 .seq (
 .region [jA 3 (qK false)]) (
 .seq (
 .region [qm 4 0,jA 5 (.bin .geq (.t 4) (.c (.int .i64 0))),qm 6 5,jD 7 (qM 0) 6,jD 8 (qF 2 1) 6,jD 9 (qL 8) 6,jD 10 (qS 9) 6,jD 11 (qB 7 10) 6,jA 12 (.pick (.t 6) (.t 11) (.c (.bool false))),qm 3 12]) .ret))⟩
theorem c33:compFunc Tryz.prog GL [] Tryz.f33=some l33:=by kernel_rfl
def l34:LFunc:=⟨23,[(.tmp 4)],
 (
 .seq (
 .region [jA 2 (qO 0),jA 3 (qO 1),jA 4 (qC 0)]) (
 .seq (
 .seq (
 .region [jA 6 (qF 0 2),ql 7 6,jA 8 (qF 0 3),ql 9 8,jA 10 (.call (.c (.fn (.func 77) [] [])) [(.t 7),(.t 9)]),qm 5 10]) (
 .seq (
 .region [qm 11 5,jA 12 (.bin .neq (.t 11) (.c (.int .i64 0))),qm 13 12,jC 14 (qF 1 2) 13,jC 15 (qL 14) 13,jC 16 (qF 1 3) 13,jC 17 (qL 16) 13,jC 18 (.eq false .bool (.t 15) (.t 17)) 13,jA 19 (qP 13 18)]) (.cond (.t 19) (
 .seq (
 .region [qm 20 5,qm 4 20]) .ret) .skip))) (
 .seq (
 .seq (
 .region [jA 21 (qF 1 3),ql 22 21]) (.cond (.t 22) (
 .seq (
 .region [jA 4 (.mv (.c (.int .i64 (-1))))]) .ret) .skip)) (
 .seq (
 .region [jA 4 (qC 1)]) .ret))))⟩
theorem c34:compFunc Tryz.prog GL [] Tryz.f34=some l34:=by kernel_rfl
def l35:LFunc:=⟨26,[(.tmp 4)],
 (
 .seq (
 .region [jA 2 (qO 0),jA 3 (qO 1),jA 4 (qK false)]) (
 .seq (
 .region [jA 5 (qF 0 2),ql 6 5,jA 7 (qF 0 3),ql 8 7,jA 9 (qB 6 8),qm 10 9,jC 11 (qF 0 2) 10,jC 12 (qL 11) 10,jC 13 (qF 0 3) 10,jC 14 (qL 13) 10,jC 15 (.bin .eql (.t 12) (.t 14)) 10,jC 16 (qM 15) 10,jD 17 (qF 1 2) 16,jD 18 (qL 17) 16,jD 19 (.un .not (.t 18)) 16,jC 20 (.pick (.t 16) (.t 19) (.c (.bool false))) 10,jC 21 (qM 20) 10,jD 22 (qF 1 3) 21,jD 23 (qL 22) 21,jC 24 (.pick (.t 21) (.t 23) (.c (.bool false))) 10,jA 25 (qP 10 24),qm 4 25]) .ret))⟩
theorem c35:compFunc Tryz.prog GL [] Tryz.f35=some l35:=by kernel_rfl
def l46:LFunc:=⟨19,[(.tmp 4)],
 (
 .seq (
 .region [jA 3 (qO 1),jA 4 (qK false)]) (
 .seq (
 .region [jA 5 (qN 2 3),jA 6 (qG 82 5),qm 7 6,jD 8 (qF 0 3) 7,jD 9 (qL 8) 7,jD 10 (qM 0) 7,jD 11 (.call (.c (.fn (.func 83) [] [])) [(.t 9),(.t 10)]) 7,jA 12 (.pick (.t 7) (.t 11) (.c (.bool false))),qm 13 12,jD 14 (qF 1 3) 13,jD 15 (qL 14) 13,jD 16 (qM 0) 13,jD 17 (.call (.c (.fn (.func 83) [] [])) [(.t 15),(.t 16)]) 13,jA 18 (.pick (.t 13) (.t 17) (.c (.bool false))),qm 4 18]) .ret))⟩
theorem c46:compFunc Tryz.prog GL [] Tryz.f46=some l46:=by kernel_rfl
def l47:LFunc:=⟨76,[(.tmp 6)],
 (
 .seq (
 .region [jA 3 (qO 0),jA 4 (qO 1),jA 6 (qK false)]) (
 .seq (
 .seq (
 .region [jA 9 (qF 2 3),ql 10 9,jA 11 (qS 10),qm 12 2,jA 13 (.bin .gtr (.t 11) (.t 12)),qm 14 13,jC 15 (qF 1 3) 14,jC 16 (qL 15) 14,jC 17 (qS 16) 14,jC 18 (.bin .gtr (.t 17) (.c (.int .i64 60))) 14,jA 19 (qP 14 18),qm 20 19,jC 21 (qF 0 3) 20,jC 22 (qL 21) 20,jC 23 (.bin .gtr (.t 22) (.c (.int .i64 8))) 20,jC 24 (qM 23) 20,jD 25 (qF 0 3) 24,jD 26 (qL 25) 24,jD 27 (.bin .leq (.t 26) (.c (.int .i64 64))) 24,jC 28 (.pick (.t 24) (.t 27) (.c (.bool false))) 20,jA 29 (qP 20 28),qm 30 29,jC 31 (qF 0 4) 30,jC 32 (qL 31) 30,jC 33 (qS 32) 30,jC 34 (.bin .gtr (.t 33) (.c (.int .i64 12))) 30,jA 35 (qP 30 34),qm 36 35,jC 37 (qF 1 4) 36,jC 38 (qL 37) 36,jC 39 (qS 38) 36,jC 40 (.bin .gtr (.t 39) (.c (.int .i64 12))) 36,jA 41 (qP 36 40)]) (.cond (.t 41) (
 .seq (
 .region [jA 6 (qK false)]) .ret) .skip)) (
 .seq (
 .seq (
 .region [jA 7 (qC 0)]) (.block 0 (.loop (
 .seq (
 .seq (
 .region [qm 42 7,jA 43 (qF 2 3),ql 44 43,jA 45 (qS 44),jA 46 (qB 42 45)]) (.cond (.t 46) .skip (.exit 0))) (
 .seq (.block 1 (
 .seq (
 .seq (
 .region [jA 49 (qF 2 3),ql 50 49,qm 51 7,jA 52 (qI 1 50 51),ql 53 52,jA 54 (qS 53),jA 55 (.bin .gtr (.t 54) (.c (.int .i64 64)))]) (.cond (.t 55) (
 .seq (
 .region [jA 6 (qK false)]) .ret) .skip)) (
 .seq (
 .region [jA 8 (qC 0)]) (.block 2 (.loop (
 .seq (
 .seq (
 .region [qm 56 8,jA 57 (qF 2 3),ql 58 57,qm 59 7,jA 60 (qI 1 58 59),ql 61 60,jA 62 (qS 61),jA 63 (qB 56 62)]) (.cond (.t 63) .skip (.exit 2))) (
 .seq (.block 3 (
 .seq (
 .region [jA 66 (qF 2 3),ql 67 66,qm 68 7,jA 69 (qI 1 67 68),ql 70 69,qm 71 8,jA 72 (qI 1 70 71),ql 73 72,jA 74 (qS 73),jA 75 (.bin .gtr (.t 74) (.c (.int .i64 60)))]) (.cond (.t 75) (
 .seq (
 .region [jA 6 (qK false)]) .ret) .skip))) (
 .region [qm 64 8,jA 65 (qA 64 1),qm 8 65])))))))) (
 .region [qm 47 7,jA 48 (qA 47 1),qm 7 48])))))) (
 .seq (
 .region [jA 6 (qK true)]) .ret))))⟩
theorem c47:compFunc Tryz.prog GL [] Tryz.f47=some l47:=by kernel_rfl
def l48:LFunc:=⟨19,[(.cell 4 (some 5))],
 (
 .seq (
 .region [jA 2 (qO 0),jA 3 (qO 1),jA 4 (.alloc [(.int .i64 0), .nils, .nils, .nils,(.int .i64 0)])]) (
 .seq (
 .region [jA 6 (qN 2 3),jA 7 (qG 84 6),jA 5 (.alloc [.nils, .nils]),jG 2 5 7]) (
 .seq (
 .region [jB 8 (qN 3 2),jB 9 (qF 0 5),jB 10 (qL 9),jB 11 (qF 1 5),jB 12 (qL 11),⟨(some 13),(.bslice 1 2 [.nils] [(0,(1,(.t 10))),(1,(1,(.t 12)))]),none,[(8,(none,(.load (some 3) (.t 2)))),(10,(none,(.load none (.t 9)))),(12,(none,(.load none (.t 11))))],true⟩,jB 15 (qF 0 5),jB 16 (qL 15),jB 17 (qS 16),⟨(some 14),(.call (.c (.fn (.func 85) [] [])) [(.t 13)]),none,[(8,(none,(.load (some 3) (.t 2)))),(16,(none,(.load none (.t 15))))],true⟩,jB 18 (.build [(.int .i64 0), .nils, .nils, .nils,(.int .i64 0)] [(0,(3,(.t 8))),(3,(1,(.t 14))),(4,(1,(.t 17)))]),jH 5 4 18]) .ret)))⟩
theorem c48:compFunc Tryz.prog GL [] Tryz.f48=some l48:=by kernel_rfl
def l49:LFunc:=⟨55,[(.cell 4 (some 3))],
 (
 .seq (
 .region [jA 2 (qO 0),jA 4 (.alloc [.nilm, .nils, .nils])]) (
 .seq (
 .region [jA 13 (.mkmap none),jA 14 (.build [.nilm, .nils, .nils] [(0,(1,(.t 13)))]),jA 5 (.alloc [.nilm, .nils, .nils]),jG 3 5 14]) (
 .seq (
 .region [jA 15 (.mkfn (.func 86) [] [(.t 5)]),qm 6 15]) (
 .seq (
 .seq (
 .region [qm 16 1,jA 17 (qS 16),jA 18 (qC 0)]) (.block 0 (.loop (
 .seq (
 .region [jA 19 (qB 18 17)]) (
 .seq (.cond (.t 19) .skip (.exit 0)) (
 .seq (.block 1 (
 .seq (
 .region [jA 20 (qI 2 16 18),jA 21 (qN 2 20),jA 8 (.alloc [(.int .i64 0),(.int .i64 0)]),jG 2 8 21]) (
 .region [qm 22 6,jA 23 (qN 2 8),jA 24 (.call (.t 22) [(.t 23),(.c (.int .i64 (-1)))])]))) (
 .region [jA 25 (qA 18 1),qm 18 25]))))))) (
 .seq (
 .seq (
 .region [jA 9 (qC 0)]) (.block 2 (.loop (
 .seq (
 .seq (
 .region [qm 26 9,jA 27 (qF 1 5),ql 28 27,jA 29 (qS 28),jA 30 (qB 26 29)]) (.cond (.t 30) .skip (.exit 2))) (
 .seq (.block 3 (
 .seq (
 .region [jA 33 (qF 1 5),ql 34 33,qm 35 9,jA 36 (qI 2 34 35),jA 37 (qN 2 36),jA 10 (.alloc [(.int .i64 0),(.int .i64 0)]),jG 2 10 37]) (
 .seq (
 .region [jA 38 (qN 5 2),jA 39 (qN 2 10),jA 40 (.call (.c (.fn (.func 87) [] [])) [(.t 38),(.t 39)]),jA 41 (qS 40),jA 42 (qC 0)]) (.block 4 (.loop (
 .seq (
 .region [jA 43 (qB 42 41)]) (
 .seq (.cond (.t 43) .skip (.exit 4)) (
 .seq (.block 5 (
 .seq (
 .region [jA 44 (qI 2 40 42),jA 45 (qN 2 44),jA 12 (.alloc [(.int .i64 0),(.bool false)]),jG 2 12 45]) (
 .region [qm 46 6,jA 47 (qN 5 2),jA 48 (qN 2 10),jA 49 (qN 2 12),jA 50 (.call (.c (.fn (.func 88) [] [])) [(.t 47),(.t 48),(.t 49)]),qm 51 9,jA 52 (.call (.t 46) [(.t 50),(.t 51)])]))) (
 .region [jA 53 (qA 42 1),qm 42 53]))))))))) (
 .region [qm 31 9,jA 32 (qA 31 1),qm 9 32])))))) (
 .seq (
 .region [jA 54 (qN 3 5),jG 3 4 54]) .ret))))))⟩
theorem c49:compFunc Tryz.prog GL [] Tryz.f49=some l49:=by kernel_rfl
def l50:LFunc:=⟨21,[(.tmp 2)],
 (
 .seq (
 .region [jA 1 (qO 0),jA 2 (.mv (.c .nils))]) (
 .seq (
 .region [jA 3 (.mv (.c .nils))]) (
 .seq (
 .seq (
 .region [jA 6 (qF 0 1),jA 7 (qF 1 6),ql 8 7,jA 9 (qS 8),jA 10 (qC 0)]) (.block 0 (.loop (
 .seq (
 .region [jA 11 (qB 10 9)]) (
 .seq (.cond (.t 11) .skip (.exit 0)) (
 .seq (.block 1 (
 .seq (
 .region [jA 12 (qI 1 8 10),ql 13 12,qm 5 13]) (
 .region [qm 14 3,qm 15 5,jA 16 (.build [(.int .i64 0),(.int .i64 0)] [(1,(1,(.t 15)))]),jA 17 (.bslice 2 1 [(.int .i64 0),(.int .i64 0)] [(0,(2,(.t 16)))]),jA 18 (.append 2 16 (.t 14) (.t 17)),qm 3 18]))) (
 .region [jA 19 (qA 10 1),qm 10 19]))))))) (
 .seq (
 .region [qm 20 3,qm 2 20]) .ret))))⟩
theorem c50:compFunc Tryz.prog GL [] Tryz.f50=some l50:=by kernel_rfl
def l51:LFunc:=⟨102,[(.cell 4 (some 2)),(.cell 5 (some 2)),(.tmp 6)],
 (
 .seq (
 .region [jA 2 (qO 0),jA 3 (.box false (.t 1)),jA 4 (.alloc [(.int .i64 0),(.int .i64 0)]),jA 5 (.alloc [(.int .i64 0),(.int .i64 0)]),jA 6 (qK false)]) (
 .seq (
 .region [jA 17 (qF 1 3),ql 18 17,jA 19 (qS 18),jA 20 (.mkslice 1 24 [.nils] (.t 19) (.t 19)),qm 7 20]) (
 .seq (
 .seq (
 .region [jA 21 (qF 1 3),ql 22 21,jA 23 (qS 22),jA 24 (qC 0)]) (.block 0 (.loop (
 .seq (
 .region [jA 25 (qB 24 23)]) (
 .seq (.cond (.t 25) .skip (.exit 0)) (
 .seq (.block 1 (
 .seq (
 .region [qm 26 24,jA 27 (qI 2 22 24),jA 28 (qN 2 27),jA 9 (.alloc [(.int .i64 0),(.int .i64 0)]),qm 8 26,jG 2 9 28]) (
 .seq (
 .region [jA 29 (qN 5 2),jA 30 (qN 2 9),jA 31 (.call (.c (.fn (.func 87) [] [])) [(.t 29),(.t 30)]),jA 32 (qS 31),jA 33 (qC 0)]) (.block 2 (.loop (
 .seq (
 .region [jA 34 (qB 33 32)]) (
 .seq (.cond (.t 34) .skip (.exit 2)) (
 .seq (.block 3 (
 .seq (
 .region [jA 35 (qI 2 31 33),jA 36 (qN 2 35),jA 11 (.alloc [(.int .i64 0),(.bool false)]),jG 2 11 36]) (
 .region [jB 37 (qM 7),jB 38 (qM 8),jB 39 (qM 7),jB 40 (qM 8),jB 41 (qI 1 39 40),jB 42 (qL 41),jB 43 (qF 0 3),jB 44 (qL 43),jB 45 (qN 5 2),jB 46 (qN 2 9),jB 47 (qN 2 11),⟨(some 48),(.call (.c (.fn (.func 88) [] [])) [(.t 45),(.t 46),(.t 47)]),none,[(42,(none,(.load none (.t 41)))),(44,(none,(.load none (.t 43))))],true⟩,jB 49 (.mlook (.st [(0,(1, .int)),(1,(1, .int))]) (.int .i64 0) false (.t 44) (.t 48)),⟨(some 50),(.bslice 1 1 [(.int .i64 0)] [(0,(1,(.t 49)))]),none,[(42,(none,(.load none (.t 41)))),(44,(none,(.load none (.t 43)))),(45,(none,(.load (some 5) (.t 2)))),(46,(none,(.load (some 2) (.t 9)))),(47,(none,(.load (some 2) (.t 11)))),(49,(none,(.mlook (.st [(0,(1, .int)),(1,(1, .int))]) (.int .i64 0) false (.t 44) (.t 48))))],true⟩,jB 51 (.append 1 8 (.t 42) (.t 50)),jB 52 (qI 1 37 38),jH 1 52 51]))) (
 .region [jA 53 (qA 33 1),qm 33 53]))))))))) (
 .region [jA 54 (qA 24 1),qm 24 54]))))))) (
 .seq (
 .region [qm 55 7,jA 56 (qG 89 55),qm 12 56]) (
 .seq (
 .seq (
 .region [jA 57 (qF 1 3),ql 58 57,jA 59 (qS 58),jA 60 (qC 0)]) (.block 4 (.loop (
 .seq (
 .region [jA 61 (qB 60 59)]) (
 .seq (.cond (.t 61) .skip (.exit 4)) (
 .seq (.block 5 (
 .seq (
 .region [qm 62 60,jA 63 (qI 2 58 60),jA 64 (qN 2 63),jA 14 (.alloc [(.int .i64 0),(.int .i64 0)]),qm 13 62,jG 2 14 64]) (
 .seq (
 .region [jA 65 (qN 5 2),jA 66 (qN 2 14),jA 67 (.call (.c (.fn (.func 87) [] [])) [(.t 65),(.t 66)]),jA 68 (qS 67),jA 69 (qC 0)]) (.block 6 (.loop (
 .seq (
 .region [jA 70 (qB 69 68)]) (
 .seq (.cond (.t 70) .skip (.exit 6)) (
 .seq (.block 7 (
 .seq (
 .region [qm 71 69,jA 72 (qI 2 67 69),jA 73 (qN 2 72),jA 16 (.alloc [(.int .i64 0),(.bool false)]),qm 15 71,jG 2 16 73]) (
 .seq (
 .region [jB 74 (qF 1 16),jB 75 (qL 74),jB 76 (qM 75),jE 77 (qM 12) 76,jE 78 (qM 7) 76,jE 79 (qM 13) 76,jE 80 (qI 1 78 79) 76,jE 81 (qL 80) 76,jE 82 (qM 15) 76,jE 83 (qI 1 81 82) 76,jE 84 (qL 83) 76,jE 85 (qI 1 77 84) 76,jE 86 (qL 85) 76,jE 87 (qM 12) 76,jE 88 (qM 13) 76,jE 89 (qI 1 87 88) 76,jE 90 (qL 89) 76,jE 91 (.bin .eql (.t 86) (.t 90)) 76,jB 92 (.pick (.t 76) (.t 91) (.c (.bool false)))]) (.cond (.t 92) (
 .seq (
 .region [jB 93 (qN 2 14),jB 94 (qN 5 2),jB 95 (qN 2 14),jB 96 (qN 2 16),⟨(some 97),(.call (.c (.fn (.func 88) [] [])) [(.t 94),(.t 95),(.t 96)]),none,[(93,(none,(.load (some 2) (.t 14))))],true⟩,jH 2 4 93,jH 2 5 97,jB 6 (qK true)]) .ret) .skip)))) (
 .region [jA 98 (qA 69 1),qm 69 98]))))))))) (
 .region [jA 99 (qA 60 1),qm 60 99]))))))) (
 .seq (
 .region [jA 100 (.build [(.int .i64 0),(.int .i64 0)] []),jA 101 (.build [(.int .i64 0),(.int .i64 0)] []),jG 2 4 100,jG 2 5 101,jA 6 (qK false)]) .ret))))))⟩
theorem c51:compFunc Tryz.prog GL [3] Tryz.f51=some l51:=by kernel_rfl
def l52:LFunc:=⟨58,[(.tmp 4)],
 (
 .seq (
 .region [jA 2 (.box false (.t 0)),jA 3 (qO 1),jA 4 (.mv (.c .nils))]) (
 .seq (
 .region [jA 5 (.mv (.c .nils))]) (
 .seq (
 .seq (
 .region [jB 9 (qF 2 2),jB 10 (qL 9),jB 11 (qF 0 2),jB 12 (qL 11),jB 13 (qN 2 3),jB 14 (.mlook (.st [(0,(1, .int)),(1,(1, .int))]) (.int .i64 0) false (.t 12) (.t 13)),jB 15 (qI 1 10 14),jB 16 (qL 15),jB 6 (qM 16)]) (.block 0 (.loop (
 .seq (
 .seq (
 .region [qm 17 6,jA 18 (.bin .geq (.t 17) (.c (.int .i64 0)))]) (.cond (.t 18) .skip (.exit 0))) (
 .seq (.block 1 (
 .region [qm 24 5,jA 25 (qF 1 2),ql 26 25,qm 27 6,jA 28 (qI 2 26 27),jA 29 (qF 1 28),ql 30 29,jA 31 (.bslice 1 1 [(.int .i64 0)] [(0,(1,(.t 30)))]),jA 32 (.append 1 8 (.t 24) (.t 31)),qm 5 32])) (
 .region [jA 19 (qF 2 2),ql 20 19,qm 21 6,jA 22 (qI 1 20 21),ql 23 22,qm 6 23])))))) (
 .seq (
 .seq (
 .region [qm 33 5,jA 34 (qS 33),jA 35 (.bin .sub (.t 34) (.c (.int .i64 1))),jA 7 (qC 0),qm 8 35]) (.block 2 (.loop (
 .seq (
 .seq (
 .region [qm 36 7,qm 37 8,jA 38 (qB 36 37)]) (.cond (.t 38) .skip (.exit 2))) (
 .seq (.block 3 (
 .region [jB 43 (qM 5),jB 44 (qM 7),jB 45 (qM 5),jB 46 (qM 8),jB 47 (qM 5),jB 48 (qM 8),jB 49 (qI 1 47 48),jB 50 (qL 49),jB 51 (qM 5),jB 52 (qM 7),jB 53 (qI 1 51 52),jB 54 (qL 53),jB 55 (qI 1 43 44),jH 1 55 50,jB 56 (qI 1 45 46),jH 1 56 54])) (
 .region [qm 39 7,jA 40 (qA 39 1),qm 41 8,jA 42 (.bin .sub (.t 41) (.c (.int .i64 1))),qm 7 40,qm 8 42])))))) (
 .seq (
 .region [qm 57 5,qm 4 57]) .ret)))))⟩
theorem c52:compFunc Tryz.prog GL [2] Tryz.f52=some l52:=by kernel_rfl
def l53:LFunc:=⟨13,[(.tmp 4)],
 (
 .seq (
 .region [jA 2 (qO 0),jA 3 (qO 1),jA 4 (qK false)]) (
 .seq (
 .region [jA 5 (qN 3 2),jA 6 (qG 10 5),qm 7 6,jD 8 (qF 0 2) 7,jD 9 (qL 8) 7,jD 10 (qN 2 3) 7,jD 11 (.call (.c (.fn (.func 90) [] [])) [(.t 9),(.t 10)]) 7,jA 12 (.pick (.t 7) (.t 11) (.c (.bool false))),qm 4 12]) .ret))⟩
theorem c53:compFunc Tryz.prog GL [] Tryz.f53=some l53:=by kernel_rfl
def l54:LFunc:=⟨11,[(.cell 2 (some 2))],
 (
 .seq (
 .region [jA 1 (qO 0),jA 2 (.alloc [.nils, .nils])]) (
 .seq (
 .region [jA 4 (qN 2 1),jA 5 (qG 91 4),qm 3 5]) (
 .seq (
 .seq (
 .region [qm 6 3,jA 7 (.un .not (.t 6))]) (.cond (.t 7) (
 .seq (
 .region [jA 8 (.build [.nils, .nils] []),jG 2 2 8]) .ret) .skip)) (
 .seq (
 .region [jA 9 (qN 2 1),jA 10 (qG 92 9),jG 2 2 10]) .ret))))⟩
theorem c54:compFunc Tryz.prog GL [] Tryz.f54=some l54:=by kernel_rfl
def l55:LFunc:=⟨65,[(.tmp 8)],
 (
 .seq (
 .region [jA 4 (qO 0),jA 5 (qO 1),jA 8 (.mv (.c .nilp))]) (
 .seq (
 .region [jA 14 (qN 3 4),jA 15 (qN 2 5),jA 16 (.build [(.int .i64 0), .nils, .nils, .nils, .nils, .nils, .nils, .nils, .nils] [(0,(3,(.t 14))),(3,(2,(.t 15)))]),jA 17 (.box false (.t 16)),qm 9 17]) (
 .seq (
 .seq (
 .region [jA 10 (qC 0)]) (.block 0 (.loop (
 .seq (
 .seq (
 .region [qm 18 10,jA 19 (qF 0 5),ql 20 19,jA 21 (qS 20),jA 22 (qF 1 5),ql 23 22,jA 24 (qS 23),jA 25 (.bin .add (.t 21) (.t 24)),jA 26 (qB 18 25)]) (.cond (.t 26) .skip (.exit 0))) (
 .seq (.block 1 (
 .seq (
 .region [jA 11 (.mv (.c .nils))]) (
 .seq (
 .seq (
 .region [jA 12 (qC 0)]) (.block 2 (.loop (
 .seq (
 .seq (
 .region [qm 29 12,jA 30 (qF 2 4),ql 31 30,jA 32 (qS 31),jA 33 (qB 29 32)]) (.cond (.t 33) .skip (.exit 2))) (
 .seq (.block 3 (
 .region [qm 36 11,jA 37 (.bslice 1 1 [(.int .i64 0)] [(0,(1,(.c (.int .i64 (-1)))))]),jA 38 (.append 1 8 (.t 36) (.t 37)),qm 11 38])) (
 .region [qm 34 12,jA 35 (qA 34 1),qm 12 35])))))) (
 .region [qm 39 9,qm 40 9,jA 41 (.nilchk (.t 40)),jA 42 (qF 5 41),ql 43 42,qm 44 11,jA 45 (.bslice 1 1 [.nils] [(0,(1,(.t 44)))]),jA 46 (.appendK 1 24 (.t 43) (.t 45)),jA 47 (.nilchk (.t 39)),jA 48 (qF 5 47),jG 1 48 46])))) (
 .region [qm 27 10,jA 28 (qA 27 1),qm 10 28])))))) (
 .seq (
 .seq (
 .region [jA 13 (qC 0)]) (.block 4 (.loop (
 .seq (
 .seq (
 .region [qm 49 13,qm 50 3,jA 51 (qS 50),jA 52 (qB 49 51)]) (.cond (.t 52) .skip (.exit 4))) (
 .seq (.block 5 (
 .region [qm 55 9,qm 56 2,qm 57 3,qm 58 13,jA 59 (qI 1 57 58),ql 60 59,jA 61 (.call (.c (.fn (.func 93) [] [])) [(.t 55),(.t 56),(.t 60),(.c (.int .i64 (-1)))])])) (
 .region [qm 53 13,jA 54 (qA 53 1),qm 13 54])))))) (
 .seq (
 .region [qm 62 9,jA 63 (qG 94 62)]) (
 .seq (
 .region [qm 64 9,qm 8 64]) .ret))))))⟩
theorem c55:compFunc Tryz.prog GL [17,45] Tryz.f55=some l55:=by kernel_rfl
def l56:LFunc:=⟨36,[(.tmp 4)],
 (
 .seq (
 .region [jA 4 (qC 0)]) (
 .seq (
 .seq (
 .region [qm 5 1,qm 6 0,jA 7 (.nilchk (.t 6)),jA 8 (qF 3 7),jA 9 (qF 0 8),ql 10 9,jA 11 (qS 10),jA 12 (qB 5 11)]) (.cond (.t 12) (
 .seq (
 .region [qm 13 0,jA 14 (.nilchk (.t 13)),jA 15 (qF 3 14),jA 16 (qF 0 15),ql 17 16,qm 18 1,jA 19 (qI 1 17 18),ql 20 19,qm 4 20]) .ret) .skip)) (
 .seq (
 .region [jB 21 (qM 0),jB 22 (.nilchk (.t 21)),jB 23 (qF 3 22),jB 24 (qF 1 23),jB 25 (qL 24),jB 26 (qM 1),jB 27 (qM 0),jB 28 (.nilchk (.t 27)),jB 29 (qF 3 28),jB 30 (qF 0 29),jB 31 (qL 30),jB 32 (qS 31),jB 33 (.bin .sub (.t 26) (.t 32)),jB 34 (qI 1 25 33),jB 35 (qL 34),jB 4 (qM 35)]) .ret)))⟩
theorem c56:compFunc Tryz.prog GL [] Tryz.f56=some l56:=by kernel_rfl
def l57:LFunc:=⟨29,[(.tmp 4)],
 (
 .seq (
 .region [jA 4 (qC 0)]) (
 .seq (
 .seq (
 .region [jB 5 (qM 1),jB 6 (qA 5 1),jB 7 (qM 0),jB 8 (.nilchk (.t 7)),jB 9 (qF 3 8),jB 10 (qF 0 9),jB 11 (qL 10),jB 12 (qS 11),jB 13 (qM 0),jB 14 (.nilchk (.t 13)),jB 15 (qF 3 14),jB 16 (qF 1 15),jB 17 (qL 16),jB 18 (qS 17),jB 19 (.bin .add (.t 12) (.t 18)),jB 20 (qB 6 19)]) (.cond (.t 20) (
 .seq (
 .region [qm 21 1,jA 22 (qA 21 1),qm 4 22]) .ret) .skip)) (
 .seq (
 .region [qm 23 0,jA 24 (.nilchk (.t 23)),jA 25 (qF 3 24),jA 26 (qF 0 25),ql 27 26,jA 28 (qS 27),qm 4 28]) .ret)))⟩
theorem c57:compFunc Tryz.prog GL [] Tryz.f57=some l57:=by kernel_rfl
def l58:LFunc:=⟨26,[(.tmp 4)],
 (
 .seq (
 .region [jA 4 (.mv (.c .nils))]) (
 .seq (
 .region [jA 5 (.mv (.c .nils))]) (
 .seq (.block 0 (.loop (
 .seq (
 .seq (
 .region [qm 6 1,jA 7 (.bin .geq (.t 6) (.c (.int .i64 0)))]) (.cond (.t 7) .skip (.exit 0))) (.block 1 (
 .seq (
 .region [qm 8 0,jA 9 (.nilchk (.t 8)),jA 10 (qF 7 9),ql 11 10,qm 12 1,jA 13 (qI 1 11 12),ql 14 13,jA 15 (.bslice 1 1 [(.int .i64 0)] [(0,(1,(.t 14)))]),qm 16 5,jA 17 (.append 1 8 (.t 15) (.t 16)),qm 5 17]) (
 .region [qm 18 0,jA 19 (.nilchk (.t 18)),jA 20 (qF 8 19),ql 21 20,qm 22 1,jA 23 (qI 1 21 22),ql 24 23,qm 1 24])))))) (
 .seq (
 .region [qm 25 5,qm 4 25]) .ret))))⟩
theorem c58:compFunc Tryz.prog GL [] Tryz.f58=some l58:=by kernel_rfl
def l59:LFunc:=⟨26,[(.tmp 4)],
 (
 .seq (
 .region [jA 4 (qK false)]) (
 .seq (
 .seq (
 .region [qm 6 0,jA 7 (qS 6),qm 8 1,jA 9 (qS 8),jA 10 (.bin .neq (.t 7) (.t 9))]) (.cond (.t 10) (
 .seq (
 .region [jA 4 (qK false)]) .ret) .skip)) (
 .seq (
 .seq (
 .region [jA 5 (qC 0)]) (.block 0 (.loop (
 .seq (
 .seq (
 .region [qm 11 5,qm 12 0,jA 13 (qS 12),jA 14 (qB 11 13)]) (.cond (.t 14) .skip (.exit 0))) (
 .seq (.block 1 (
 .seq (
 .region [jB 17 (qM 0),jB 18 (qM 5),jB 19 (qI 1 17 18),jB 20 (qL 19),jB 21 (qM 1),jB 22 (qM 5),jB 23 (qI 1 21 22),jB 24 (qL 23),jB 25 (.bin .neq (.t 20) (.t 24))]) (.cond (.t 25) (
 .seq (
 .region [jA 4 (qK false)]) .ret) .skip))) (
 .region [qm 15 5,jA 16 (qA 15 1),qm 5 16])))))) (
 .seq (
 .region [jA 4 (qK true)]) .ret))))⟩
theorem c59:compFunc Tryz.prog GL [] Tryz.f59=some l59:=by kernel_rfl
def l60:LFunc:=⟨10,[(.tmp 3)],
 (
 .seq (
 .region [jA 3 (qC 0)]) (
 .seq (
 .region [jA 4 (qF 0 1),ql 5 4,jA 6 (qF 1 1),ql 7 6,qm 8 0,jA 9 (.call (.c (.fn (.func 61) [] [])) [(.t 5),(.t 7),(.t 8)]),qm 3 9]) .ret))⟩
theorem c60:compFunc Tryz.prog GL [] Tryz.f60=some l60:=by kernel_rfl
def l61:LFunc:=⟨25,[(.tmp 6)],
 (
 .seq (
 .region [jA 6 (qC 0)]) (
 .seq (
 .seq (
 .region [qm 7 2,qm 8 0,jA 9 (qS 8),jA 10 (qB 7 9)]) (.cond (.t 10) (
 .seq (
 .region [qm 11 0,qm 12 2,jA 13 (qI 1 11 12),ql 14 13,qm 6 14]) .ret) .skip)) (
 .seq (
 .region [qm 15 1,qm 16 2,qm 17 0,jA 18 (qS 17),jA 19 (.bin .sub (.t 16) (.t 18)),qm 20 1,jA 21 (qS 20),jA 22 (.bin .rem (.t 19) (.t 21)),jA 23 (qI 1 15 22),ql 24 23,qm 6 24]) .ret)))⟩
theorem c61:compFunc Tryz.prog GL [] Tryz.f61=some l61:=by kernel_rfl
def l62:LFunc:=⟨9,[(.tmp 4)],
 (
 .seq (
 .region [jA 4 (qK false)]) (
 .seq (
 .region [qm 5 0,qm 6 1,jA 7 (.call (.c (.fn (.func 95) [] [])) [(.t 5),(.t 6)]),jA 8 (.bin .geq (.t 7) (.c (.int .i64 0))),qm 4 8]) .ret))⟩
theorem c62:compFunc Tryz.prog GL [] Tryz.f62=some l62:=by kernel_rfl
def l63:LFunc:=⟨12,[(.tmp 4)],
 (
 .seq (
 .region [jA 4 (qC 0)]) (
 .seq (.block 0 (.loop (
 .seq (
 .seq (
 .region [qm 5 1,jA 6 (.bin .gtr (.t 5) (.c (.int .i64 0)))]) (.cond (.t 6) .skip (.exit 0))) (.block 1 (
 .region [jB 7 (qM 1),jB 8 (qM 0),jB 9 (qM 1),jB 10 (.bin .rem (.t 8) (.t 9)),jB 0 (qM 7),jB 1 (qM 10)]))))) (
 .seq (
 .region [qm 11 0,qm 4 11]) .ret)))⟩
theorem c63:compFunc Tryz.prog GL [] Tryz.f63=some l63:=by kernel_rfl
def l64:LFunc:=⟨14,[(.tmp 5)],
 (
 .seq (
 .region [jA 5 (qK false)]) (
 .seq (
 .region [jB 6 (qL 1),jB 7 (qL 2),jB 8 (qL 3),jB 9 (qA 8 1),jB 11 (qM 0),⟨(some 10),(.call (.t 7) [(.t 9)]),none,[(6,(none,(.load none (.t 1))))],true⟩,jB 12 (.build [(.int .i64 0),(.bool false)] [(0,(1,(.t 10))),(1,(1,(.t 11)))]),jB 13 (.call (.c (.fn (.func 65) [] [])) [(.t 6),(.t 12)]),jB 5 (qM 13)]) .ret))⟩
theorem c64:compFunc Tryz.prog GL [] Tryz.f64=some l64:=by kernel_rfl
def l65:LFunc:=⟨9,[(.tmp 4)],
 (
 .seq (
 .region [jA 3 (qO 1),jA 4 (qK false)]) (
 .seq (
 .region [qm 5 0,jA 6 (qN 2 3),jA 7 (.call (.c (.fn (.func 96) [] [])) [(.t 5),(.t 6)]),jA 8 (.bin .geq (.t 7) (.c (.int .i64 0))),qm 4 8]) .ret))⟩
theorem c65:compFunc Tryz.prog GL [] Tryz.f65=some l65:=by kernel_rfl
def l66:LFunc:=⟨28,[(.tmp 4)],
 (
 .seq (
 .region [jA 2 (qO 0),jA 4 (qC 0)]) (
 .seq (
 .seq (
 .region [qm 5 1,jA 6 (qF 0 2),ql 7 6,jA 8 (qS 7),jA 9 (qB 5 8)]) (.cond (.t 9) (
 .seq (
 .region [jA 10 (qF 0 2),ql 11 10,qm 12 1,jA 13 (qI 1 11 12),ql 14 13,qm 4 14]) .ret) .skip)) (
 .seq (
 .region [jB 15 (qF 1 2),jB 16 (qL 15),jB 17 (qM 1),jB 18 (qF 0 2),jB 19 (qL 18),jB 20 (qS 19),jB 21 (.bin .sub (.t 17) (.t 20)),jB 22 (qF 1 2),jB 23 (qL 22),jB 24 (qS 23),jB 25 (.bin .rem (.t 21) (.t 24)),jB 26 (qI 1 16 25),jB 27 (qL 26),jB 4 (qM 27)]) .ret)))⟩
theorem c66:compFunc Tryz.prog GL [] Tryz.f66=some l66:=by kernel_rfl
def l67:LFunc:=⟨15,[(.tmp 4)],
 (
 .seq (
 .region [jA 2 (qO 0),jA 4 (qC 0)]) (
 .seq (
 .seq (
 .region [qm 5 1,jA 6 (.bin .lss (.t 5) (.c (.int .i64 0))),qm 7 6,jC 8 (qN 2 2) 7,jC 9 (qG 91 8) 7,jC 10 (.un .not (.t 9)) 7,jA 11 (qP 7 10)]) (.cond (.t 11) (
 .seq (
 .region [jA 4 (.mv (.c (.int .i64 (-1))))]) .ret) .skip)) (
 .seq (
 .region [jA 12 (qN 2 2),qm 13 1,jA 14 (.call (.c (.fn (.func 97) [] [])) [(.t 12),(.t 13)]),qm 4 14]) .ret)))⟩
theorem c67:compFunc Tryz.prog GL [] Tryz.f67=some l67:=by kernel_rfl
def l77:LFunc:=⟨20,[(.tmp 4)],
 (
 .seq (
 .region [jA 4 (qC 0)]) (
 .seq (
 .region [qm 7 0,jA 8 (qG 116 7),qm 5 8]) (
 .seq (
 .region [qm 9 1,jA 10 (qG 116 9),qm 6 10]) (
 .seq (
 .seq (
 .region [qm 11 5]) (.cond (.t 11) (
 .seq (
 .seq (
 .region [qm 12 6]) (.cond (.t 12) (
 .seq (
 .region [jA 4 (qC 0)]) .ret) .skip)) (
 .seq (
 .region [jA 4 (.mv (.c (.int .i64 (-1))))]) .ret)) .skip)) (
 .seq (
 .seq (
 .region [qm 13 6]) (.cond (.t 13) (
 .seq (
 .region [jA 4 (qC 1)]) .ret) .skip)) (
 .seq (
 .seq (
 .region [qm 14 0,qm 15 1,jA 16 (qB 14 15)]) (.cond (.t 16) (
 .seq (
 .region [jA 4 (.mv (.c (.int .i64 (-1))))]) .ret) .skip)) (
 .seq (
 .seq (
 .region [qm 17 0,qm 18 1,jA 19 (.bin .gtr (.t 17) (.t 18))]) (.cond (.t 19) (
 .seq (
 .region [jA 4 (qC 1)]) .ret) .skip)) (
 .seq (
 .region [jA 4 (qC 0)]) .ret))))))))⟩
theorem c77:compFunc Tryz.prog GL [] Tryz.f77=some l77:=by kernel_rfl
def l82:LFunc:=⟨27,[(.tmp 2)],
 (
 .seq (
 .region [jA 1 (qO 0),jA 2 (qK false)]) (
 .seq (
 .seq (
 .region [jA 3 (qF 0 1),ql 4 3,jA 5 (qS 4),jA 6 (.bin .gtr (.t 5) (.c (.int .i64 60))),qm 7 6,jC 8 (qF 1 1) 7,jC 9 (qL 8) 7,jC 10 (qS 9) 7,jC 11 (.bin .lss (.t 10) (.c (.int .i64 1))) 7,jA 12 (qP 7 11),qm 13 12,jC 14 (qF 1 1) 13,jC 15 (qL 14) 13,jC 16 (qS 15) 13,jC 17 (.bin .gtr (.t 16) (.c (.int .i64 40))) 13,jA 18 (qP 13 17)]) (.cond (.t 18) (
 .seq (
 .region [jA 2 (qK false)]) .ret) .skip)) (
 .seq (
 .region [jA 19 (qF 0 1),ql 20 19,jA 21 (.call (.c (.fn (.func 83) [] [])) [(.t 20),(.c (.int .i64 64))]),qm 22 21,jD 23 (qF 1 1) 22,jD 24 (qL 23) 22,jD 25 (.call (.c (.fn (.func 83) [] [])) [(.t 24),(.c (.int .i64 64))]) 22,jA 26 (.pick (.t 22) (.t 25) (.c (.bool false))),qm 2 26]) .ret)))⟩
theorem c82:compFunc Tryz.prog GL [] Tryz.f82=some l82:=by kernel_rfl
def l83:LFunc:=⟨21,[(.tmp 4)],
 (
 .seq (
 .region [jA 4 (qK false)]) (
 .seq (
 .seq (
 .region [qm 7 0,jA 8 (qS 7),jA 9 (qC 0)]) (.block 0 (.loop (
 .seq (
 .region [jA 10 (qB 9 8)]) (
 .seq (.cond (.t 10) .skip (.exit 0)) (
 .seq (.block 1 (
 .seq (
 .region [jA 11 (qI 1 7 9),ql 12 11,qm 6 12]) (
 .seq (
 .region [qm 13 6,jA 14 (.bin .lss (.t 13) (.c (.int .i64 0))),qm 15 14,jC 16 (qM 6) 15,jC 17 (qM 1) 15,jC 18 (.bin .geq (.t 16) (.t 17)) 15,jA 19 (qP 15 18)]) (.cond (.t 19) (
 .seq (
 .region [jA 4 (qK false)]) .ret) .skip)))) (
 .region [jA 20 (qA 9 1),qm 9 20]))))))) (
 .seq (
 .region [jA 4 (qK true)]) .ret)))⟩
theorem c83:compFunc Tryz.prog GL [] Tryz.f83=some l83:=by kernel_rfl
def l84:LFunc:=⟨9,[(.cell 2 (some 2))],
 (
 .seq (
 .region [jA 1 (qO 0),jA 2 (.alloc [.nils, .nils])]) (
 .seq (
 .seq (
 .region [jA 3 (qN 2 1),jA 4 (qG 82 3),jA 5 (.un .not (.t 4))]) (.cond (.t 5) (
 .seq (
 .region [jA 6 (.build [.nils, .nils] []),jG 2 2 6]) .ret) .skip)) (
 .seq (
 .region [jA 7 (qN 2 1),jA 8 (qG 120 7),jG 2 2 8]) .ret)))⟩
theorem c84:compFunc Tryz.prog GL [] Tryz.f84=some l84:=by kernel_rfl
def l85:LFunc:=⟨36,[(.tmp 2)],
 (
 .seq (
 .region [jA 2 (.mv (.c .nils))]) (
 .seq (
 .region [jA 3 (qC 0)]) (
 .seq (
 .seq (
 .region [qm 9 0,jA 10 (qS 9),jA 11 (qC 0)]) (.block 0 (.loop (
 .seq (
 .region [jA 12 (qB 11 10)]) (
 .seq (.cond (.t 12) .skip (.exit 0)) (
 .seq (.block 1 (
 .seq (
 .region [jA 13 (qI 1 9 11),ql 14 13,qm 5 14]) (
 .seq (
 .region [qm 15 3,qm 16 5,jA 17 (qS 16),jA 18 (.bin .add (.t 15) (.t 17)),qm 3 18]) (
 .seq (
 .region [qm 19 3,jA 20 (.bin .lss (.t 19) (.c (.int .i64 0)))]) (.cond (.t 20) .bad .skip))))) (
 .region [jA 22 (qA 11 1),qm 11 22]))))))) (
 .seq (
 .region [qm 23 3,jA 24 (.call (.c (.fn (.func 121) [] [])) [(.c .nils),(.t 23)]),qm 6 24]) (
 .seq (
 .seq (
 .region [qm 25 0,jA 26 (qS 25),jA 27 (qC 0)]) (.block 2 (.loop (
 .seq (
 .region [jA 28 (qB 27 26)]) (
 .seq (.cond (.t 28) .skip (.exit 2)) (
 .seq (.block 3 (
 .seq (
 .region [jA 29 (qI 1 25 27),ql 30 29,qm 8 30]) (
 .region [qm 31 6,qm 32 8,jA 33 (.append 1 8 (.t 31) (.t 32)),qm 6 33]))) (
 .region [jA 34 (qA 27 1),qm 27 34]))))))) (
 .seq (
 .region [qm 35 6,qm 2 35]) .ret))))))⟩
theorem c85:compFunc Tryz.prog GL [] Tryz.f85=some l85:=by kernel_rfl
def l86:LFunc:=⟨34,[],
 (
 .seq (
 .region [jA 3 (qO 0)]) (
 .seq (
 .region [jA 8 (qF 0 2),ql 9 8,jA 10 (qN 2 3),jA 11 (.mlook (.st [(0,(1, .int)),(1,(1, .int))]) (.int .i64 0) true (.t 9) (.t 10)),qm 7 11,jA 12 (.ext (.t 7) 0),jA 13 (.ext (.t 7) 1),qm 5 12,qm 6 13]) (
 .seq (
 .region [qm 14 6,jA 15 (.un .not (.t 14))]) (.cond (.t 15) (
 .seq (
 .region [jA 16 (qF 0 2),ql 17 16,jA 18 (qN 2 3),jA 19 (qF 1 2),ql 20 19,jA 21 (qS 20),⟨none,(.mupd (.st [(0,(1, .int)),(1,(1, .int))]) (.t 17) (.t 18) (.t 21)),none,[],false⟩]) (
 .seq (
 .region [jA 22 (qF 1 2),ql 23 22,jA 24 (qN 2 3),jA 25 (.bslice 2 1 [(.int .i64 0),(.int .i64 0)] [(0,(2,(.t 24)))]),jA 26 (.append 2 16 (.t 23) (.t 25)),jA 27 (qF 1 2),jG 1 27 26]) (
 .region [jA 28 (qF 2 2),ql 29 28,qm 30 1,jA 31 (.bslice 1 1 [(.int .i64 0)] [(0,(1,(.t 30)))]),jA 32 (.append 1 8 (.t 29) (.t 31)),jA 33 (qF 2 2),jG 1 33 32]))) .skip))))⟩
theorem c86:compFunc Tryz.prog GL [] Tryz.f86=some l86:=by kernel_rfl
def l87:LFunc:=⟨20,[(.tmp 4)],
 (
 .seq (
 .region [jA 2 (qO 0),jA 3 (qO 1),jA 4 (.mv (.c .nils))]) (
 .seq (
 .region [jB 5 (qF 0 2),jB 6 (qF 2 5),jB 7 (qL 6),jB 8 (qF 1 3),jB 9 (qL 8),jB 10 (qI 1 7 9),jB 11 (qL 10),jB 12 (qF 3 2),jB 13 (qL 12),jB 14 (qF 0 3),jB 15 (qL 14),jB 16 (qI 1 13 15),jB 17 (qL 16),jB 18 (qI 1 11 17),jB 19 (qL 18),jB 4 (qM 19)]) .ret))⟩
theorem c87:compFunc Tryz.prog GL [] Tryz.f87=some l87:=by kernel_rfl
def l88:LFunc:=⟨22,[(.cell 6 (some 2))],
 (
 .seq (
 .region [jA 3 (qO 0),jA 4 (qO 1),jA 5 (qO 2),jA 6 (.alloc [(.int .i64 0),(.int .i64 0)])]) (
 .seq (
 .region [jA 8 (qF 0 4),ql 9 8,jA 10 (qA 9 1),qm 7 10]) (
 .seq (
 .seq (
 .region [qm 11 7,jA 12 (qF 3 3),ql 13 12,jA 14 (qS 13),jA 15 (.bin .eql (.t 11) (.t 14))]) (.cond (.t 15) (
 .region [jA 16 (qF 4 3),ql 17 16,qm 7 17]) .skip)) (
 .seq (
 .region [qm 18 7,jA 19 (qF 0 5),ql 20 19,jA 21 (.build [(.int .i64 0),(.int .i64 0)] [(0,(1,(.t 18))),(1,(1,(.t 20)))]),jG 2 6 21]) .ret))))⟩
theorem c88:compFunc Tryz.prog GL [] Tryz.f88=some l88:=by kernel_rfl
def l89:LFunc:=⟨157,[(.tmp 2)],
 (
 .seq (
 .region [jA 2 (.mv (.c .nils))]) (
 .seq (
 .region [qm 14 0,jA 15 (qS 14),jA 16 (.mkslice 1 8 [(.int .i64 0)] (.t 15) (.t 15)),qm 3 16]) (
 .seq (
 .region [qm 17 0,jA 18 (qS 17),jA 19 (.mkslice 1 8 [(.int .i64 0)] (.t 18) (.t 18)),qm 4 19]) (
 .seq (
 .region [qm 20 0,jA 21 (qS 20),jA 22 (.mkslice 1 8 [(.int .i64 0)] (.t 21) (.t 21)),qm 5 22]) (
 .seq (
 .region [qm 23 0,jA 24 (qS 23),jA 25 (.mkslice 1 8 [(.int .i64 0)] (.t 24) (.t 24)),qm 6 25]) (
 .seq (
 .region [jA 7 (.mv (.c .nils)),jA 8 (.mv (.c .nils))]) (
 .seq (
 .region [jA 9 (qC 0)]) (
 .seq (
 .seq (
 .region [qm 26 0,jA 27 (qS 26),jA 28 (qC 0)]) (.block 0 (.loop (
 .seq (
 .region [jA 29 (qB 28 27)]) (
 .seq (.cond (.t 29) .skip (.exit 0)) (
 .seq (.block 1 (
 .seq (
 .region [qm 30 28,qm 10 30]) (.scope (
 .seq (
 .seq (
 .region [qm 31 4,qm 32 10,jA 33 (qI 1 31 32),ql 34 33,jA 35 (.bin .eql (.t 34) (.c (.int .i64 0)))]) (.cond (.t 35) (
 .region [qm 36 8,qm 37 10,jA 38 (.bslice 1 1 [(.int .i64 0)] [(0,(1,(.t 37)))]),jA 39 (.append 1 8 (.t 36) (.t 38)),qm 8 39]) .skip)) (
 .seq .skip (.block 2 (.loop (
 .seq (
 .seq (
 .region [qm 40 8,jA 41 (qS 40),jA 42 (.bin .gtr (.t 41) (.c (.int .i64 0)))]) (.cond (.t 42) .skip (.exit 2))) (.block 3 (
 .seq (
 .region [qm 43 8,qm 44 8,jA 45 (qS 44),jA 46 (.bin .sub (.t 45) (.c (.int .i64 1))),jA 47 (qI 1 43 46),ql 48 47,qm 11 48]) (
 .seq (
 .seq (
 .region [qm 49 4,qm 50 11,jA 51 (qI 1 49 50),ql 52 51,jA 53 (.bin .eql (.t 52) (.c (.int .i64 0)))]) (.cond (.t 53) (
 .seq (
 .region [qm 54 9,jA 55 (qA 54 1),qm 9 55]) (
 .seq (
 .region [qm 56 4,qm 57 11,qm 58 5,qm 59 11,qm 60 9,qm 61 9,jA 62 (qI 1 56 57),jG 1 62 60,jA 63 (qI 1 58 59),jG 1 63 61]) (
 .region [qm 64 7,qm 65 11,jA 66 (.bslice 1 1 [(.int .i64 0)] [(0,(1,(.t 65)))]),jA 67 (.append 1 8 (.t 64) (.t 66)),qm 7 67]))) .skip)) (
 .seq (.block 4 (.loop (
 .seq (
 .seq (
 .region [jB 68 (qM 6),jB 69 (qM 11),jB 70 (qI 1 68 69),jB 71 (qL 70),jB 72 (qM 0),jB 73 (qM 11),jB 74 (qI 1 72 73),jB 75 (qL 74),jB 76 (qS 75),jB 77 (qB 71 76)]) (.cond (.t 77) .skip (.exit 4))) (.block 5 (
 .seq (
 .region [jB 78 (qM 0),jB 79 (qM 11),jB 80 (qI 1 78 79),jB 81 (qL 80),jB 82 (qM 6),jB 83 (qM 11),jB 84 (qI 1 82 83),jB 85 (qL 84),jB 86 (qI 1 81 85),jB 87 (qL 86),jB 12 (qM 87)]) (
 .seq (
 .seq (
 .region [qm 88 4,qm 89 12,jA 90 (qI 1 88 89),ql 91 90,jA 92 (.bin .eql (.t 91) (.c (.int .i64 0)))]) (.cond (.t 92) (
 .seq (
 .region [qm 93 8,qm 94 12,jA 95 (.bslice 1 1 [(.int .i64 0)] [(0,(1,(.t 94)))]),jA 96 (.append 1 8 (.t 93) (.t 95)),qm 8 96]) (.exit 3)) .skip)) (
 .seq (
 .seq (
 .region [qm 97 3,qm 98 12,jA 99 (qI 1 97 98),ql 100 99,jA 101 (.bin .eql (.t 100) (.c (.int .i64 0)))]) (.cond (.t 101) (
 .region [jB 102 (qM 5),jB 103 (qM 11),jB 104 (qM 5),jB 105 (qM 11),jB 106 (qI 1 104 105),jB 107 (qL 106),jB 108 (qM 5),jB 109 (qM 12),jB 110 (qI 1 108 109),jB 111 (qL 110),jB 112 (.minmax false [(.t 107),(.t 111)]),jB 113 (qI 1 102 103),jH 1 113 112]) .skip)) (
 .region [qm 114 6,qm 115 11,jA 116 (qI 1 114 115),ql 117 116,jA 118 (qA 117 1),jA 119 (qI 1 114 115),jG 1 119 118])))))))) (
 .seq (
 .region [qm 120 8,qm 121 8,jA 122 (qS 121),jA 123 (.bin .sub (.t 122) (.c (.int .i64 1))),jA 124 (.slice 1 (.t 120) none (some (.t 123))),qm 8 124]) (
 .seq (
 .seq (
 .region [jB 125 (qM 5),jB 126 (qM 11),jB 127 (qI 1 125 126),jB 128 (qL 127),jB 129 (qM 4),jB 130 (qM 11),jB 131 (qI 1 129 130),jB 132 (qL 131),jB 133 (qB 128 132)]) (.cond (.t 133) (.exit 3) .skip)) (
 .seq (
 .region [jA 13 (.mv (.c (.int .i64 (-1))))]) (.block 6 (.loop (
 .seq (
 .seq (
 .region [qm 134 13,qm 135 11,jA 136 (.bin .neq (.t 134) (.t 135))]) (.cond (.t 136) .skip (.exit 6))) (.block 7 (
 .seq (
 .region [qm 137 7,qm 138 7,jA 139 (qS 138),jA 140 (.bin .sub (.t 139) (.c (.int .i64 1))),jA 141 (qI 1 137 140),ql 142 141,qm 13 142]) (
 .seq (
 .region [qm 143 7,qm 144 7,jA 145 (qS 144),jA 146 (.bin .sub (.t 145) (.c (.int .i64 1))),jA 147 (.slice 1 (.t 143) none (some (.t 146))),qm 7 147]) (
 .region [qm 148 3,qm 149 13,qm 150 4,qm 151 11,jA 152 (qI 1 150 151),ql 153 152,jA 154 (qI 1 148 149),jG 1 154 153])))))))))))))))))))))) (
 .region [jA 155 (qA 28 1),qm 28 155]))))))) (
 .seq (
 .region [qm 156 3,qm 2 156]) .ret)))))))))⟩
theorem c89:compFunc Tryz.prog GL [] Tryz.f89=some l89:=by kernel_rfl
def l90:LFunc:=⟨37,[(.tmp 4)],
 (
 .seq (
 .region [jA 3 (qO 1),jA 4 (qK false)]) (
 .seq (
 .seq (
 .region [jA 5 (qC 0)]) (.block 0 (.loop (
 .seq (
 .seq (
 .region [qm 7 5,jA 8 (qF 0 3),ql 9 8,jA 10 (qS 9),jA 11 (qB 7 10)]) (.cond (.t 11) .skip (.exit 0))) (
 .seq (.block 1 (
 .seq (
 .region [jA 14 (qF 0 3),ql 15 14,qm 16 5,jA 17 (qI 1 15 16),ql 18 17,qm 19 0,jA 20 (.bin .geq (.t 18) (.t 19))]) (.cond (.t 20) (
 .seq (
 .region [jA 4 (qK false)]) .ret) .skip))) (
 .region [qm 12 5,jA 13 (qA 12 1),qm 5 13])))))) (
 .seq (
 .seq (
 .region [jA 6 (qC 0)]) (.block 2 (.loop (
 .seq (
 .seq (
 .region [qm 21 6,jA 22 (qF 1 3),ql 23 22,jA 24 (qS 23),jA 25 (qB 21 24)]) (.cond (.t 25) .skip (.exit 2))) (
 .seq (.block 3 (
 .seq (
 .region [jA 28 (qF 1 3),ql 29 28,qm 30 6,jA 31 (qI 1 29 30),ql 32 31,qm 33 0,jA 34 (.bin .geq (.t 32) (.t 33))]) (.cond (.t 34) (
 .seq (
 .region [jA 4 (qK false)]) .ret) .skip))) (
 .region [qm 26 6,jA 27 (qA 26 1),qm 6 27])))))) (
 .seq (
 .region [jA 35 (qN 2 3),jA 36 (qG 91 35),qm 4 36]) .ret))))⟩
theorem c90:compFunc Tryz.prog GL [] Tryz.f90=some l90:=by kernel_rfl
def l91:LFunc:=⟨53,[(.tmp 2)],
 (
 .seq (
 .region [jA 1 (qO 0),jA 2 (qK false)]) (
 .seq (
 .seq (
 .region [jA 7 (qF 0 1),ql 8 7,jA 9 (qS 8),jA 10 (.bin .gtr (.t 9) (.c (.int .i64 60))),qm 11 10,jC 12 (qF 1 1) 11,jC 13 (qL 12) 11,jC 14 (qS 13) 11,jC 15 (.bin .lss (.t 14) (.c (.int .i64 1))) 11,jA 16 (qP 11 15),qm 17 16,jC 18 (qF 1 1) 17,jC 19 (qL 18) 17,jC 20 (qS 19) 17,jC 21 (.bin .gtr (.t 20) (.c (.int .i64 40))) 17,jA 22 (qP 17 21)]) (.cond (.t 22) (
 .seq (
 .region [jA 2 (qK false)]) .ret) .skip)) (
 .seq (
 .seq (
 .region [jA 3 (qC 0)]) (.block 0 (.loop (
 .seq (
 .seq (
 .region [qm 23 3,jA 24 (qF 0 1),ql 25 24,jA 26 (qS 25),jA 27 (qB 23 26)]) (.cond (.t 27) .skip (.exit 0))) (
 .seq (.block 1 (
 .seq (
 .region [jA 30 (qF 0 1),ql 31 30,qm 32 3,jA 33 (qI 1 31 32),ql 34 33,jA 35 (qG 122 34),qm 4 35]) (
 .seq (
 .region [qm 36 4,jA 37 (.un .not (.t 36))]) (.cond (.t 37) (
 .seq (
 .region [jA 2 (qK false)]) .ret) .skip)))) (
 .region [qm 28 3,jA 29 (qA 28 1),qm 3 29])))))) (
 .seq (
 .seq (
 .region [jA 5 (qC 0)]) (.block 2 (.loop (
 .seq (
 .seq (
 .region [qm 38 5,jA 39 (qF 1 1),ql 40 39,jA 41 (qS 40),jA 42 (qB 38 41)]) (.cond (.t 42) .skip (.exit 2))) (
 .seq (.block 3 (
 .seq (
 .region [jA 45 (qF 1 1),ql 46 45,qm 47 5,jA 48 (qI 1 46 47),ql 49 48,jA 50 (qG 122 49),qm 6 50]) (
 .seq (
 .region [qm 51 6,jA 52 (.un .not (.t 51))]) (.cond (.t 52) (
 .seq (
 .region [jA 2 (qK false)]) .ret) .skip)))) (
 .region [qm 43 5,jA 44 (qA 43 1),qm 5 44])))))) (
 .seq (
 .region [jA 2 (qK true)]) .ret)))))⟩
theorem c91:compFunc Tryz.prog GL [] Tryz.f91=some l91:=by kernel_rfl
def l92:LFunc:=⟨59,[(.cell 2 (some 2))],
 (
 .seq (
 .region [jA 1 (qO 0),jA 2 (.alloc [.nils, .nils])]) (
 .seq (
 .region [jA 3 (qC 1)]) (
 .seq (.block 0 (.loop (
 .seq (
 .seq (
 .region [jA 6 (qF 1 1),ql 7 6,qm 8 3,jA 9 (.call (.c (.fn (.func 123) [] [])) [(.t 7),(.t 8)]),jA 10 (.un .not (.t 9))]) (.cond (.t 10) .skip (.exit 0))) (.block 1 (
 .region [qm 11 3,jA 12 (qA 11 1),qm 3 12]))))) (
 .seq (
 .region [jA 13 (.bslice 1 0 [(.int .i64 0)] []),jA 14 (qF 1 1),ql 15 14,qm 16 3,jA 17 (.slice 1 (.t 15) none (some (.t 16))),jA 18 (.append 1 8 (.t 13) (.t 17)),qm 4 18]) (
 .seq (
 .region [jA 19 (.bslice 1 0 [(.int .i64 0)] []),jA 20 (qF 0 1),ql 21 20,jA 22 (.append 1 8 (.t 19) (.t 21)),qm 5 22]) (
 .seq (.block 2 (.loop (
 .seq (
 .seq (
 .region [jB 23 (qM 5),jB 24 (qS 23),jB 25 (.bin .gtr (.t 24) (.c (.int .i64 0))),jB 26 (qM 25),jE 27 (qM 5) 26,jE 28 (qM 5) 26,jE 29 (qS 28) 26,jE 30 (.bin .sub (.t 29) (.c (.int .i64 1))) 26,jE 31 (qI 1 27 30) 26,jE 32 (qL 31) 26,jE 33 (qM 4) 26,jE 34 (qM 3) 26,jE 35 (.bin .sub (.t 34) (.c (.int .i64 1))) 26,jE 36 (qI 1 33 35) 26,jE 37 (qL 36) 26,jE 38 (.bin .eql (.t 32) (.t 37)) 26,jB 39 (.pick (.t 26) (.t 38) (.c (.bool false)))]) (.cond (.t 39) .skip (.exit 2))) (.block 3 (
 .seq (
 .region [qm 40 5,qm 41 5,jA 42 (qS 41),jA 43 (.bin .sub (.t 42) (.c (.int .i64 1))),jA 44 (.slice 1 (.t 40) none (some (.t 43))),qm 5 44]) (
 .region [jB 45 (qM 4),jB 46 (qM 3),jB 47 (.bin .sub (.t 46) (.c (.int .i64 1))),jB 48 (qI 1 45 47),jB 49 (qL 48),⟨(some 50),(.bslice 1 1 [(.int .i64 0)] [(0,(1,(.t 49)))]),none,[(49,(none,(.load none (.t 48))))],true⟩,jB 51 (qM 4),jB 52 (qM 3),jB 53 (.bin .sub (.t 52) (.c (.int .i64 1))),jB 54 (.slice 1 (.t 51) none (some (.t 53))),jB 55 (.append 1 8 (.t 50) (.t 54)),jB 4 (qM 55)])))))) (
 .seq (
 .region [qm 56 5,qm 57 4,jA 58 (.build [.nils, .nils] [(0,(1,(.t 56))),(1,(1,(.t 57)))]),jG 2 2 58]) .ret)))))))⟩
theorem c92:compFunc Tryz.prog GL [] Tryz.f92=some l92:=by kernel_rfl
def l93:LFunc:=⟨63,[],
 (
 .seq (
 .seq (
 .region [qm 8 0,jA 9 (.nilchk (.t 8)),jA 10 (qF 5 9),ql 11 10,qm 12 1,jA 13 (qI 1 11 12),ql 14 13,qm 15 2,jA 16 (qI 1 14 15),ql 17 16,jA 18 (.bin .geq (.t 17) (.c (.int .i64 0)))]) (.cond (.t 18) .ret .skip)) (
 .seq (
 .region [jB 19 (qM 0),jB 20 (.nilchk (.t 19)),jB 21 (qF 5 20),jB 22 (qL 21),jB 23 (qM 1),jB 24 (qI 1 22 23),jB 25 (qL 24),jB 26 (qM 2),jB 27 (qM 0),jB 28 (.nilchk (.t 27)),jB 29 (qF 6 28),jB 30 (qL 29),jB 31 (qS 30),jB 32 (qI 1 25 26),jH 1 32 31]) (
 .seq (
 .region [qm 33 0,qm 34 0,jA 35 (.nilchk (.t 34)),jA 36 (qF 6 35),ql 37 36,qm 38 1,jA 39 (.bslice 1 1 [(.int .i64 0)] [(0,(1,(.t 38)))]),jA 40 (.append 1 8 (.t 37) (.t 39)),jA 41 (.nilchk (.t 33)),jA 42 (qF 6 41),jG 1 42 40]) (
 .seq (
 .region [qm 43 0,qm 44 0,jA 45 (.nilchk (.t 44)),jA 46 (qF 7 45),ql 47 46,qm 48 2,jA 49 (.bslice 1 1 [(.int .i64 0)] [(0,(1,(.t 48)))]),jA 50 (.append 1 8 (.t 47) (.t 49)),jA 51 (.nilchk (.t 43)),jA 52 (qF 7 51),jG 1 52 50]) (
 .region [qm 53 0,qm 54 0,jA 55 (.nilchk (.t 54)),jA 56 (qF 8 55),ql 57 56,qm 58 3,jA 59 (.bslice 1 1 [(.int .i64 0)] [(0,(1,(.t 58)))]),jA 60 (.append 1 8 (.t 57) (.t 59)),jA 61 (.nilchk (.t 53)),jA 62 (qF 8 61),jG 1 62 60])))))⟩
theorem c93:compFunc Tryz.prog GL [] Tryz.f93=some l93:=by kernel_rfl
def l94:LFunc:=⟨62,[],
 (
 .seq (
 .region [jA 2 (qC 0)]) (.block 0 (.loop (
 .seq (
 .seq (
 .region [qm 5 2,qm 6 0,jA 7 (.nilchk (.t 6)),jA 8 (qF 6 7),ql 9 8,jA 10 (qS 9),jA 11 (qB 5 10)]) (.cond (.t 11) .skip (.exit 0))) (
 .seq (.block 1 (
 .seq (
 .region [jB 14 (qM 0),jB 15 (.nilchk (.t 14)),jB 16 (qF 0 15),jB 17 (qF 2 16),jB 18 (qL 17),jB 19 (qM 0),jB 20 (.nilchk (.t 19)),jB 21 (qF 7 20),jB 22 (qL 21),jB 23 (qM 2),jB 24 (qI 1 22 23),jB 25 (qL 24),jB 26 (qI 1 18 25),jB 27 (qL 26),jB 28 (qM 0),jB 29 (qM 0),jB 30 (.nilchk (.t 29)),jB 31 (qF 6 30),jB 32 (qL 31),jB 33 (qM 2),jB 34 (qI 1 32 33),jB 35 (qL 34),⟨(some 36),(.call (.c (.fn (.func 56) [] [])) [(.t 28),(.t 35)]),none,[(18,(none,(.load none (.t 17)))),(22,(none,(.load none (.t 21)))),(25,(none,(.load none (.t 24)))),(27,(none,(.load none (.t 26))))],true⟩,jB 37 (qI 1 27 36),jB 38 (qL 37),jB 3 (qM 38)]) (
 .seq (
 .region [jA 4 (qC 0)]) (.block 2 (.loop (
 .seq (
 .seq (
 .region [qm 39 4,qm 40 3,jA 41 (qS 40),jA 42 (qB 39 41)]) (.cond (.t 42) .skip (.exit 2))) (
 .seq (.block 3 (
 .region [jB 45 (qM 0),jB 46 (qM 0),jB 47 (qM 0),jB 48 (.nilchk (.t 47)),jB 49 (qF 6 48),jB 50 (qL 49),jB 51 (qM 2),jB 52 (qI 1 50 51),jB 53 (qL 52),jB 55 (qM 3),jB 56 (qM 4),jB 57 (qI 2 55 56),jB 58 (qF 0 57),jB 59 (qL 58),jB 60 (qM 2),⟨(some 54),(.call (.c (.fn (.func 57) [] [])) [(.t 46),(.t 53)]),none,[(59,(none,(.load none (.t 58))))],true⟩,jB 61 (.call (.c (.fn (.func 93) [] [])) [(.t 45),(.t 54),(.t 59),(.t 60)])])) (
 .region [qm 43 4,jA 44 (qA 43 1),qm 4 44])))))))) (
 .region [qm 12 2,jA 13 (qA 12 1),qm 2 13]))))))⟩
theorem c94:compFunc Tryz.prog GL [] Tryz.f94=some l94:=by kernel_rfl
def l95:LFunc:=⟨19,[(.tmp 4)],
 (
 .seq (
 .region [jA 4 (qC 0)]) (
 .seq (
 .seq (
 .region [qm 6 0,jA 7 (qS 6),jA 8 (qC 0)]) (.block 0 (.loop (
 .seq (
 .region [jA 9 (qB 8 7)]) (
 .seq (.cond (.t 9) .skip (.exit 0)) (
 .seq (.block 1 (
 .seq (
 .region [qm 10 8,qm 5 10]) (
 .seq (
 .region [qm 11 1,qm 12 0,qm 13 5,jA 14 (qI 1 12 13),ql 15 14,jA 16 (.bin .eql (.t 11) (.t 15))]) (.cond (.t 16) (
 .seq (
 .region [qm 17 5,qm 4 17]) .ret) .skip)))) (
 .region [jA 18 (qA 8 1),qm 8 18]))))))) (
 .seq (
 .region [jA 4 (.mv (.c (.int .i64 (-1))))]) .ret)))⟩
theorem c95:compFunc Tryz.prog GL [] Tryz.f95=some l95:=by kernel_rfl
def l96:LFunc:=⟨19,[(.tmp 4)],
 (
 .seq (
 .region [jA 3 (qO 1),jA 4 (qC 0)]) (
 .seq (
 .seq (
 .region [qm 6 0,jA 7 (qS 6),jA 8 (qC 0)]) (.block 0 (.loop (
 .seq (
 .region [jA 9 (qB 8 7)]) (
 .seq (.cond (.t 9) .skip (.exit 0)) (
 .seq (.block 1 (
 .seq (
 .region [qm 10 8,qm 5 10]) (
 .seq (
 .region [jB 11 (qN 2 3),jB 12 (qM 0),jB 13 (qM 5),jB 14 (qI 2 12 13),jB 15 (qN 2 14),jB 16 (.eq false (.struct [(0,(1, .int)),(1,(1, .bool))]) (.t 11) (.t 15))]) (.cond (.t 16) (
 .seq (
 .region [qm 17 5,qm 4 17]) .ret) .skip)))) (
 .region [jA 18 (qA 8 1),qm 8 18]))))))) (
 .seq (
 .region [jA 4 (.mv (.c (.int .i64 (-1))))]) .ret)))⟩
theorem c96:compFunc Tryz.prog GL [] Tryz.f96=some l96:=by kernel_rfl
def l97:LFunc:=⟨28,[(.tmp 4)],
 (
 .seq (
 .region [jA 2 (qO 0),jA 4 (qC 0)]) (
 .seq (
 .seq (
 .region [qm 5 1,jA 6 (qF 0 2),ql 7 6,jA 8 (qS 7),jA 9 (qB 5 8)]) (.cond (.t 9) (
 .seq (
 .region [jA 10 (qF 0 2),ql 11 10,qm 12 1,jA 13 (qI 1 11 12),ql 14 13,qm 4 14]) .ret) .skip)) (
 .seq (
 .region [jB 15 (qF 1 2),jB 16 (qL 15),jB 17 (qM 1),jB 18 (qF 0 2),jB 19 (qL 18),jB 20 (qS 19),jB 21 (.bin .sub (.t 17) (.t 20)),jB 22 (qF 1 2),jB 23 (qL 22),jB 24 (qS 23),jB 25 (.bin .rem (.t 21) (.t 24)),jB 26 (qI 1 16 25),jB 27 (qL 26),jB 4 (qM 27)]) .ret)))⟩
theorem c97:compFunc Tryz.prog GL [] Tryz.f97=some l97:=by kernel_rfl
def l116:LFunc:=⟨6,[(.tmp 2)],
 (
 .seq (
 .region [jA 2 (qK false)]) (
 .seq (
 .region [qm 3 0,qm 4 0,jA 5 (.bin .neq (.t 3) (.t 4)),qm 2 5]) .ret))⟩
theorem c116:compFunc Tryz.prog GL [] Tryz.f116=some l116:=by kernel_rfl
def l120:LFunc:=⟨55,[(.cell 2 (some 2))],
 (
 .seq (
 .region [jA 1 (qO 0),jA 2 (.alloc [.nils, .nils])]) (
 .seq (
 .region [jB 7 (qF 1 1),jB 8 (qL 7),jB 9 (qF 1 1),jB 10 (qL 9),⟨(some 11),(.call (.c (.fn (.func 162) [] [])) [(.t 10)]),none,[(8,(none,(.load none (.t 7))))],true⟩,jB 12 (.slice 1 (.t 8) none (some (.t 11))),jB 3 (qM 12)]) (
 .seq (
 .region [qm 13 3,jA 14 (qS 13),qm 4 14]) (
 .seq (
 .region [jA 15 (qF 0 1),ql 16 15,jA 17 (qS 16),qm 5 17,jA 6 (qC 0)]) (
 .seq (.block 0 (.loop (
 .seq (
 .seq (
 .region [jB 18 (qM 5),jB 19 (.bin .gtr (.t 18) (.c (.int .i64 0))),jB 20 (qM 19),jE 21 (qF 0 1) 20,jE 22 (qL 21) 20,jE 23 (qM 5) 20,jE 24 (.bin .sub (.t 23) (.c (.int .i64 1))) 20,jE 25 (qI 1 22 24) 20,jE 26 (qL 25) 20,jE 27 (qM 3) 20,jE 28 (qM 4) 20,jE 29 (.bin .sub (.t 28) (.c (.int .i64 1))) 20,jE 30 (qM 6) 20,jE 31 (.bin .sub (.t 29) (.t 30)) 20,jE 32 (qI 1 27 31) 20,jE 33 (qL 32) 20,jE 34 (.bin .eql (.t 26) (.t 33)) 20,jB 35 (.pick (.t 20) (.t 34) (.c (.bool false)))]) (.cond (.t 35) .skip (.exit 0))) (.block 1 (
 .seq (
 .region [qm 36 5,jA 37 (.bin .sub (.t 36) (.c (.int .i64 1))),qm 5 37]) (
 .region [qm 38 6,jA 39 (qA 38 1),qm 40 4,jA 41 (.bin .rem (.t 39) (.t 40)),qm 6 41])))))) (
 .seq (
 .region [jB 42 (qF 0 1),jB 43 (qL 42),jB 44 (qM 5),jB 45 (.slice 1 (.t 43) none (some (.t 44))),jB 47 (qM 3),jB 48 (qM 4),jB 49 (qM 6),jB 50 (.bin .sub (.t 48) (.t 49)),jB 51 (qM 4),jB 52 (.bin .rem (.t 50) (.t 51)),jB 46 (qG 163 45),jB 53 (.call (.c (.fn (.func 164) [] [])) [(.t 47),(.t 52)]),jB 54 (.build [.nils, .nils] [(0,(1,(.t 46))),(1,(1,(.t 53)))]),jH 2 2 54]) .ret))))))⟩
theorem c120:compFunc Tryz.prog GL [] Tryz.f120=some l120:=by kernel_rfl
def l121:LFunc:=⟨27,[(.tmp 4)],
 (
 .seq (
 .region [jA 4 (.mv (.c .nils))]) (
 .seq (
 .seq (
 .region [qm 5 1,jA 6 (.bin .lss (.t 5) (.c (.int .i64 0)))]) (.cond (.t 6) .bad .skip)) (
 .seq (
 .seq (
 .region [qm 8 1,qm 9 0,jA 10 (.capZ (.t 9)),qm 11 0,jA 12 (qS 11),jA 13 (.bin .sub (.t 10) (.t 12)),jA 14 (.bin .sub (.t 8) (.t 13)),qm 1 14]) (
 .seq (
 .region [qm 15 1,jA 16 (.bin .gtr (.t 15) (.c (.int .i64 0)))]) (.cond (.t 16) (
 .region [qm 17 0,qm 18 0,jA 19 (.capZ (.t 18)),jA 20 (.slice 1 (.t 17) none (some (.t 19))),qm 21 1,jA 22 (.appz 1 8 [(.int .i64 0)] (.t 20) (.t 21)),qm 23 0,jA 24 (qS 23),jA 25 (.slice 1 (.t 22) none (some (.t 24))),qm 0 25]) .skip))) (
 .seq (
 .region [qm 26 0,qm 4 26]) .ret))))⟩
theorem c121:compFunc Tryz.prog GL [] Tryz.f121=some l121:=by kernel_rfl
def l122:LFunc:=⟨9,[(.tmp 2)],
 (
 .seq (
 .region [jA 2 (qK false)]) (
 .seq (
 .region [qm 3 0,jA 4 (.bin .geq (.t 3) (.c (.int .i64 0))),qm 5 4,jD 6 (qM 0) 5,jD 7 (.bin .lss (.t 6) (.c (.int .i64 64))) 5,jA 8 (.pick (.t 5) (.t 7) (.c (.bool false))),qm 2 8]) .ret))⟩
theorem c122:compFunc Tryz.prog GL [] Tryz.f122=some l122:=by kernel_rfl
def l123:LFunc:=⟨29,[(.tmp 4)],
 (
 .seq (
 .region [jA 4 (qK false)]) (
 .seq (
 .seq (
 .region [qm 6 0,jA 7 (qS 6),qm 8 1,jA 9 (.bin .rem (.t 7) (.t 8)),jA 10 (.bin .neq (.t 9) (.c (.int .i64 0)))]) (.cond (.t 10) (
 .seq (
 .region [jA 4 (qK false)]) .ret) .skip)) (
 .seq (
 .seq (
 .region [qm 11 1,qm 5 11]) (.block 0 (.loop (
 .seq (
 .seq (
 .region [qm 12 5,qm 13 0,jA 14 (qS 13),jA 15 (qB 12 14)]) (.cond (.t 15) .skip (.exit 0))) (
 .seq (.block 1 (
 .seq (
 .region [jB 18 (qM 0),jB 19 (qM 5),jB 20 (qI 1 18 19),jB 21 (qL 20),jB 22 (qM 0),jB 23 (qM 5),jB 24 (qM 1),jB 25 (.bin .sub (.t 23) (.t 24)),jB 26 (qI 1 22 25),jB 27 (qL 26),jB 28 (.bin .neq (.t 21) (.t 27))]) (.cond (.t 28) (
 .seq (
 .region [jA 4 (qK false)]) .ret) .skip))) (
 .region [qm 16 5,jA 17 (qA 16 1),qm 5 17])))))) (
 .seq (
 .region [jA 4 (qK true)]) .ret))))⟩
theorem c123:compFunc Tryz.prog GL [] Tryz.f123=some l123:=by kernel_rfl
def l162:LFunc:=⟨30,[(.tmp 2)],
 (
 .seq (
 .region [jA 2 (qC 0)]) (
 .seq (
 .seq (
 .region [jA 3 (qC 1)]) (.block 0 (.loop (
 .seq (
 .seq (
 .region [qm 4 3,qm 5 0,jA 6 (qS 5),jA 7 (qB 4 6)]) (.cond (.t 7) .skip (.exit 0))) (
 .seq (.block 1 (
 .seq (
 .region [jB 10 (qM 0),jB 11 (qS 10),jB 12 (qM 3),jB 13 (.bin .rem (.t 11) (.t 12)),jB 14 (.bin .eql (.t 13) (.c (.int .i64 0))),jB 15 (qM 14),jE 16 (qM 0) 15,jE 17 (qM 3) 15,jE 18 (.slice 1 (.t 16) (some (.t 17)) none) 15,jE 19 (qM 0) 15,jE 20 (qM 0) 15,jE 21 (qS 20) 15,jE 22 (qM 3) 15,jE 23 (.bin .sub (.t 21) (.t 22)) 15,jE 24 (.slice 1 (.t 19) none (some (.t 23))) 15,jE 25 (.call (.c (.fn (.func 235) [] [])) [(.t 18),(.t 24)]) 15,jB 26 (.pick (.t 15) (.t 25) (.c (.bool false)))]) (.cond (.t 26) (
 .seq (
 .region [qm 27 3,qm 2 27]) .ret) .skip))) (
 .region [qm 8 3,jA 9 (qA 8 1),qm 3 9])))))) (
 .seq (
 .region [qm 28 0,jA 29 (qS 28),qm 2 29]) .ret)))⟩
theorem c162:compFunc Tryz.prog GL [] Tryz.f162=some l162:=by kernel_rfl
def l163:LFunc:=⟨8,[(.tmp 2)],
 (
 .seq (
 .region [jA 2 (.mv (.c .nils))]) (
 .seq (
 .seq (
 .region [qm 3 0,jA 4 (.eq false .slc (.t 3) (.c .nils))]) (.cond (.t 4) (
 .seq (
 .region [jA 2 (.mv (.c .nils))]) .ret) .skip)) (
 .seq (
 .region [jA 5 (.bslice 1 0 [(.int .i64 0)] []),qm 6 0,jA 7 (.append 1 8 (.t 5) (.t 6)),qm 2 7]) .ret)))⟩
theorem c163:compFunc Tryz.prog GL [] Tryz.f163=some l163:=by kernel_rfl
def l164:LFunc:=⟨23,[(.tmp 4)],
 (
 .seq (
 .region [jA 4 (.mv (.c .nils))]) (
 .seq (
 .region [qm 7 0,jA 8 (qS 7),jA 9 (.mkslice 1 8 [(.int .i64 0)] (.t 8) (.t 8)),qm 5 9]) (
 .seq (
 .region [qm 10 5,qm 11 0,qm 12 1,jA 13 (.slice 1 (.t 11) (some (.t 12)) none),jA 14 (.copy 1 (.t 10) (.t 13)),qm 6 14]) (
 .seq (
 .region [jB 15 (qM 5),jB 16 (qM 6),jB 17 (.slice 1 (.t 15) (some (.t 16)) none),jB 18 (qM 0),jB 19 (qM 1),jB 20 (.slice 1 (.t 18) none (some (.t 19))),jB 21 (.copy 1 (.t 17) (.t 20))]) (
 .seq (
 .region [qm 22 5,qm 4 22]) .ret)))))⟩
theorem c164:compFunc Tryz.prog GL [] Tryz.f164=some l164:=by kernel_rfl
def l235:LFunc:=⟨26,[(.tmp 4)],
 (
 .seq (
 .region [jA 4 (qK false)]) (
 .seq (
 .seq (
 .region [qm 6 0,jA 7 (qS 6),qm 8 1,jA 9 (qS 8),jA 10 (.bin .neq (.t 7) (.t 9))]) (.cond (.t 10) (
 .seq (
 .region [jA 4 (qK false)]) .ret) .skip)) (
 .seq (
 .seq (
 .region [qm 11 0,jA 12 (qS 11),jA 13 (qC 0)]) (.block 0 (.loop (
 .seq (
 .region [jA 14 (qB 13 12)]) (
 .seq (.cond (.t 14) .skip (.exit 0)) (
 .seq (.block 1 (
 .seq (
 .region [qm 15 13,qm 5 15]) (
 .seq (
 .region [jB 16 (qM 0),jB 17 (qM 5),jB 18 (qI 1 16 17),jB 19 (qL 18),jB 20 (qM 1),jB 21 (qM 5),jB 22 (qI 1 20 21),jB 23 (qL 22),jB 24 (.bin .neq (.t 19) (.t 23))]) (.cond (.t 24) (
 .seq (
 .region [jA 4 (qK false)]) .ret) .skip)))) (
 .region [jA 25 (qA 13 1),qm 13 25]))))))) (
 .seq (
 .region [jA 4 (qK true)]) .ret))))⟩
theorem c235:compFunc Tryz.prog GL [] Tryz.f235=some l235:=by kernel_rfl
end Go.Proofs.YtgobbogomchnhaaGreatDoor
