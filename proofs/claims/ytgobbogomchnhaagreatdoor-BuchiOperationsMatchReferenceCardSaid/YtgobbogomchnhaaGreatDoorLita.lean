/- Plain forms of functions, by program. -/
import Derived.Test.YtgobbogomchnhaaGreatDoorProg
import Derived.Test.YtgobbogomchnhaaGreatDoorPvComp
import Derived.Test.YtgobbogomchnhaaGreatDoorGl
import Derived.KernelRfl
set_option linter.unusedSimpArgs false
set_option linter.unusedVariables false
namespace Go.Proofs.YtgobbogomchnhaaGreatDoor
open Go Go.Pv
set_option maxRecDepth 100000
def l3:LFunc:=⟨74,[(.tmp 6)],
 (
 .seq (
 .region [jA 3 (qO 0),jA 4 (qO 1),jA 6 (qK false)]) (
 .seq (
 .region [jA 12 (.call (.c (.fn (.func 5) [] [])) []),qm 7 12]) (
 .seq (
 .seq (
 .region [jA 13 (qN 3 3),jA 14 (qG 6 13),jA 15 (.un .not (.t 14)),qm 16 15,jC 17 (qN 3 4) 16,jC 18 (qG 6 17) 16,jC 19 (.un .not (.t 18)) 16,jA 20 (qP 16 19),qm 21 20,jC 22 (qM 2) 21,jC 23 (.bin .gtr (.t 22) (.c (.int .i64 300))) 21,jA 24 (qP 21 23)]) (.cond (.t 24) (
 .seq (
 .region [qm 25 7,qm 6 25]) .ret) .skip)) (
 .seq (
 .region [jA 27 (qN 3 3),jA 28 (qN 3 4),qm 29 2,jA 30 (.call (.c (.fn (.func 7) [] [])) [(.t 27),(.t 28),(.t 29)]),qm 26 30,jA 31 (.ext (.t 26) 0),jA 32 (.ext (.t 26) 1),jA 8 (.alloc [(.int .i64 0), .nils, .nils]),jG 3 8 31,qm 9 32]) (
 .seq (
 .region [jA 34 (qN 3 3),jA 35 (qN 3 4),qm 36 2,jA 37 (.call (.c (.fn (.func 8) [] [])) [(.t 34),(.t 35),(.t 36)]),qm 33 37,jA 38 (.ext (.t 33) 0),jA 39 (.ext (.t 33) 1),jA 10 (.alloc [(.int .i64 0), .nils, .nils]),jG 3 10 38,qm 11 39]) (
 .seq (
 .region [jB 40 (qM 7),jB 41 (qM 40),jE 42 (qN 3 3) 41,jE 44 (qN 3 3) 41,⟨(some 43),(.call (.c (.fn (.func 9) [] [])) [(.t 42)]),(some (41,true)),[(44,((some (41,true)),(.load (some 3) (.t 3))))],true⟩,jE 45 (qG 10 44) 41,jE 46 (.eq false .bool (.t 43) (.t 45)) 41,jB 47 (.pick (.t 41) (.t 46) (.c (.bool false))),jB 48 (qM 47),jE 49 (qM 9) 48,jE 50 (qM 11) 48,jE 51 (.bin .eql (.t 49) (.t 50)) 48,jB 52 (.pick (.t 48) (.t 51) (.c (.bool false))),jB 53 (qM 52),jE 54 (qN 3 8) 53,jE 55 (qN 3 10) 53,jE 56 (.call (.c (.fn (.func 11) [] [])) [(.t 54),(.t 55)]) 53,jB 57 (.pick (.t 53) (.t 56) (.c (.bool false))),jB 58 (qM 57),jE 59 (qN 3 3) 58,jE 60 (qN 3 4) 58,jE 62 (qN 3 3) 58,jE 63 (qN 3 4) 58,⟨(some 61),(.call (.c (.fn (.func 12) [] [])) [(.t 59),(.t 60)]),(some (58,true)),[(62,((some (58,true)),(.load (some 3) (.t 3)))),(63,((some (58,true)),(.load (some 3) (.t 4))))],true⟩,jE 64 (.call (.c (.fn (.func 13) [] [])) [(.t 62),(.t 63)]) 58,jE 65 (.call (.c (.fn (.func 11) [] [])) [(.t 61),(.t 64)]) 58,jB 66 (.pick (.t 58) (.t 65) (.c (.bool false))),jB 67 (qM 66),jE 68 (qN 3 3) 67,jE 70 (qN 3 3) 67,⟨(some 69),(.call (.c (.fn (.func 14) [] [])) [(.t 68)]),(some (67,true)),[(70,((some (67,true)),(.load (some 3) (.t 3))))],true⟩,jE 71 (qG 15 70) 67,jE 72 (.call (.c (.fn (.func 11) [] [])) [(.t 69),(.t 71)]) 67,jB 73 (.pick (.t 67) (.t 72) (.c (.bool false))),jB 6 (qM 73)]) .ret))))))⟩
theorem c3:compFunc Tryz.prog GL [] Tryz.f3=some l3:=by kernel_rfl
def l4:LFunc:=⟨71,[(.tmp 6)],
 (
 .seq (
 .region [jA 3 (qO 0),jA 4 (qO 1),jA 5 (qO 2),jA 6 (qK false)]) (
 .seq (
 .region [jA 12 (.call (.c (.fn (.func 16) [] [])) []),qm 7 12]) (
 .seq (
 .seq (
 .region [jA 13 (qN 3 3),jA 14 (qN 2 4),jA 15 (.call (.c (.fn (.func 17) [] [])) [(.t 13),(.t 14)]),jA 16 (.un .not (.t 15)),qm 17 16,jC 18 (qF 0 5) 17,jC 19 (qL 18) 17,jC 20 (qS 19) 17,jC 21 (.bin .gtr (.t 20) (.c (.int .i64 40))) 17,jA 22 (qP 17 21),qm 23 22,jC 24 (qF 1 5) 23,jC 25 (qL 24) 23,jC 26 (qS 25) 23,jC 27 (.bin .gtr (.t 26) (.c (.int .i64 40))) 23,jA 28 (qP 23 27)]) (.cond (.t 28) (
 .seq (
 .region [qm 29 7,qm 6 29]) .ret) .skip)) (
 .seq (
 .region [jA 31 (qN 3 3),jA 32 (qN 2 4),jA 33 (.call (.c (.fn (.func 18) [] [])) [(.t 31),(.t 32)]),qm 30 33,jA 34 (.ext (.t 30) 0),jA 35 (.ext (.t 30) 1),jA 8 (.alloc [.nils, .nils]),jG 2 8 34,qm 9 35]) (
 .seq (
 .region [jA 37 (qN 3 3),jA 38 (qN 2 4),jA 39 (.call (.c (.fn (.func 19) [] [])) [(.t 37),(.t 38)]),qm 36 39,jA 40 (.ext (.t 36) 0),jA 41 (.ext (.t 36) 1),jA 10 (.alloc [.nils, .nils]),jG 2 10 40,qm 11 41]) (
 .seq (
 .region [jB 42 (qM 7),jB 43 (qM 42),jE 44 (qM 9) 43,jE 45 (qM 11) 43,jE 46 (.eq false .bool (.t 44) (.t 45)) 43,jB 47 (.pick (.t 43) (.t 46) (.c (.bool false))),jB 48 (qM 47),jE 49 (qN 2 8) 48,jE 50 (qN 2 10) 48,jE 51 (.call (.c (.fn (.func 20) [] [])) [(.t 49),(.t 50)]) 48,jB 52 (.pick (.t 48) (.t 51) (.c (.bool false))),jB 53 (qM 52),jE 54 (qN 3 3) 53,jE 55 (qN 2 4) 53,jE 57 (qM 11) 53,jE 56 (.call (.c (.fn (.func 21) [] [])) [(.t 54),(.t 55)]) 53,jE 58 (.eq false .bool (.t 56) (.t 57)) 53,jB 59 (.pick (.t 53) (.t 58) (.c (.bool false))),jB 60 (qM 59),jE 61 (qN 3 3) 60,jE 62 (qN 2 4) 60,jE 63 (qN 2 5) 60,jE 65 (qN 3 3) 60,jE 66 (qN 2 4) 60,jE 67 (qN 2 5) 60,⟨(some 64),(.call (.c (.fn (.func 22) [] [])) [(.t 61),(.t 62),(.t 63)]),(some (60,true)),[(65,((some (60,true)),(.load (some 3) (.t 3)))),(66,((some (60,true)),(.load (some 2) (.t 4)))),(67,((some (60,true)),(.load (some 2) (.t 5))))],true⟩,jE 68 (.call (.c (.fn (.func 23) [] [])) [(.t 65),(.t 66),(.t 67)]) 60,jE 69 (.eq false .bool (.t 64) (.t 68)) 60,jB 70 (.pick (.t 60) (.t 69) (.c (.bool false))),jB 6 (qM 70)]) .ret))))))⟩
theorem c4:compFunc Tryz.prog GL [] Tryz.f4=some l4:=by kernel_rfl
def l6:LFunc:=⟨54,[(.tmp 2)],
 (
 .seq (
 .region [jA 1 (qO 0),jA 2 (qK false)]) (
 .seq (
 .seq (
 .region [jA 5 (qF 0 1),ql 6 5,jA 7 (.bin .gtr (.t 6) (.c (.int .i64 20))),qm 8 7,jC 9 (qF 1 1) 8,jC 10 (qL 9) 8,jC 11 (qS 10) 8,jC 12 (.bin .gtr (.t 11) (.c (.int .i64 20))) 8,jA 13 (qP 8 12),qm 14 13,jC 15 (qF 2 1) 14,jC 16 (qL 15) 14,jC 17 (qS 16) 14,jC 18 (.bin .gtr (.t 17) (.c (.int .i64 10))) 14,jA 19 (qP 14 18)]) (.cond (.t 19) (
 .seq (
 .region [jA 2 (qK false)]) .ret) .skip)) (
 .seq (
 .seq (
 .region [jA 3 (qC 0)]) (.block 0 (.loop (
 .seq (
 .seq (
 .region [qm 20 3,jA 21 (qF 2 1),ql 22 21,jA 23 (qS 22),jA 24 (qB 20 23)]) (.cond (.t 24) .skip (.exit 0))) (
 .seq (.block 1 (
 .seq (
 .seq (
 .region [jA 27 (qF 2 1),ql 28 27,qm 29 3,jA 30 (qI 1 28 29),ql 31 30,jA 32 (qS 31),jA 33 (.bin .gtr (.t 32) (.c (.int .i64 20)))]) (.cond (.t 33) (
 .seq (
 .region [jA 2 (qK false)]) .ret) .skip)) (
 .seq (
 .region [jA 4 (qC 0)]) (.block 2 (.loop (
 .seq (
 .seq (
 .region [qm 34 4,jA 35 (qF 2 1),ql 36 35,qm 37 3,jA 38 (qI 1 36 37),ql 39 38,jA 40 (qS 39),jA 41 (qB 34 40)]) (.cond (.t 41) .skip (.exit 2))) (
 .seq (.block 3 (
 .seq (
 .region [jA 44 (qF 2 1),ql 45 44,qm 46 3,jA 47 (qI 1 45 46),ql 48 47,qm 49 4,jA 50 (qI 1 48 49),ql 51 50,jA 52 (qS 51),jA 53 (.bin .gtr (.t 52) (.c (.int .i64 20)))]) (.cond (.t 53) (
 .seq (
 .region [jA 2 (qK false)]) .ret) .skip))) (
 .region [qm 42 4,jA 43 (qA 42 1),qm 4 43])))))))) (
 .region [qm 25 3,jA 26 (qA 25 1),qm 3 26])))))) (
 .seq (
 .region [jA 2 (qK true)]) .ret))))⟩
theorem c6:compFunc Tryz.prog GL [] Tryz.f6=some l6:=by kernel_rfl
def l7:LFunc:=⟨79,[(.cell 6 (some 3)),(.tmp 7)],
 (
 .seq (
 .region [jA 3 (qO 0),jA 4 (qO 1),jA 6 (.alloc [(.int .i64 0), .nils, .nils]),jA 7 (qC 0)]) (
 .seq (
 .seq (
 .region [jA 14 (qN 3 3),jA 15 (qG 9 14),jA 16 (.un .not (.t 15)),qm 17 16,jC 18 (qN 3 4) 17,jC 19 (qG 9 18) 17,jC 20 (.un .not (.t 19)) 17,jA 21 (qP 17 20),qm 22 21,jC 23 (qF 0 3) 22,jC 24 (qL 23) 22,jC 25 (qF 0 4) 22,jC 26 (qL 25) 22,jC 27 (.bin .neq (.t 24) (.t 26)) 22,jA 28 (qP 22 27),qm 29 28,jC 30 (qM 2) 29,jC 31 (.bin .lss (.t 30) (.c (.int .i64 1))) 29,jA 32 (qP 29 31),qm 33 32,jC 34 (qM 2) 33,jC 35 (.bin .gtr (.t 34) (.c (.int .i64 3000))) 33,jA 36 (qP 33 35)]) (.cond (.t 36) (
 .seq (
 .region [jA 37 (.build [(.int .i64 0), .nils, .nils] []),jG 3 6 37,jA 7 (qC 1)]) .ret) .skip)) (
 .seq (
 .seq (
 .region [jA 38 (qF 1 3),ql 39 38,jA 40 (qS 39),jA 41 (qF 1 4),ql 42 41,jA 43 (qS 42),jA 44 (.bin .mul (.t 40) (.t 43)),qm 45 2,jA 46 (.bin .gtr (.t 44) (.t 45))]) (.cond (.t 46) (
 .seq (
 .region [jA 47 (.build [(.int .i64 0), .nils, .nils] []),jG 3 6 47,jA 7 (qC 2)]) .ret) .skip)) (
 .seq (
 .region [jA 8 (.mv (.c .nils))]) (
 .seq (
 .seq (
 .region [jA 48 (qF 1 3),ql 49 48,jA 50 (qS 49),jA 51 (qC 0)]) (.block 0 (.loop (
 .seq (
 .region [jA 52 (qB 51 50)]) (
 .seq (.cond (.t 52) .skip (.exit 0)) (
 .seq (.block 1 (
 .seq (
 .region [jA 53 (qI 1 49 51),ql 54 53,qm 10 54]) (
 .seq (
 .region [jA 55 (qF 1 4),ql 56 55,jA 57 (qS 56),jA 58 (qC 0)]) (.block 2 (.loop (
 .seq (
 .region [jA 59 (qB 58 57)]) (
 .seq (.cond (.t 59) .skip (.exit 2)) (
 .seq (.block 3 (
 .seq (
 .region [jA 60 (qI 1 56 58),ql 61 60,qm 12 61]) (
 .region [qm 62 8,qm 63 10,qm 64 12,jA 65 (.build [(.int .i64 0),(.int .i64 0),(.int .i64 0)] [(0,(1,(.t 63))),(1,(1,(.t 64)))]),jA 66 (.bslice 3 1 [(.int .i64 0),(.int .i64 0),(.int .i64 0)] [(0,(3,(.t 65)))]),jA 67 (.append 3 24 (.t 62) (.t 66)),qm 8 67]))) (
 .region [jA 68 (qA 58 1),qm 58 68]))))))))) (
 .region [jA 69 (qA 51 1),qm 51 69]))))))) (
 .seq (
 .region [jA 70 (.mkfn (.func 27) [] [(.t 3),(.t 4)]),qm 13 70]) (
 .seq (
 .region [jA 71 (qF 0 3),ql 72 71,qm 73 8,qm 74 2,qm 75 13,jA 76 (.call (.c (.fn (.func 29) [] [])) [(.t 72),(.t 73),(.t 74),(.t 75)]),jA 77 (.ext (.t 76) 0),jA 78 (.ext (.t 76) 1),jG 3 6 77,qm 7 78]) .ret)))))))⟩
theorem c7:compFunc Tryz.prog GL [] Tryz.f7=some l7:=by kernel_rfl
def l8:LFunc:=⟨200,[(.cell 6 (some 3)),(.tmp 7)],
 (
 .seq (
 .region [jA 3 (qO 0),jA 4 (qO 1),jA 6 (.alloc [(.int .i64 0), .nils, .nils]),jA 7 (qC 0)]) (
 .seq (
 .seq (
 .region [jA 24 (qN 3 3),jA 25 (qG 10 24),jA 26 (.un .not (.t 25)),qm 27 26,jC 28 (qN 3 4) 27,jC 29 (qG 10 28) 27,jC 30 (.un .not (.t 29)) 27,jA 31 (qP 27 30),qm 32 31,jC 33 (qF 0 3) 32,jC 34 (qL 33) 32,jC 35 (qF 0 4) 32,jC 36 (qL 35) 32,jC 37 (.bin .neq (.t 34) (.t 36)) 32,jA 38 (qP 32 37),qm 39 38,jC 40 (qM 2) 39,jC 41 (.bin .lss (.t 40) (.c (.int .i64 1))) 39,jA 42 (qP 39 41),qm 43 42,jC 44 (qM 2) 43,jC 45 (.bin .gtr (.t 44) (.c (.int .i64 3000))) 43,jA 46 (qP 43 45)]) (.cond (.t 46) (
 .seq (
 .region [jA 47 (.build [(.int .i64 0), .nils, .nils] []),jG 3 6 47,jA 7 (qC 1)]) .ret) .skip)) (
 .seq (
 .region [jA 48 (qF 0 3),ql 49 48,jA 50 (.build [(.int .i64 0), .nils, .nils] [(0,(1,(.t 49)))]),jA 8 (.alloc [(.int .i64 0), .nils, .nils]),jG 3 8 50]) (
 .seq (
 .region [jA 51 (.bslice 3 0 [(.int .i64 0),(.int .i64 0),(.int .i64 0)] []),qm 9 51]) (
 .seq (
 .seq (
 .region [jA 10 (qC 0)]) (.block 0 (.loop (
 .seq (
 .seq (
 .region [qm 52 10,jA 53 (qF 1 3),ql 54 53,jA 55 (qS 54),jA 56 (qB 52 55)]) (.cond (.t 56) .skip (.exit 0))) (
 .seq (.block 1 (
 .seq (
 .region [jA 11 (qC 0)]) (.block 2 (.loop (
 .seq (
 .seq (
 .region [qm 59 11,jA 60 (qF 1 4),ql 61 60,jA 62 (qS 61),jA 63 (qB 59 62)]) (.cond (.t 63) .skip (.exit 2))) (
 .seq (.block 3 (
 .seq (
 .region [jA 66 (qF 1 8),ql 67 66,qm 68 9,jA 69 (qS 68),jA 70 (.bslice 1 1 [(.int .i64 0)] [(0,(1,(.t 69)))]),jA 71 (.append 1 8 (.t 67) (.t 70)),jA 72 (qF 1 8),jG 1 72 71]) (
 .region [jB 73 (qM 9),jB 74 (qF 1 3),jB 75 (qL 74),jB 76 (qM 10),jB 77 (qI 1 75 76),jB 78 (qL 77),jB 79 (qF 1 4),jB 80 (qL 79),jB 81 (qM 11),jB 82 (qI 1 80 81),jB 83 (qL 82),jB 84 (.build [(.int .i64 0),(.int .i64 0),(.int .i64 0)] [(0,(1,(.t 78))),(1,(1,(.t 83)))]),⟨(some 85),(.bslice 3 1 [(.int .i64 0),(.int .i64 0),(.int .i64 0)] [(0,(3,(.t 84)))]),none,[(75,(none,(.load none (.t 74)))),(78,(none,(.load none (.t 77)))),(80,(none,(.load none (.t 79)))),(83,(none,(.load none (.t 82))))],true⟩,jB 86 (.append 3 24 (.t 73) (.t 85)),jB 9 (qM 86)]))) (
 .region [qm 64 11,jA 65 (qA 64 1),qm 11 65]))))))) (
 .region [qm 57 10,jA 58 (qA 57 1),qm 10 58])))))) (
 .seq (
 .seq (
 .region [qm 87 9,jA 88 (qS 87),qm 89 2,jA 90 (.bin .gtr (.t 88) (.t 89))]) (.cond (.t 90) (
 .seq (
 .region [jA 91 (.build [(.int .i64 0), .nils, .nils] []),jG 3 6 91,jA 7 (qC 2)]) .ret) .skip)) (
 .seq (
 .seq (
 .region [jA 12 (qC 0)]) (.block 4 (.loop (
 .seq (
 .seq (
 .region [qm 92 12,qm 93 9,jA 94 (qS 93),jA 95 (qB 92 94)]) (.cond (.t 95) .skip (.exit 4))) (
 .seq (.block 5 (
 .seq (
 .region [jA 98 (.bslice 1 0 [.nils] []),qm 13 98]) (
 .seq (
 .seq (
 .region [jA 14 (qC 0)]) (.block 6 (.loop (
 .seq (
 .seq (
 .region [qm 99 14,jA 100 (qF 0 8),ql 101 100,jA 102 (qB 99 101)]) (.cond (.t 102) .skip (.exit 6))) (
 .seq (.block 7 (
 .seq (
 .region [jA 105 (.bslice 2 0 [(.int .i64 0),(.bool false)] []),qm 15 105]) (
 .seq (
 .region [jB 106 (qF 2 3),jB 107 (qL 106),jB 108 (qM 9),jB 109 (qM 12),jB 110 (qI 3 108 109),jB 111 (qF 0 110),jB 112 (qL 111),jB 113 (qI 1 107 112),jB 114 (qL 113),jB 115 (qM 14),jB 116 (qI 1 114 115),jB 117 (qL 116),jB 16 (qM 117)]) (
 .seq (
 .region [jB 118 (qF 2 4),jB 119 (qL 118),jB 120 (qM 9),jB 121 (qM 12),jB 122 (qI 3 120 121),jB 123 (qF 1 122),jB 124 (qL 123),jB 125 (qI 1 119 124),jB 126 (qL 125),jB 127 (qM 14),jB 128 (qI 1 126 127),jB 129 (qL 128),jB 17 (qM 129)]) (
 .seq (
 .seq (
 .region [jA 18 (qC 0)]) (.block 8 (.loop (
 .seq (
 .seq (
 .region [qm 130 18,qm 131 16,jA 132 (qS 131),jA 133 (qB 130 132)]) (.cond (.t 133) .skip (.exit 8))) (
 .seq (.block 9 (
 .seq (
 .region [jA 19 (qC 0)]) (.block 10 (.loop (
 .seq (
 .seq (
 .region [qm 136 19,qm 137 17,jA 138 (qS 137),jA 139 (qB 136 138)]) (.cond (.t 139) .skip (.exit 10))) (
 .seq (.block 11 (
 .seq (
 .region [jB 143 (qM 9),jB 144 (qM 12),jB 145 (qI 3 143 144),jB 146 (qF 2 145),jB 147 (qL 146),jB 148 (qM 16),jB 149 (qM 18),jB 150 (qI 2 148 149),jB 151 (qF 1 150),jB 152 (qL 151),jB 153 (qM 17),jB 154 (qM 19),jB 155 (qI 2 153 154),jB 156 (qF 1 155),jB 157 (qL 156),jB 158 (.call (.c (.fn (.func 30) [] [])) [(.t 147),(.t 152),(.t 157)]),jB 142 (qM 158),jB 159 (.ext (.t 142) 0),jB 160 (.ext (.t 142) 1),jB 20 (qM 159),jB 21 (qM 160)]) (
 .seq (
 .region [jB 162 (qM 9),jB 163 (qM 16),jB 164 (qM 18),jB 165 (qI 2 163 164),jB 166 (qF 0 165),jB 167 (qL 166),jB 168 (qM 17),jB 169 (qM 19),jB 170 (qI 2 168 169),jB 171 (qF 0 170),jB 172 (qL 171),jB 173 (qM 20),jB 174 (.build [(.int .i64 0),(.int .i64 0),(.int .i64 0)] [(0,(1,(.t 167))),(1,(1,(.t 172))),(2,(1,(.t 173)))]),jB 175 (.call (.c (.fn (.func 31) [] [])) [(.t 162),(.t 174)]),jB 161 (qM 175),jB 176 (.ext (.t 161) 0),jB 177 (.ext (.t 161) 1),jB 22 (qM 176),jB 23 (qM 177)]) (
 .seq (
 .region [qm 178 22,qm 9 178]) (
 .region [qm 179 15,qm 180 23,qm 181 21,jA 182 (.build [(.int .i64 0),(.bool false)] [(0,(1,(.t 180))),(1,(1,(.t 181)))]),jA 183 (.call (.c (.fn (.func 32) [] [])) [(.t 179),(.t 182)]),qm 15 183]))))) (
 .region [qm 140 19,jA 141 (qA 140 1),qm 19 141]))))))) (
 .region [qm 134 18,jA 135 (qA 134 1),qm 18 135])))))) (
 .region [qm 184 13,qm 185 15,jA 186 (.bslice 1 1 [.nils] [(0,(1,(.t 185)))]),jA 187 (.append 1 24 (.t 184) (.t 186)),qm 13 187])))))) (
 .region [qm 103 14,jA 104 (qA 103 1),qm 14 104])))))) (
 .seq (
 .seq (
 .region [qm 188 9,jA 189 (qS 188),qm 190 2,jA 191 (.bin .gtr (.t 189) (.t 190))]) (.cond (.t 191) (
 .seq (
 .region [jA 192 (.build [(.int .i64 0), .nils, .nils] []),jG 3 6 192,jA 7 (qC 2)]) .ret) .skip)) (
 .region [jA 193 (qF 2 8),ql 194 193,qm 195 13,jA 196 (.bslice 1 1 [.nils] [(0,(1,(.t 195)))]),jA 197 (.append 1 24 (.t 194) (.t 196)),jA 198 (qF 2 8),jG 1 198 197]))))) (
 .region [qm 96 12,jA 97 (qA 96 1),qm 12 97])))))) (
 .seq (
 .region [jA 199 (qN 3 8),jG 3 6 199,jA 7 (qC 0)]) .ret))))))))⟩
theorem c8:compFunc Tryz.prog GL [] Tryz.f8=some l8:=by kernel_rfl
def l9:LFunc:=⟨101,[(.tmp 2)],
 (
 .seq (
 .region [jA 1 (qO 0),jA 2 (qK false)]) (
 .seq (
 .seq (
 .region [jA 12 (qF 0 1),ql 13 12,jA 14 (.bin .lss (.t 13) (.c (.int .i64 1))),qm 15 14,jC 16 (qF 0 1) 15,jC 17 (qL 16) 15,jC 18 (.bin .gtr (.t 17) (.c (.int .i64 64))) 15,jA 19 (qP 15 18),qm 20 19,jC 21 (qF 2 1) 20,jC 22 (qL 21) 20,jC 23 (qS 22) 20,jC 24 (.bin .gtr (.t 23) (.c (.int .i64 3000))) 20,jA 25 (qP 20 24)]) (.cond (.t 25) (
 .seq (
 .region [jA 2 (qK false)]) .ret) .skip)) (
 .seq (
 .region [jA 26 (.mkfn (.func 33) [] [(.t 1)]),qm 3 26]) (
 .seq (
 .seq (
 .region [jA 27 (qF 1 1),ql 28 27,jA 29 (qS 28),jA 30 (qC 0)]) (.block 0 (.loop (
 .seq (
 .region [jA 31 (qB 30 29)]) (
 .seq (.cond (.t 31) .skip (.exit 0)) (
 .seq (.block 1 (
 .seq (
 .region [qm 32 30,jA 33 (qI 1 28 30),ql 34 33,qm 4 32,qm 5 34]) (
 .seq (
 .region [qm 35 3,qm 36 5,jA 37 (.call (.t 35) [(.t 36)]),jA 38 (.un .not (.t 37)),qm 39 38,jC 40 (qM 4) 39,jC 41 (.bin .gtr (.t 40) (.c (.int .i64 0))) 39,jC 42 (qM 41) 39,jD 43 (qF 1 1) 42,jD 44 (qL 43) 42,jD 45 (qM 4) 42,jD 46 (.bin .sub (.t 45) (.c (.int .i64 1))) 42,jD 47 (qI 1 44 46) 42,jD 48 (qL 47) 42,jD 49 (qM 5) 42,jD 50 (.bin .geq (.t 48) (.t 49)) 42,jC 51 (.pick (.t 42) (.t 50) (.c (.bool false))) 39,jA 52 (qP 39 51)]) (.cond (.t 52) (
 .seq (
 .region [jA 2 (qK false)]) .ret) .skip)))) (
 .region [jA 53 (qA 30 1),qm 30 53]))))))) (
 .seq (
 .seq (
 .region [jA 54 (qF 2 1),ql 55 54,jA 56 (qS 55),jA 57 (qC 0)]) (.block 2 (.loop (
 .seq (
 .region [jA 58 (qB 57 56)]) (
 .seq (.cond (.t 58) .skip (.exit 2)) (
 .seq (.block 3 (
 .seq (
 .region [jA 59 (qI 1 55 57),ql 60 59,qm 7 60]) (
 .seq (
 .seq (
 .region [qm 61 7,jA 62 (qS 61),jA 63 (qF 0 1),ql 64 63,jA 65 (.bin .neq (.t 62) (.t 64))]) (.cond (.t 65) (
 .seq (
 .region [jA 2 (qK false)]) .ret) .skip)) (
 .seq (
 .region [qm 66 7,jA 67 (qS 66),jA 68 (qC 0)]) (.block 4 (.loop (
 .seq (
 .region [jA 69 (qB 68 67)]) (
 .seq (.cond (.t 69) .skip (.exit 4)) (
 .seq (.block 5 (
 .seq (
 .region [jA 70 (qI 1 66 68),ql 71 70,qm 9 71]) (
 .seq (
 .region [qm 72 9,jA 73 (qS 72),jA 74 (qC 0)]) (.block 6 (.loop (
 .seq (
 .region [jA 75 (qB 74 73)]) (
 .seq (.cond (.t 75) .skip (.exit 6)) (
 .seq (.block 7 (
 .seq (
 .region [qm 76 74,jA 77 (qI 2 72 74),jA 78 (qN 2 77),jA 11 (.alloc [(.int .i64 0),(.bool false)]),qm 10 76,jG 2 11 78]) (
 .seq (
 .region [jB 79 (qM 3),jB 80 (qF 0 11),jB 81 (qL 80),jB 82 (.call (.t 79) [(.t 81)]),jB 83 (.un .not (.t 82)),jB 84 (qM 83),jF 85 (qM 10) 84,jF 86 (.bin .gtr (.t 85) (.c (.int .i64 0))) 84,jF 87 (qM 86) 84,jE 88 (qM 9) 87,jE 89 (qM 10) 87,jE 90 (.bin .sub (.t 89) (.c (.int .i64 1))) 87,jE 91 (qI 2 88 90) 87,jE 92 (qN 2 91) 87,jE 93 (qN 2 11) 87,jE 94 (.call (.c (.fn (.func 34) [] [])) [(.t 92),(.t 93)]) 87,jE 95 (.bin .geq (.t 94) (.c (.int .i64 0))) 87,jF 96 (.pick (.t 87) (.t 95) (.c (.bool false))) 84,jB 97 (qP 84 96)]) (.cond (.t 97) (
 .seq (
 .region [jA 2 (qK false)]) .ret) .skip)))) (
 .region [jA 98 (qA 74 1),qm 74 98]))))))))) (
 .region [jA 99 (qA 68 1),qm 68 99])))))))))) (
 .region [jA 100 (qA 57 1),qm 57 100]))))))) (
 .seq (
 .region [jA 2 (qK true)]) .ret))))))⟩
theorem c9:compFunc Tryz.prog GL [] Tryz.f9=some l9:=by kernel_rfl
def l10:LFunc:=⟨134,[(.tmp 2)],
 (
 .seq (
 .region [jA 1 (qO 0),jA 2 (qK false)]) (
 .seq (
 .seq (
 .region [jA 8 (qF 0 1),ql 9 8,jA 10 (.bin .lss (.t 9) (.c (.int .i64 1))),qm 11 10,jC 12 (qF 0 1) 11,jC 13 (qL 12) 11,jC 14 (.bin .gtr (.t 13) (.c (.int .i64 64))) 11,jA 15 (qP 11 14),qm 16 15,jC 17 (qF 2 1) 16,jC 18 (qL 17) 16,jC 19 (qS 18) 16,jC 20 (.bin .gtr (.t 19) (.c (.int .i64 3000))) 16,jA 21 (qP 16 20)]) (.cond (.t 21) (
 .seq (
 .region [jA 2 (qK false)]) .ret) .skip)) (
 .seq (
 .seq (
 .region [jA 3 (qC 0)]) (.block 0 (.loop (
 .seq (
 .seq (
 .region [qm 22 3,jA 23 (qF 1 1),ql 24 23,jA 25 (qS 24),jA 26 (qB 22 25)]) (.cond (.t 26) .skip (.exit 0))) (
 .seq (.block 1 (
 .seq (
 .region [jB 29 (qF 1 1),jB 30 (qL 29),jB 31 (qM 3),jB 32 (qI 1 30 31),jB 33 (qL 32),jB 34 (.bin .lss (.t 33) (.c (.int .i64 0))),jB 35 (qM 34),jF 36 (qF 1 1) 35,jF 37 (qL 36) 35,jF 38 (qM 3) 35,jF 39 (qI 1 37 38) 35,jF 40 (qL 39) 35,jF 41 (qF 2 1) 35,jF 42 (qL 41) 35,jF 43 (qS 42) 35,jF 44 (.bin .geq (.t 40) (.t 43)) 35,jB 45 (qP 35 44),jB 46 (qM 45),jF 47 (qM 3) 46,jF 48 (.bin .gtr (.t 47) (.c (.int .i64 0))) 46,jF 49 (qM 48) 46,jE 50 (qF 1 1) 49,jE 51 (qL 50) 49,jE 52 (qM 3) 49,jE 53 (.bin .sub (.t 52) (.c (.int .i64 1))) 49,jE 54 (qI 1 51 53) 49,jE 55 (qL 54) 49,jE 56 (qF 1 1) 49,jE 57 (qL 56) 49,jE 58 (qM 3) 49,jE 59 (qI 1 57 58) 49,jE 60 (qL 59) 49,jE 61 (.bin .geq (.t 55) (.t 60)) 49,jF 62 (.pick (.t 49) (.t 61) (.c (.bool false))) 46,jB 63 (qP 46 62)]) (.cond (.t 63) (
 .seq (
 .region [jA 2 (qK false)]) .ret) .skip))) (
 .region [qm 27 3,jA 28 (qA 27 1),qm 3 28])))))) (
 .seq (
 .seq (
 .region [jA 4 (qC 0)]) (.block 2 (.loop (
 .seq (
 .seq (
 .region [qm 64 4,jA 65 (qF 2 1),ql 66 65,jA 67 (qS 66),jA 68 (qB 64 67)]) (.cond (.t 68) .skip (.exit 2))) (
 .seq (.block 3 (
 .seq (
 .seq (
 .region [jB 71 (qF 2 1),jB 72 (qL 71),jB 73 (qM 4),jB 74 (qI 1 72 73),jB 75 (qL 74),jB 76 (qS 75),jB 77 (qF 0 1),jB 78 (qL 77),jB 79 (.bin .neq (.t 76) (.t 78))]) (.cond (.t 79) (
 .seq (
 .region [jA 2 (qK false)]) .ret) .skip)) (
 .seq (
 .region [jA 5 (qC 0)]) (.block 4 (.loop (
 .seq (
 .seq (
 .region [qm 80 5,jA 81 (qF 0 1),ql 82 81,jA 83 (qB 80 82)]) (.cond (.t 83) .skip (.exit 4))) (
 .seq (.block 5 (
 .seq (
 .region [jA 86 (qF 2 1),ql 87 86,qm 88 4,jA 89 (qI 1 87 88),ql 90 89,qm 91 5,jA 92 (qI 1 90 91),ql 93 92,qm 6 93]) (
 .seq (
 .region [jA 7 (qC 0)]) (.block 6 (.loop (
 .seq (
 .seq (
 .region [qm 94 7,qm 95 6,jA 96 (qS 95),jA 97 (qB 94 96)]) (.cond (.t 97) .skip (.exit 6))) (
 .seq (.block 7 (
 .seq (
 .region [jB 100 (qM 6),jB 101 (qM 7),jB 102 (qI 2 100 101),jB 103 (qF 0 102),jB 104 (qL 103),jB 105 (.bin .lss (.t 104) (.c (.int .i64 0))),jB 106 (qM 105),jF 107 (qM 6) 106,jF 108 (qM 7) 106,jF 109 (qI 2 107 108) 106,jF 110 (qF 0 109) 106,jF 111 (qL 110) 106,jF 112 (qF 2 1) 106,jF 113 (qL 112) 106,jF 114 (qS 113) 106,jF 115 (.bin .geq (.t 111) (.t 114)) 106,jB 116 (qP 106 115),jB 117 (qM 116),jF 118 (qM 7) 117,jF 119 (.bin .gtr (.t 118) (.c (.int .i64 0))) 117,jF 120 (qM 119) 117,jE 121 (qM 6) 120,jE 122 (qM 7) 120,jE 123 (.bin .sub (.t 122) (.c (.int .i64 1))) 120,jE 124 (qI 2 121 123) 120,jE 125 (qN 2 124) 120,jE 126 (qM 6) 120,jE 127 (qM 7) 120,jE 128 (qI 2 126 127) 120,jE 129 (qN 2 128) 120,jE 130 (.call (.c (.fn (.func 35) [] [])) [(.t 125),(.t 129)]) 120,jE 131 (.un .not (.t 130)) 120,jF 132 (.pick (.t 120) (.t 131) (.c (.bool false))) 117,jB 133 (qP 117 132)]) (.cond (.t 133) (
 .seq (
 .region [jA 2 (qK false)]) .ret) .skip))) (
 .region [qm 98 7,jA 99 (qA 98 1),qm 7 99])))))))) (
 .region [qm 84 5,jA 85 (qA 84 1),qm 5 85])))))))) (
 .region [qm 69 4,jA 70 (qA 69 1),qm 4 70])))))) (
 .seq (
 .region [jA 2 (qK true)]) .ret)))))⟩
theorem c10:compFunc Tryz.prog GL [] Tryz.f10=some l10:=by kernel_rfl
def l11:LFunc:=⟨77,[(.tmp 4)],
 (
 .seq (
 .region [jA 2 (qO 0),jA 3 (qO 1),jA 4 (qK false)]) (
 .seq (
 .seq (
 .region [jA 7 (qF 0 2),ql 8 7,jA 9 (qF 0 3),ql 10 9,jA 11 (.bin .neq (.t 8) (.t 10)),qm 12 11,jC 13 (qF 1 2) 12,jC 14 (qL 13) 12,jC 15 (qF 1 3) 12,jC 16 (qL 15) 12,jC 17 (.call (.c (.fn (.func 26) [] [])) [(.t 14),(.t 16)]) 12,jC 18 (.un .not (.t 17)) 12,jA 19 (qP 12 18),qm 20 19,jC 21 (qF 2 2) 20,jC 22 (qL 21) 20,jC 23 (qS 22) 20,jC 24 (qF 2 3) 20,jC 25 (qL 24) 20,jC 26 (qS 25) 20,jC 27 (.bin .neq (.t 23) (.t 26)) 20,jA 28 (qP 20 27)]) (.cond (.t 28) (
 .seq (
 .region [jA 4 (qK false)]) .ret) .skip)) (
 .seq (
 .seq (
 .region [jA 5 (qC 0)]) (.block 0 (.loop (
 .seq (
 .seq (
 .region [qm 29 5,jA 30 (qF 2 2),ql 31 30,jA 32 (qS 31),jA 33 (qB 29 32)]) (.cond (.t 33) .skip (.exit 0))) (
 .seq (.block 1 (
 .seq (
 .seq (
 .region [jB 36 (qF 2 2),jB 37 (qL 36),jB 38 (qM 5),jB 39 (qI 1 37 38),jB 40 (qL 39),jB 41 (qS 40),jB 42 (qF 2 3),jB 43 (qL 42),jB 44 (qM 5),jB 45 (qI 1 43 44),jB 46 (qL 45),jB 47 (qS 46),jB 48 (.bin .neq (.t 41) (.t 47))]) (.cond (.t 48) (
 .seq (
 .region [jA 4 (qK false)]) .ret) .skip)) (
 .seq (
 .region [jA 6 (qC 0)]) (.block 2 (.loop (
 .seq (
 .seq (
 .region [qm 49 6,jA 50 (qF 2 2),ql 51 50,qm 52 5,jA 53 (qI 1 51 52),ql 54 53,jA 55 (qS 54),jA 56 (qB 49 55)]) (.cond (.t 56) .skip (.exit 2))) (
 .seq (.block 3 (
 .seq (
 .region [jB 59 (qF 2 2),jB 60 (qL 59),jB 61 (qM 5),jB 62 (qI 1 60 61),jB 63 (qL 62),jB 64 (qM 6),jB 65 (qI 1 63 64),jB 66 (qL 65),jB 67 (qF 2 3),jB 68 (qL 67),jB 69 (qM 5),jB 70 (qI 1 68 69),jB 71 (qL 70),jB 72 (qM 6),jB 73 (qI 1 71 72),jB 74 (qL 73),jB 75 (.call (.c (.fn (.func 36) [] [])) [(.t 66),(.t 74)]),jB 76 (.un .not (.t 75))]) (.cond (.t 76) (
 .seq (
 .region [jA 4 (qK false)]) .ret) .skip))) (
 .region [qm 57 6,jA 58 (qA 57 1),qm 6 58])))))))) (
 .region [qm 34 5,jA 35 (qA 34 1),qm 5 35])))))) (
 .seq (
 .region [jA 4 (qK true)]) .ret))))⟩
theorem c11:compFunc Tryz.prog GL [] Tryz.f11=some l11:=by kernel_rfl
def l12:LFunc:=⟨47,[(.cell 4 (some 3))],
 (
 .seq (
 .region [jA 2 (qO 0),jA 3 (qO 1),jA 4 (.alloc [(.int .i64 0), .nils, .nils])]) (
 .seq (
 .region [jA 8 (qF 2 2),ql 9 8,jA 10 (qS 9),qm 5 10]) (
 .seq (
 .seq (
 .region [jA 11 (qN 3 2),jA 12 (qG 9 11),jA 13 (.un .not (.t 12)),qm 14 13,jC 15 (qN 3 3) 14,jC 16 (qG 9 15) 14,jC 17 (.un .not (.t 16)) 14,jA 18 (qP 14 17),qm 19 18,jC 20 (qF 0 2) 19,jC 21 (qL 20) 19,jC 22 (qF 0 3) 19,jC 23 (qL 22) 19,jC 24 (.bin .neq (.t 21) (.t 23)) 19,jA 25 (qP 19 24),qm 26 25,jC 27 (qM 5) 26,jC 28 (qF 2 3) 26,jC 29 (qL 28) 26,jC 30 (qS 29) 26,jC 31 (.bin .add (.t 27) (.t 30)) 26,jC 32 (.bin .gtr (.t 31) (.c (.int .i64 3000))) 26,jA 33 (qP 26 32)]) (.cond (.t 33) (
 .seq (
 .region [jA 34 (.build [(.int .i64 0), .nils, .nils] []),jG 3 4 34]) .ret) .skip)) (
 .seq (
 .region [jA 35 (qF 0 2),ql 36 35,jA 37 (.build [(.int .i64 0), .nils, .nils] [(0,(1,(.t 36)))]),jA 6 (.alloc [(.int .i64 0), .nils, .nils]),jG 3 6 37]) (
 .seq (
 .region [jA 38 (.mkfn (.func 37) [] [(.t 6)]),qm 7 38]) (
 .seq (
 .region [qm 39 7,jA 40 (qN 3 2),jA 41 (.call (.t 39) [(.t 40),(.c (.int .i64 0))])]) (
 .seq (
 .region [qm 42 7,jA 43 (qN 3 3),qm 44 5,jA 45 (.call (.t 42) [(.t 43),(.t 44)])]) (
 .seq (
 .region [jA 46 (qN 3 6),jG 3 4 46]) .ret))))))))⟩
theorem c12:compFunc Tryz.prog GL [] Tryz.f12=some l12:=by kernel_rfl
def l13:LFunc:=⟨143,[(.cell 4 (some 3))],
 (
 .seq (
 .region [jA 2 (qO 0),jA 3 (qO 1),jA 4 (.alloc [(.int .i64 0), .nils, .nils])]) (
 .seq (
 .region [jA 13 (qF 2 2),ql 14 13,jA 15 (qS 14),qm 5 15]) (
 .seq (
 .seq (
 .region [jA 16 (qN 3 2),jA 17 (qG 10 16),jA 18 (.un .not (.t 17)),qm 19 18,jC 20 (qN 3 3) 19,jC 21 (qG 10 20) 19,jC 22 (.un .not (.t 21)) 19,jA 23 (qP 19 22),qm 24 23,jC 25 (qF 0 2) 24,jC 26 (qL 25) 24,jC 27 (qF 0 3) 24,jC 28 (qL 27) 24,jC 29 (.bin .neq (.t 26) (.t 28)) 24,jA 30 (qP 24 29),qm 31 30,jC 32 (qM 5) 31,jC 33 (qF 2 3) 31,jC 34 (qL 33) 31,jC 35 (qS 34) 31,jC 36 (.bin .add (.t 32) (.t 35)) 31,jC 37 (.bin .gtr (.t 36) (.c (.int .i64 3000))) 31,jA 38 (qP 31 37)]) (.cond (.t 38) (
 .seq (
 .region [jA 39 (.build [(.int .i64 0), .nils, .nils] []),jG 3 4 39]) .ret) .skip)) (
 .seq (
 .region [jB 40 (qF 0 2),jB 41 (qL 40),⟨(some 42),(.bslice 1 0 [(.int .i64 0)] []),none,[(41,(none,(.load none (.t 40))))],true⟩,jB 43 (qF 1 2),jB 44 (qL 43),⟨(some 46),(.bslice 1 0 [.nils] []),none,[(41,(none,(.load none (.t 40)))),(44,(none,(.load none (.t 43))))],true⟩,jB 47 (qF 2 2),jB 48 (qL 47),⟨(some 6),(.alloc [(.int .i64 0), .nils, .nils]),none,[(41,(none,(.load none (.t 40)))),(44,(none,(.load none (.t 43)))),(48,(none,(.load none (.t 47))))],true⟩,⟨(some 45),(.append 1 8 (.t 42) (.t 44)),none,[(41,(none,(.load none (.t 40)))),(48,(none,(.load none (.t 47))))],true⟩,⟨(some 49),(.append 1 24 (.t 46) (.t 48)),none,[(41,(none,(.load none (.t 40))))],true⟩,jB 50 (.build [(.int .i64 0), .nils, .nils] [(0,(1,(.t 41))),(1,(1,(.t 45))),(2,(1,(.t 49)))]),jH 3 6 50]) (
 .seq (
 .seq (
 .region [jA 7 (qC 0)]) (.block 0 (.loop (
 .seq (
 .seq (
 .region [qm 51 7,jA 52 (qF 1 3),ql 53 52,jA 54 (qS 53),jA 55 (qB 51 54)]) (.cond (.t 55) .skip (.exit 0))) (
 .seq (.block 1 (
 .region [jB 58 (qF 1 6),jB 59 (qL 58),jB 60 (qF 1 3),jB 61 (qL 60),jB 62 (qM 7),jB 63 (qI 1 61 62),jB 64 (qL 63),jB 65 (qM 5),jB 66 (.bin .add (.t 64) (.t 65)),⟨(some 67),(.bslice 1 1 [(.int .i64 0)] [(0,(1,(.t 66)))]),none,[(59,(none,(.load none (.t 58)))),(61,(none,(.load none (.t 60)))),(64,(none,(.load none (.t 63))))],true⟩,jB 68 (.append 1 8 (.t 59) (.t 67)),jB 69 (qF 1 6),jH 1 69 68])) (
 .region [qm 56 7,jA 57 (qA 56 1),qm 7 57])))))) (
 .seq (
 .seq (
 .region [jA 8 (qC 0)]) (.block 2 (.loop (
 .seq (
 .seq (
 .region [qm 70 8,jA 71 (qF 2 3),ql 72 71,jA 73 (qS 72),jA 74 (qB 70 73)]) (.cond (.t 74) .skip (.exit 2))) (
 .seq (.block 3 (
 .seq (
 .region [jA 77 (.bslice 1 0 [.nils] []),qm 9 77]) (
 .seq (
 .seq (
 .region [jA 10 (qC 0)]) (.block 4 (.loop (
 .seq (
 .seq (
 .region [qm 78 10,jA 79 (qF 2 3),ql 80 79,qm 81 8,jA 82 (qI 1 80 81),ql 83 82,jA 84 (qS 83),jA 85 (qB 78 84)]) (.cond (.t 85) .skip (.exit 4))) (
 .seq (.block 5 (
 .seq (
 .region [jA 88 (.bslice 2 0 [(.int .i64 0),(.bool false)] []),qm 11 88]) (
 .seq (
 .seq (
 .region [jA 12 (qC 0)]) (.block 6 (.loop (
 .seq (
 .seq (
 .region [qm 89 12,jA 90 (qF 2 3),ql 91 90,qm 92 8,jA 93 (qI 1 91 92),ql 94 93,qm 95 10,jA 96 (qI 1 94 95),ql 97 96,jA 98 (qS 97),jA 99 (qB 89 98)]) (.cond (.t 99) .skip (.exit 6))) (
 .seq (.block 7 (
 .region [jB 102 (qM 11),jB 103 (qF 2 3),jB 104 (qL 103),jB 105 (qM 8),jB 106 (qI 1 104 105),jB 107 (qL 106),jB 108 (qM 10),jB 109 (qI 1 107 108),jB 110 (qL 109),jB 111 (qM 12),jB 112 (qI 2 110 111),jB 113 (qF 0 112),jB 114 (qL 113),jB 115 (qM 5),jB 116 (.bin .add (.t 114) (.t 115)),jB 117 (qF 2 3),jB 118 (qL 117),jB 119 (qM 8),jB 120 (qI 1 118 119),jB 121 (qL 120),jB 122 (qM 10),jB 123 (qI 1 121 122),jB 124 (qL 123),jB 125 (qM 12),jB 126 (qI 2 124 125),jB 127 (qF 1 126),jB 128 (qL 127),jB 129 (.build [(.int .i64 0),(.bool false)] [(0,(1,(.t 116))),(1,(1,(.t 128)))]),⟨(some 130),(.bslice 2 1 [(.int .i64 0),(.bool false)] [(0,(2,(.t 129)))]),none,[(104,(none,(.load none (.t 103)))),(107,(none,(.load none (.t 106)))),(110,(none,(.load none (.t 109)))),(114,(none,(.load none (.t 113)))),(118,(none,(.load none (.t 117)))),(121,(none,(.load none (.t 120)))),(124,(none,(.load none (.t 123)))),(128,(none,(.load none (.t 127))))],true⟩,jB 131 (.append 2 16 (.t 102) (.t 130)),jB 11 (qM 131)])) (
 .region [qm 100 12,jA 101 (qA 100 1),qm 12 101])))))) (
 .region [qm 132 9,qm 133 11,jA 134 (.bslice 1 1 [.nils] [(0,(1,(.t 133)))]),jA 135 (.append 1 24 (.t 132) (.t 134)),qm 9 135])))) (
 .region [qm 86 10,jA 87 (qA 86 1),qm 10 87])))))) (
 .region [jA 136 (qF 2 6),ql 137 136,qm 138 9,jA 139 (.bslice 1 1 [.nils] [(0,(1,(.t 138)))]),jA 140 (.append 1 24 (.t 137) (.t 139)),jA 141 (qF 2 6),jG 1 141 140])))) (
 .region [qm 75 8,jA 76 (qA 75 1),qm 8 76])))))) (
 .seq (
 .region [jA 142 (qN 3 6),jG 3 4 142]) .ret)))))))⟩
theorem c13:compFunc Tryz.prog GL [] Tryz.f13=some l13:=by kernel_rfl
def l14:LFunc:=⟨21,[(.cell 2 (some 3))],
 (
 .seq (
 .region [jA 1 (qO 0),jA 2 (.alloc [(.int .i64 0), .nils, .nils])]) (
 .seq (
 .seq (
 .region [jA 6 (qN 3 1),jA 7 (qG 9 6),jA 8 (.un .not (.t 7))]) (.cond (.t 8) (
 .seq (
 .region [jA 9 (.build [(.int .i64 0), .nils, .nils] []),jG 3 2 9]) .ret) .skip)) (
 .seq (
 .region [jA 10 (.mkfn (.func 38) [] [(.t 1)]),qm 3 10]) (
 .seq (
 .region [jA 12 (qF 0 1),ql 13 12,jA 14 (qF 1 1),ql 15 14,qm 16 3,jA 17 (.call (.c (.fn (.func 40) [] [])) [(.t 13),(.t 15),(.c (.int .i64 3000)),(.t 16)]),qm 11 17,jA 18 (.ext (.t 11) 0),jA 19 (.ext (.t 11) 1),jA 4 (.alloc [(.int .i64 0), .nils, .nils]),jG 3 4 18,qm 5 19]) (
 .seq (
 .region [jA 20 (qN 3 4),jG 3 2 20]) .ret)))))⟩
theorem c14:compFunc Tryz.prog GL [] Tryz.f14=some l14:=by kernel_rfl
def l15:LFunc:=⟨148,[(.cell 2 (some 3))],
 (
 .seq (
 .region [jA 1 (qO 0),jA 2 (.alloc [(.int .i64 0), .nils, .nils])]) (
 .seq (
 .seq (
 .region [jA 14 (qN 3 1),jA 15 (qG 10 14),jA 16 (.un .not (.t 15))]) (.cond (.t 16) (
 .seq (
 .region [jA 17 (.build [(.int .i64 0), .nils, .nils] []),jG 3 2 17]) .ret) .skip)) (
 .seq (
 .region [jA 18 (qF 2 1),ql 19 18,jA 20 (qS 19),jA 21 (.mkslice 1 8 [(.int .i64 0)] (.t 20) (.t 20)),qm 3 21]) (
 .seq (
 .seq (
 .region [jA 4 (qC 0)]) (.block 0 (.loop (
 .seq (
 .seq (
 .region [qm 22 4,qm 23 3,jA 24 (qS 23),jA 25 (qB 22 24)]) (.cond (.t 25) .skip (.exit 0))) (
 .seq (.block 1 (
 .region [qm 28 3,qm 29 4,jA 30 (qI 1 28 29),⟨none,(.store 1 (.t 30) (.c (.int .i64 (-1)))),none,[],false⟩])) (
 .region [qm 26 4,jA 27 (qA 26 1),qm 4 27])))))) (
 .seq (
 .region [jA 31 (.bslice 1 0 [(.int .i64 0)] []),qm 5 31]) (
 .seq (
 .region [jA 32 (qF 0 1),ql 33 32,jA 34 (.build [(.int .i64 0), .nils, .nils] [(0,(1,(.t 33)))]),jA 6 (.alloc [(.int .i64 0), .nils, .nils]),jG 3 6 34]) (
 .seq (
 .seq (
 .region [jA 7 (qC 0)]) (.block 2 (.loop (
 .seq (
 .seq (
 .region [qm 35 7,jA 36 (qF 1 1),ql 37 36,jA 38 (qS 37),jA 39 (qB 35 38)]) (.cond (.t 39) .skip (.exit 2))) (
 .seq (.block 3 (
 .seq (
 .region [qm 42 3,jA 43 (qF 1 1),ql 44 43,qm 45 7,jA 46 (qI 1 44 45),ql 47 46,qm 48 7,jA 49 (qI 1 42 47),jG 1 49 48]) (
 .seq (
 .region [qm 50 5,jA 51 (qF 1 1),ql 52 51,qm 53 7,jA 54 (qI 1 52 53),ql 55 54,jA 56 (.bslice 1 1 [(.int .i64 0)] [(0,(1,(.t 55)))]),jA 57 (.append 1 8 (.t 50) (.t 56)),qm 5 57]) (
 .region [jA 58 (qF 1 6),ql 59 58,qm 60 7,jA 61 (.bslice 1 1 [(.int .i64 0)] [(0,(1,(.t 60)))]),jA 62 (.append 1 8 (.t 59) (.t 61)),jA 63 (qF 1 6),jG 1 63 62])))) (
 .region [qm 40 7,jA 41 (qA 40 1),qm 7 41])))))) (
 .seq (
 .seq (
 .region [jA 8 (qC 0)]) (.block 4 (.loop (
 .seq (
 .seq (
 .region [qm 64 8,qm 65 5,jA 66 (qS 65),jA 67 (qB 64 66)]) (.cond (.t 67) .skip (.exit 4))) (
 .seq (.block 5 (
 .seq (
 .region [jA 70 (.bslice 1 0 [.nils] []),qm 9 70]) (
 .seq (
 .seq (
 .region [jA 10 (qC 0)]) (.block 6 (.loop (
 .seq (
 .seq (
 .region [qm 71 10,jA 72 (qF 0 1),ql 73 72,jA 74 (qB 71 73)]) (.cond (.t 74) .skip (.exit 6))) (
 .seq (.block 7 (
 .seq (
 .region [jA 77 (.bslice 2 0 [(.int .i64 0),(.bool false)] []),qm 11 77]) (
 .seq (
 .region [jB 78 (qF 2 1),jB 79 (qL 78),jB 80 (qM 5),jB 81 (qM 8),jB 82 (qI 1 80 81),jB 83 (qL 82),jB 84 (qI 1 79 83),jB 85 (qL 84),jB 86 (qM 10),jB 87 (qI 1 85 86),jB 88 (qL 87),jB 12 (qM 88)]) (
 .seq (
 .seq (
 .region [jA 13 (qC 0)]) (.block 8 (.loop (
 .seq (
 .seq (
 .region [qm 89 13,qm 90 12,jA 91 (qS 90),jA 92 (qB 89 91)]) (.cond (.t 92) .skip (.exit 8))) (
 .seq (.block 9 (
 .seq (
 .seq (
 .region [qm 95 3,qm 96 12,qm 97 13,jA 98 (qI 2 96 97),jA 99 (qF 0 98),ql 100 99,jA 101 (qI 1 95 100),ql 102 101,jA 103 (.bin .lss (.t 102) (.c (.int .i64 0)))]) (.cond (.t 103) (
 .seq (
 .region [qm 104 3,qm 105 12,qm 106 13,jA 107 (qI 2 105 106),jA 108 (qF 0 107),ql 109 108,qm 110 5,jA 111 (qS 110),jA 112 (qI 1 104 109),jG 1 112 111]) (
 .region [qm 113 5,qm 114 12,qm 115 13,jA 116 (qI 2 114 115),jA 117 (qF 0 116),ql 118 117,jA 119 (.bslice 1 1 [(.int .i64 0)] [(0,(1,(.t 118)))]),jA 120 (.append 1 8 (.t 113) (.t 119)),qm 5 120])) .skip)) (
 .region [jB 121 (qM 11),jB 122 (qM 3),jB 123 (qM 12),jB 124 (qM 13),jB 125 (qI 2 123 124),jB 126 (qF 0 125),jB 127 (qL 126),jB 128 (qI 1 122 127),jB 129 (qL 128),jB 130 (qM 12),jB 131 (qM 13),jB 132 (qI 2 130 131),jB 133 (qF 1 132),jB 134 (qL 133),jB 135 (.build [(.int .i64 0),(.bool false)] [(0,(1,(.t 129))),(1,(1,(.t 134)))]),jB 136 (.call (.c (.fn (.func 32) [] [])) [(.t 121),(.t 135)]),jB 11 (qM 136)]))) (
 .region [qm 93 13,jA 94 (qA 93 1),qm 13 94])))))) (
 .region [qm 137 9,qm 138 11,jA 139 (.bslice 1 1 [.nils] [(0,(1,(.t 138)))]),jA 140 (.append 1 24 (.t 137) (.t 139)),qm 9 140]))))) (
 .region [qm 75 10,jA 76 (qA 75 1),qm 10 76])))))) (
 .region [jA 141 (qF 2 6),ql 142 141,qm 143 9,jA 144 (.bslice 1 1 [.nils] [(0,(1,(.t 143)))]),jA 145 (.append 1 24 (.t 142) (.t 144)),jA 146 (qF 2 6),jG 1 146 145])))) (
 .region [qm 68 8,jA 69 (qA 68 1),qm 8 69])))))) (
 .seq (
 .region [jA 147 (qN 3 6),jG 3 2 147]) .ret)))))))))⟩
theorem c15:compFunc Tryz.prog GL [] Tryz.f15=some l15:=by kernel_rfl
def l26:LFunc:=⟨26,[(.tmp 4)],
 (
 .seq (
 .region [jA 4 (qK false)]) (
 .seq (
 .seq (
 .region [qm 6 0,jA 7 (qS 6),qm 8 1,jA 9 (qS 8),jA 10 (.bin .neq (.t 7) (.t 9))]) (.cond (.t 10) (
 .seq (
 .region [jA 4 (qK false)]) .ret) .skip)) (
 .seq (
 .seq (
 .region [jA 5 (qC 0)]) (.block 0 (.loop (
 .seq (
 .seq (
 .region [qm 11 5,qm 12 0,jA 13 (qS 12),jA 14 (qB 11 13)]) (.cond (.t 14) .skip (.exit 0))) (
 .seq (.block 1 (
 .seq (
 .region [jB 17 (qM 0),jB 18 (qM 5),jB 19 (qI 1 17 18),jB 20 (qL 19),jB 21 (qM 1),jB 22 (qM 5),jB 23 (qI 1 21 22),jB 24 (qL 23),jB 25 (.bin .neq (.t 20) (.t 24))]) (.cond (.t 25) (
 .seq (
 .region [jA 4 (qK false)]) .ret) .skip))) (
 .region [qm 15 5,jA 16 (qA 15 1),qm 5 16])))))) (
 .seq (
 .region [jA 4 (qK true)]) .ret))))⟩
theorem c26:compFunc Tryz.prog GL [] Tryz.f26=some l26:=by kernel_rfl
def l27:LFunc:=⟨8,[(.tmp 6)],
 (
 .seq (
 .region [jA 4 (qO 0),jA 5 (qO 1),jA 6 (.mv (.c .nilf))]) (
 .seq (
 .region [jA 7 (.mkfn (.func 28) [] [(.t 2),(.t 4),(.t 5),(.t 3)]),qm 6 7]) .ret))⟩
theorem c27:compFunc Tryz.prog GL [] Tryz.f27=some l27:=by kernel_rfl
def l28:LFunc:=⟨67,[],
 (
 .seq (
 .region [jB 11 (qF 2 1),jB 12 (qL 11),jB 13 (qF 0 2),jB 14 (qL 13),jB 15 (qI 1 12 14),jB 16 (qL 15),jB 17 (qL 3),jB 18 (qI 1 16 17),jB 19 (qL 18),jB 20 (qS 19),jB 21 (qC 0)]) (.block 0 (.loop (
 .seq (
 .region [jA 22 (qB 21 20)]) (
 .seq (.cond (.t 22) .skip (.exit 0)) (
 .seq (.block 1 (
 .seq (
 .region [jA 23 (qI 2 19 21),jA 24 (qN 2 23),jA 7 (.alloc [(.int .i64 0),(.bool false)]),jG 2 7 24]) (
 .seq (
 .region [jB 25 (qF 2 4),jB 26 (qL 25),jB 27 (qF 1 2),jB 28 (qL 27),jB 29 (qI 1 26 28),jB 30 (qL 29),jB 31 (qL 3),jB 32 (qI 1 30 31),jB 33 (qL 32),jB 34 (qS 33),jB 35 (qC 0)]) (.block 2 (.loop (
 .seq (
 .region [jA 36 (qB 35 34)]) (
 .seq (.cond (.t 36) .skip (.exit 2)) (
 .seq (.block 3 (
 .seq (
 .region [jA 37 (qI 2 33 35),jA 38 (qN 2 37),jA 9 (.alloc [(.int .i64 0),(.bool false)]),jG 2 9 38]) (
 .seq (
 .region [jA 39 (qF 2 2),ql 40 39,qm 10 40]) (
 .seq (
 .seq (
 .region [qm 41 10,jA 42 (.bin .eql (.t 41) (.c (.int .i64 0))),qm 43 42,jD 44 (qF 1 7) 43,jD 45 (qL 44) 43,jA 46 (.pick (.t 43) (.t 45) (.c (.bool false)))]) (.cond (.t 46) (
 .region [jA 10 (qC 1)]) .skip)) (
 .seq (
 .seq (
 .region [qm 47 10,jA 48 (.bin .eql (.t 47) (.c (.int .i64 1))),qm 49 48,jD 50 (qF 1 9) 49,jD 51 (qL 50) 49,jA 52 (.pick (.t 49) (.t 51) (.c (.bool false)))]) (.cond (.t 52) (
 .region [jA 10 (qC 2)]) .skip)) (
 .seq (
 .region [qm 53 0,jA 54 (qF 0 7),ql 55 54,jA 56 (qF 0 9),ql 57 56,qm 58 10,jA 59 (.bin .rem (.t 58) (.c (.int .i64 2))),jA 60 (.build [(.int .i64 0),(.int .i64 0),(.int .i64 0)] [(0,(1,(.t 55))),(1,(1,(.t 57))),(2,(1,(.t 59)))]),qm 61 10,jA 62 (.bin .eql (.t 61) (.c (.int .i64 2))),jA 63 (.call (.t 53) [(.t 60),(.t 62)]),jA 64 (.un .not (.t 63))]) (.cond (.t 64) .ret .skip))))))) (
 .region [jA 65 (qA 35 1),qm 35 65]))))))))) (
 .region [jA 66 (qA 21 1),qm 21 66])))))))⟩
theorem c28:compFunc Tryz.prog GL [] Tryz.f28=some l28:=by kernel_rfl
def l29:LFunc:=⟨96,[(.cell 8 (some 3)),(.cell 9 none)],
 (
 .seq (
 .region [jA 6 (qO 2),jA 8 (.alloc [(.int .i64 0), .nils, .nils]),jA 9 (.alloc [(.int .i64 0)])]) (
 .seq (
 .region [jA 22 (.mkmap none),jA 10 (.alloc [.nilm]),jG 1 10 22]) (
 .seq (
 .region [jA 11 (.alloc [.nils])]) (
 .seq (
 .region [jA 23 (.mkfn (.func 74) [] [(.t 10),(.t 11)]),jA 12 (.alloc [.nilf]),jG 1 12 23]) (
 .seq (
 .region [qm 24 0,jA 25 (.build [(.int .i64 0), .nils, .nils] [(0,(1,(.t 24)))]),jA 13 (.alloc [(.int .i64 0), .nils, .nils]),jG 3 13 25]) (
 .seq (
 .seq (
 .region [qm 26 1,jA 27 (qS 26),jA 28 (qC 0)]) (.block 0 (.loop (
 .seq (
 .region [jA 29 (qB 28 27)]) (
 .seq (.cond (.t 29) .skip (.exit 0)) (
 .seq (.block 1 (
 .seq (
 .region [jA 30 (qI 3 26 28),jA 31 (qN 3 30),jA 15 (.alloc [(.int .i64 0),(.int .i64 0),(.int .i64 0)]),jG 3 15 31]) (
 .seq (
 .region [jB 32 (qF 1 13),jB 33 (qL 32),jB 34 (qL 12),jB 35 (qN 3 15),⟨(some 36),(.call (.t 34) [(.t 35)]),none,[(33,(none,(.load none (.t 32))))],true⟩,⟨(some 37),(.bslice 1 1 [(.int .i64 0)] [(0,(1,(.t 36)))]),none,[(33,(none,(.load none (.t 32)))),(34,(none,(.load none (.t 12)))),(35,(none,(.load (some 3) (.t 15))))],true⟩,jB 38 (.append 1 8 (.t 33) (.t 37)),jB 39 (qF 1 13),jH 1 39 38]) (
 .seq (
 .region [ql 40 11,jA 41 (qS 40),ql 42 6,jA 43 (.bin .gtr (.t 41) (.t 42))]) (.cond (.t 43) (
 .seq (
 .region [jA 44 (.build [(.int .i64 0), .nils, .nils] []),jG 3 8 44,⟨none,(.store 1 (.t 9) (.c (.int .i64 2))),none,[],false⟩]) .ret) .skip))))) (
 .region [jA 45 (qA 28 1),qm 28 45]))))))) (
 .seq (
 .seq (
 .region [jA 16 (qC 0)]) (.block 2 (.loop (
 .seq (
 .seq (
 .region [qm 46 16,ql 47 11,jA 48 (qS 47),jA 49 (qB 46 48)]) (.cond (.t 49) .skip (.exit 2))) (
 .seq (.block 3 (
 .seq (
 .region [qm 52 0,jA 53 (.mkslice 1 24 [.nils] (.t 52) (.t 52)),qm 17 53]) (
 .seq (
 .seq (
 .region [qm 54 17,jA 55 (qS 54),jA 56 (qC 0)]) (.block 4 (.loop (
 .seq (
 .region [jA 57 (qB 56 55)]) (
 .seq (.cond (.t 57) .skip (.exit 4)) (
 .seq (.block 5 (
 .seq (
 .region [qm 58 56,qm 18 58]) (
 .seq (
 .region [jA 19 (.alloc [.nils])]) (
 .seq (
 .seq (
 .region [qm 59 3,ql 60 11,qm 61 16,jA 62 (qI 3 60 61),jA 63 (qN 3 62),qm 64 18,jA 65 (.call (.t 59) [(.t 63),(.t 64)])]) (.block 6 (.rangeFunc (.t 65) [66,67] (
 .seq (
 .region [jA 20 (.alloc [(.int .i64 0),(.int .i64 0),(.int .i64 0)]),jG 3 20 66]) (
 .region [qm 21 67])) (.block 7 (
 .seq (
 .region [jB 68 (qL 19),jB 69 (qL 12),jB 70 (qN 3 20),jB 72 (qM 21),⟨(some 71),(.call (.t 69) [(.t 70)]),none,[(68,(none,(.load none (.t 19))))],true⟩,jB 73 (.build [(.int .i64 0),(.bool false)] [(0,(1,(.t 71))),(1,(1,(.t 72)))]),⟨(some 74),(.bslice 2 1 [(.int .i64 0),(.bool false)] [(0,(2,(.t 73)))]),none,[(68,(none,(.load none (.t 19)))),(69,(none,(.load none (.t 12)))),(70,(none,(.load (some 3) (.t 20))))],true⟩,jB 75 (.append 2 16 (.t 68) (.t 74)),jH 1 19 75]) (
 .seq (
 .region [ql 76 11,jA 77 (qS 76),ql 78 6,jA 79 (.bin .gtr (.t 77) (.t 78))]) (.cond (.t 79) (
 .seq (
 .region [jA 80 (.build [(.int .i64 0), .nils, .nils] []),jG 3 8 80,⟨none,(.store 1 (.t 9) (.c (.int .i64 2))),none,[],false⟩]) .ret) .skip))))))) (
 .seq (
 .region [ql 81 19,jA 82 (.call (.c (.fn (.func 75) [] [])) [(.t 81),(.c (.fn (.func 34) [] []))])]) (
 .region [qm 83 17,qm 84 18,ql 85 19,jA 86 (qG 76 85),jA 87 (qI 1 83 84),jG 1 87 86])))))) (
 .region [jA 88 (qA 56 1),qm 56 88]))))))) (
 .region [jA 89 (qF 2 13),ql 90 89,qm 91 17,jA 92 (.bslice 1 1 [.nils] [(0,(1,(.t 91)))]),jA 93 (.append 1 24 (.t 90) (.t 92)),jA 94 (qF 2 13),jG 1 94 93])))) (
 .region [qm 50 16,jA 51 (qA 50 1),qm 16 51])))))) (
 .seq (
 .region [jA 95 (qN 3 13),jG 3 8 95,⟨none,(.store 1 (.t 9) (.c (.int .i64 0))),none,[],false⟩]) .ret))))))))⟩
theorem c29:compFunc Tryz.prog GL [] Tryz.f29=some l29:=by kernel_rfl
def l30:LFunc:=⟨19,[(.tmp 6),(.tmp 7)],
 (
 .seq (
 .region [jA 6 (qC 0),jA 7 (qK false)]) (
 .seq (
 .seq (
 .region [qm 8 0,jA 9 (.bin .eql (.t 8) (.c (.int .i64 0))),qm 10 9,jD 11 (qM 1) 10,jA 12 (.pick (.t 10) (.t 11) (.c (.bool false)))]) (.cond (.t 12) (
 .region [jA 0 (qC 1)]) .skip)) (
 .seq (
 .seq (
 .region [qm 13 0,jA 14 (.bin .eql (.t 13) (.c (.int .i64 1))),qm 15 14,jD 16 (qM 2) 15,jA 17 (.pick (.t 15) (.t 16) (.c (.bool false)))]) (.cond (.t 17) (
 .seq (
 .region [jA 6 (qC 0),jA 7 (qK true)]) .ret) .skip)) (
 .seq (
 .region [qm 18 0,qm 6 18,jA 7 (qK false)]) .ret))))⟩
theorem c30:compFunc Tryz.prog GL [] Tryz.f30=some l30:=by kernel_rfl
def l31:LFunc:=⟨27,[(.tmp 4),(.tmp 5)],
 (
 .seq (
 .region [jA 3 (qO 1),jA 4 (.mv (.c .nils)),jA 5 (qC 0)]) (
 .seq (
 .seq (
 .region [jA 6 (qC 0)]) (.block 0 (.loop (
 .seq (
 .seq (
 .region [qm 7 6,qm 8 0,jA 9 (qS 8),jA 10 (qB 7 9)]) (.cond (.t 10) .skip (.exit 0))) (
 .seq (.block 1 (
 .seq (
 .region [jB 13 (qM 0),jB 14 (qM 6),jB 15 (qI 3 13 14),jB 16 (qN 3 15),jB 17 (qN 3 3),jB 18 (.eq false (.struct [(0,(1, .int)),(1,(1, .int)),(2,(1, .int))]) (.t 16) (.t 17))]) (.cond (.t 18) (
 .seq (
 .region [qm 19 0,qm 20 6,qm 4 19,qm 5 20]) .ret) .skip))) (
 .region [qm 11 6,jA 12 (qA 11 1),qm 6 12])))))) (
 .seq (
 .region [qm 21 0,jA 22 (qN 3 3),jA 23 (.bslice 3 1 [(.int .i64 0),(.int .i64 0),(.int .i64 0)] [(0,(3,(.t 22)))]),jA 24 (.append 3 24 (.t 21) (.t 23)),qm 25 0,jA 26 (qS 25),qm 4 24,qm 5 26]) .ret)))⟩
theorem c31:compFunc Tryz.prog GL [] Tryz.f31=some l31:=by kernel_rfl
def l32:LFunc:=⟨50,[(.tmp 4)],
 (
 .seq (
 .region [jA 3 (qO 1),jA 4 (.mv (.c .nils))]) (
 .seq (
 .region [jA 8 (.bslice 2 0 [(.int .i64 0),(.bool false)] []),qm 5 8]) (
 .seq (
 .region [jA 6 (qK false)]) (
 .seq (
 .seq (
 .region [jA 7 (qC 0)]) (.block 0 (.loop (
 .seq (
 .seq (
 .region [qm 9 7,qm 10 0,jA 11 (qS 10),jA 12 (qB 9 11)]) (.cond (.t 12) .skip (.exit 0))) (
 .seq (.block 1 (
 .seq (
 .seq (
 .region [jB 15 (qM 0),jB 16 (qM 7),jB 17 (qI 2 15 16),jB 18 (qN 2 17),jB 19 (qN 2 3),jB 20 (.eq false (.struct [(0,(1, .int)),(1,(1, .bool))]) (.t 18) (.t 19))]) (.cond (.t 20) (
 .seq (
 .region [qm 21 0,qm 4 21]) .ret) .skip)) (
 .seq (
 .seq (
 .region [jB 22 (qM 6),jB 23 (.un .not (.t 22)),jB 24 (qM 23),jE 25 (qN 2 3) 24,jE 26 (qM 0) 24,jE 27 (qM 7) 24,jE 28 (qI 2 26 27) 24,jE 29 (qN 2 28) 24,jE 30 (.call (.c (.fn (.func 35) [] [])) [(.t 25),(.t 29)]) 24,jB 31 (.pick (.t 24) (.t 30) (.c (.bool false)))]) (.cond (.t 31) (
 .seq (
 .region [qm 32 5,jA 33 (qN 2 3),jA 34 (.bslice 2 1 [(.int .i64 0),(.bool false)] [(0,(2,(.t 33)))]),jA 35 (.append 2 16 (.t 32) (.t 34)),qm 5 35]) (
 .region [jA 6 (qK true)])) .skip)) (
 .region [qm 36 5,qm 37 0,qm 38 7,jA 39 (qI 2 37 38),jA 40 (qN 2 39),jA 41 (.bslice 2 1 [(.int .i64 0),(.bool false)] [(0,(2,(.t 40)))]),jA 42 (.append 2 16 (.t 36) (.t 41)),qm 5 42])))) (
 .region [qm 13 7,jA 14 (qA 13 1),qm 7 14])))))) (
 .seq (
 .seq (
 .region [qm 43 6,jA 44 (.un .not (.t 43))]) (.cond (.t 44) (
 .region [qm 45 5,jA 46 (qN 2 3),jA 47 (.bslice 2 1 [(.int .i64 0),(.bool false)] [(0,(2,(.t 46)))]),jA 48 (.append 2 16 (.t 45) (.t 47)),qm 5 48]) .skip)) (
 .seq (
 .region [qm 49 5,qm 4 49]) .ret))))))⟩
theorem c32:compFunc Tryz.prog GL [] Tryz.f32=some l32:=by kernel_rfl
def l33:LFunc:=⟨13,[(.tmp 3)],
 (
 .seq (
 .region [jA 3 (qK false)]) (
 .seq (
 .region [qm 4 0,jA 5 (.bin .geq (.t 4) (.c (.int .i64 0))),qm 6 5,jD 7 (qM 0) 6,jD 8 (qF 2 1) 6,jD 9 (qL 8) 6,jD 10 (qS 9) 6,jD 11 (qB 7 10) 6,jA 12 (.pick (.t 6) (.t 11) (.c (.bool false))),qm 3 12]) .ret))⟩
theorem c33:compFunc Tryz.prog GL [] Tryz.f33=some l33:=by kernel_rfl
def l34:LFunc:=⟨23,[(.tmp 4)],
 (
 .seq (
 .region [jA 2 (qO 0),jA 3 (qO 1),jA 4 (qC 0)]) (
 .seq (
 .seq (
 .region [jA 6 (qF 0 2),ql 7 6,jA 8 (qF 0 3),ql 9 8,jA 10 (.call (.c (.fn (.func 77) [] [])) [(.t 7),(.t 9)]),qm 5 10]) (
 .seq (
 .region [qm 11 5,jA 12 (.bin .neq (.t 11) (.c (.int .i64 0))),qm 13 12,jC 14 (qF 1 2) 13,jC 15 (qL 14) 13,jC 16 (qF 1 3) 13,jC 17 (qL 16) 13,jC 18 (.eq false .bool (.t 15) (.t 17)) 13,jA 19 (qP 13 18)]) (.cond (.t 19) (
 .seq (
 .region [qm 20 5,qm 4 20]) .ret) .skip))) (
 .seq (
 .seq (
 .region [jA 21 (qF 1 3),ql 22 21]) (.cond (.t 22) (
 .seq (
 .region [jA 4 (.mv (.c (.int .i64 (-1))))]) .ret) .skip)) (
 .seq (
 .region [jA 4 (qC 1)]) .ret))))⟩
theorem c34:compFunc Tryz.prog GL [] Tryz.f34=some l34:=by kernel_rfl
def l35:LFunc:=⟨26,[(.tmp 4)],
 (
 .seq (
 .region [jA 2 (qO 0),jA 3 (qO 1),jA 4 (qK false)]) (
 .seq (
 .region [jA 5 (qF 0 2),ql 6 5,jA 7 (qF 0 3),ql 8 7,jA 9 (qB 6 8),qm 10 9,jC 11 (qF 0 2) 10,jC 12 (qL 11) 10,jC 13 (qF 0 3) 10,jC 14 (qL 13) 10,jC 15 (.bin .eql (.t 12) (.t 14)) 10,jC 16 (qM 15) 10,jD 17 (qF 1 2) 16,jD 18 (qL 17) 16,jD 19 (.un .not (.t 18)) 16,jC 20 (.pick (.t 16) (.t 19) (.c (.bool false))) 10,jC 21 (qM 20) 10,jD 22 (qF 1 3) 21,jD 23 (qL 22) 21,jC 24 (.pick (.t 21) (.t 23) (.c (.bool false))) 10,jA 25 (qP 10 24),qm 4 25]) .ret))⟩
theorem c35:compFunc Tryz.prog GL [] Tryz.f35=some l35:=by kernel_rfl
def l36:LFunc:=⟨26,[(.tmp 4)],
 (
 .seq (
 .region [jA 4 (qK false)]) (
 .seq (
 .seq (
 .region [qm 6 0,jA 7 (qS 6),qm 8 1,jA 9 (qS 8),jA 10 (.bin .neq (.t 7) (.t 9))]) (.cond (.t 10) (
 .seq (
 .region [jA 4 (qK false)]) .ret) .skip)) (
 .seq (
 .seq (
 .region [jA 5 (qC 0)]) (.block 0 (.loop (
 .seq (
 .seq (
 .region [qm 11 5,qm 12 0,jA 13 (qS 12),jA 14 (qB 11 13)]) (.cond (.t 14) .skip (.exit 0))) (
 .seq (.block 1 (
 .seq (
 .region [jB 17 (qM 0),jB 18 (qM 5),jB 19 (qI 2 17 18),jB 20 (qN 2 19),jB 21 (qM 1),jB 22 (qM 5),jB 23 (qI 2 21 22),jB 24 (qN 2 23),jB 25 (.eq true (.struct [(0,(1, .int)),(1,(1, .bool))]) (.t 20) (.t 24))]) (.cond (.t 25) (
 .seq (
 .region [jA 4 (qK false)]) .ret) .skip))) (
 .region [qm 15 5,jA 16 (qA 15 1),qm 5 16])))))) (
 .seq (
 .region [jA 4 (qK true)]) .ret))))⟩
theorem c36:compFunc Tryz.prog GL [] Tryz.f36=some l36:=by kernel_rfl
def l37:LFunc:=⟨78,[],
 (
 .seq (
 .region [jA 3 (qO 0)]) (
 .seq (
 .seq (
 .region [jA 14 (qF 1 3),ql 15 14,jA 16 (qS 15),jA 17 (qC 0)]) (.block 0 (.loop (
 .seq (
 .region [jA 18 (qB 17 16)]) (
 .seq (.cond (.t 18) .skip (.exit 0)) (
 .seq (.block 1 (
 .seq (
 .region [jA 19 (qI 1 15 17),ql 20 19,qm 6 20]) (
 .region [jA 21 (qF 1 2),ql 22 21,qm 23 6,qm 24 1,jA 25 (.bin .add (.t 23) (.t 24)),jA 26 (.bslice 1 1 [(.int .i64 0)] [(0,(1,(.t 25)))]),jA 27 (.append 1 8 (.t 22) (.t 26)),jA 28 (qF 1 2),jG 1 28 27]))) (
 .region [jA 29 (qA 17 1),qm 17 29]))))))) (
 .seq (
 .region [jA 30 (qF 2 3),ql 31 30,jA 32 (qS 31),jA 33 (qC 0)]) (.block 2 (.loop (
 .seq (
 .region [jA 34 (qB 33 32)]) (
 .seq (.cond (.t 34) .skip (.exit 2)) (
 .seq (.block 3 (
 .seq (
 .region [jA 35 (qI 1 31 33),ql 36 35,qm 8 36]) (
 .seq (
 .region [qm 37 8,jA 38 (qS 37),jA 39 (.mkslice 1 24 [.nils] (.t 38) (.t 38)),qm 9 39]) (
 .seq (
 .seq (
 .region [qm 40 8,jA 41 (qS 40),jA 42 (qC 0)]) (.block 4 (.loop (
 .seq (
 .region [jA 43 (qB 42 41)]) (
 .seq (.cond (.t 43) .skip (.exit 4)) (
 .seq (.block 5 (
 .seq (
 .region [qm 44 42,jA 45 (qI 1 40 42),ql 46 45,qm 10 44,qm 11 46]) (
 .seq (
 .region [qm 47 11,jA 48 (qS 47),jA 49 (qC 0)]) (.block 6 (.loop (
 .seq (
 .region [jA 50 (qB 49 48)]) (
 .seq (.cond (.t 50) .skip (.exit 6)) (
 .seq (.block 7 (
 .seq (
 .region [jA 51 (qI 2 47 49),jA 52 (qN 2 51),jA 13 (.alloc [(.int .i64 0),(.bool false)]),jG 2 13 52]) (
 .region [jB 53 (qM 9),jB 54 (qM 10),jB 55 (qM 9),jB 56 (qM 10),jB 57 (qI 1 55 56),jB 58 (qL 57),jB 59 (qF 0 13),jB 60 (qL 59),jB 61 (qM 1),jB 62 (.bin .add (.t 60) (.t 61)),jB 63 (qF 1 13),jB 64 (qL 63),jB 65 (.build [(.int .i64 0),(.bool false)] [(0,(1,(.t 62))),(1,(1,(.t 64)))]),⟨(some 66),(.bslice 2 1 [(.int .i64 0),(.bool false)] [(0,(2,(.t 65)))]),none,[(58,(none,(.load none (.t 57)))),(60,(none,(.load none (.t 59)))),(64,(none,(.load none (.t 63))))],true⟩,jB 67 (.append 2 16 (.t 58) (.t 66)),jB 68 (qI 1 53 54),jH 1 68 67]))) (
 .region [jA 69 (qA 49 1),qm 49 69]))))))))) (
 .region [jA 70 (qA 42 1),qm 42 70]))))))) (
 .region [jA 71 (qF 2 2),ql 72 71,qm 73 9,jA 74 (.bslice 1 1 [.nils] [(0,(1,(.t 73)))]),jA 75 (.append 1 24 (.t 72) (.t 74)),jA 76 (qF 2 2),jG 1 76 75]))))) (
 .region [jA 77 (qA 33 1),qm 33 77])))))))))⟩
theorem c37:compFunc Tryz.prog GL [] Tryz.f37=some l37:=by kernel_rfl
def l38:LFunc:=⟨7,[(.tmp 5)],
 (
 .seq (
 .region [jA 3 (qO 0),jA 4 (qO 1),jA 5 (.mv (.c .nilf))]) (
 .seq (
 .region [jA 6 (.mkfn (.func 39) [] [(.t 2),(.t 3),(.t 4)]),qm 5 6]) .ret))⟩
theorem c38:compFunc Tryz.prog GL [] Tryz.f38=some l38:=by kernel_rfl
def l39:LFunc:=⟨28,[],
 (
 .seq (
 .region [jB 7 (qF 2 1),jB 8 (qL 7),jB 9 (qL 2),jB 10 (qI 1 8 9),jB 11 (qL 10),jB 12 (qL 3),jB 13 (qI 1 11 12),jB 14 (qL 13),jB 15 (qS 14),jB 16 (qC 0)]) (.block 0 (.loop (
 .seq (
 .region [jA 17 (qB 16 15)]) (
 .seq (.cond (.t 17) .skip (.exit 0)) (
 .seq (.block 1 (
 .seq (
 .region [jA 18 (qI 2 14 16),jA 19 (qN 2 18),jA 6 (.alloc [(.int .i64 0),(.bool false)]),jG 2 6 19]) (
 .seq (
 .region [qm 20 0,jA 21 (qF 0 6),ql 22 21,jA 23 (qF 1 6),ql 24 23,jA 25 (.call (.t 20) [(.t 22),(.t 24)]),jA 26 (.un .not (.t 25))]) (.cond (.t 26) .ret .skip)))) (
 .region [jA 27 (qA 16 1),qm 16 27])))))))⟩
theorem c39:compFunc Tryz.prog GL [] Tryz.f39=some l39:=by kernel_rfl
def l40:LFunc:=⟨96,[(.cell 8 (some 3)),(.cell 9 none)],
 (
 .seq (
 .region [jA 6 (qO 2),jA 8 (.alloc [(.int .i64 0), .nils, .nils]),jA 9 (.alloc [(.int .i64 0)])]) (
 .seq (
 .region [jA 22 (.mkmap none),jA 10 (.alloc [.nilm]),jG 1 10 22]) (
 .seq (
 .region [jA 11 (.alloc [.nils])]) (
 .seq (
 .region [jA 23 (.mkfn (.func 78) [] [(.t 10),(.t 11)]),jA 12 (.alloc [.nilf]),jG 1 12 23]) (
 .seq (
 .region [qm 24 0,jA 25 (.build [(.int .i64 0), .nils, .nils] [(0,(1,(.t 24)))]),jA 13 (.alloc [(.int .i64 0), .nils, .nils]),jG 3 13 25]) (
 .seq (
 .seq (
 .region [qm 26 1,jA 27 (qS 26),jA 28 (qC 0)]) (.block 0 (.loop (
 .seq (
 .region [jA 29 (qB 28 27)]) (
 .seq (.cond (.t 29) .skip (.exit 0)) (
 .seq (.block 1 (
 .seq (
 .region [jA 30 (qI 1 26 28),ql 31 30,qm 15 31]) (
 .seq (
 .region [jB 32 (qF 1 13),jB 33 (qL 32),jB 34 (qL 12),jB 35 (qM 15),⟨(some 36),(.call (.t 34) [(.t 35)]),none,[(33,(none,(.load none (.t 32))))],true⟩,⟨(some 37),(.bslice 1 1 [(.int .i64 0)] [(0,(1,(.t 36)))]),none,[(33,(none,(.load none (.t 32)))),(34,(none,(.load none (.t 12))))],true⟩,jB 38 (.append 1 8 (.t 33) (.t 37)),jB 39 (qF 1 13),jH 1 39 38]) (
 .seq (
 .region [ql 40 11,jA 41 (qS 40),ql 42 6,jA 43 (.bin .gtr (.t 41) (.t 42))]) (.cond (.t 43) (
 .seq (
 .region [jA 44 (.build [(.int .i64 0), .nils, .nils] []),jG 3 8 44,⟨none,(.store 1 (.t 9) (.c (.int .i64 2))),none,[],false⟩]) .ret) .skip))))) (
 .region [jA 45 (qA 28 1),qm 28 45]))))))) (
 .seq (
 .seq (
 .region [jA 16 (qC 0)]) (.block 2 (.loop (
 .seq (
 .seq (
 .region [qm 46 16,ql 47 11,jA 48 (qS 47),jA 49 (qB 46 48)]) (.cond (.t 49) .skip (.exit 2))) (
 .seq (.block 3 (
 .seq (
 .region [qm 52 0,jA 53 (.mkslice 1 24 [.nils] (.t 52) (.t 52)),qm 17 53]) (
 .seq (
 .seq (
 .region [qm 54 17,jA 55 (qS 54),jA 56 (qC 0)]) (.block 4 (.loop (
 .seq (
 .region [jA 57 (qB 56 55)]) (
 .seq (.cond (.t 57) .skip (.exit 4)) (
 .seq (.block 5 (
 .seq (
 .region [qm 58 56,qm 18 58]) (
 .seq (
 .region [jA 19 (.alloc [.nils])]) (
 .seq (
 .seq (
 .region [qm 59 3,ql 60 11,qm 61 16,jA 62 (qI 1 60 61),ql 63 62,qm 64 18,jA 65 (.call (.t 59) [(.t 63),(.t 64)])]) (.block 6 (.rangeFunc (.t 65) [66,67] (
 .seq (
 .region [qm 20 66]) (
 .region [qm 21 67])) (.block 7 (
 .seq (
 .region [jB 68 (qL 19),jB 69 (qL 12),jB 70 (qM 20),jB 72 (qM 21),⟨(some 71),(.call (.t 69) [(.t 70)]),none,[(68,(none,(.load none (.t 19))))],true⟩,jB 73 (.build [(.int .i64 0),(.bool false)] [(0,(1,(.t 71))),(1,(1,(.t 72)))]),⟨(some 74),(.bslice 2 1 [(.int .i64 0),(.bool false)] [(0,(2,(.t 73)))]),none,[(68,(none,(.load none (.t 19)))),(69,(none,(.load none (.t 12))))],true⟩,jB 75 (.append 2 16 (.t 68) (.t 74)),jH 1 19 75]) (
 .seq (
 .region [ql 76 11,jA 77 (qS 76),ql 78 6,jA 79 (.bin .gtr (.t 77) (.t 78))]) (.cond (.t 79) (
 .seq (
 .region [jA 80 (.build [(.int .i64 0), .nils, .nils] []),jG 3 8 80,⟨none,(.store 1 (.t 9) (.c (.int .i64 2))),none,[],false⟩]) .ret) .skip))))))) (
 .seq (
 .region [ql 81 19,jA 82 (.call (.c (.fn (.func 75) [] [])) [(.t 81),(.c (.fn (.func 34) [] []))])]) (
 .region [qm 83 17,qm 84 18,ql 85 19,jA 86 (qG 76 85),jA 87 (qI 1 83 84),jG 1 87 86])))))) (
 .region [jA 88 (qA 56 1),qm 56 88]))))))) (
 .region [jA 89 (qF 2 13),ql 90 89,qm 91 17,jA 92 (.bslice 1 1 [.nils] [(0,(1,(.t 91)))]),jA 93 (.append 1 24 (.t 90) (.t 92)),jA 94 (qF 2 13),jG 1 94 93])))) (
 .region [qm 50 16,jA 51 (qA 50 1),qm 16 51])))))) (
 .seq (
 .region [jA 95 (qN 3 13),jG 3 8 95,⟨none,(.store 1 (.t 9) (.c (.int .i64 0))),none,[],false⟩]) .ret))))))))⟩
theorem c40:compFunc Tryz.prog GL [] Tryz.f40=some l40:=by kernel_rfl
def l74:LFunc:=⟨25,[(.tmp 4)],
 (
 .seq (
 .region [jA 3 (qO 0),jA 4 (qC 0)]) (
 .seq (
 .region [ql 8 1,jA 9 (qN 3 3),jA 10 (.mlook (.st [(0,(1, .int)),(1,(1, .int)),(2,(1, .int))]) (.int .i64 0) true (.t 8) (.t 9)),qm 7 10,jA 11 (.ext (.t 7) 0),jA 12 (.ext (.t 7) 1),qm 5 11,qm 6 12]) (
 .seq (
 .seq (
 .region [qm 13 6,jA 14 (.un .not (.t 13))]) (.cond (.t 14) (
 .seq (
 .region [ql 15 2,jA 16 (qS 15),qm 5 16]) (
 .seq (
 .region [ql 17 1,jA 18 (qN 3 3),qm 19 5,⟨none,(.mupd (.st [(0,(1, .int)),(1,(1, .int)),(2,(1, .int))]) (.t 17) (.t 18) (.t 19)),none,[],false⟩]) (
 .region [ql 20 2,jA 21 (qN 3 3),jA 22 (.bslice 3 1 [(.int .i64 0),(.int .i64 0),(.int .i64 0)] [(0,(3,(.t 21)))]),jA 23 (.append 3 24 (.t 20) (.t 22)),jG 1 2 23]))) .skip)) (
 .seq (
 .region [qm 24 5,qm 4 24]) .ret))))⟩
theorem c74:compFunc Tryz.prog GL [] Tryz.f74=some l74:=by kernel_rfl
def l76:LFunc:=⟨61,[(.tmp 2)],
 (
 .seq (
 .region [jA 2 (.mv (.c .nils))]) (
 .seq (
 .seq (
 .region [qm 6 0,jA 7 (qS 6),jA 8 (.bin .lss (.t 7) (.c (.int .i64 2)))]) (.cond (.t 8) (
 .seq (
 .region [qm 9 0,qm 2 9]) .ret) .skip)) (
 .seq (
 .seq (
 .region [jA 3 (qC 1)]) (.block 0 (.loop (
 .seq (
 .seq (
 .region [qm 10 3,qm 11 0,jA 12 (qS 11),jA 13 (qB 10 12)]) (.cond (.t 13) .skip (.exit 0))) (
 .seq (.block 1 (
 .seq (
 .region [jB 16 (qM 0),jB 17 (qM 3),jB 18 (qI 2 16 17),jB 19 (qN 2 18),jB 20 (qM 0),jB 21 (qM 3),jB 22 (.bin .sub (.t 21) (.c (.int .i64 1))),jB 23 (qI 2 20 22),jB 24 (qN 2 23),jB 25 (.eq false (.struct [(0,(1, .int)),(1,(1, .bool))]) (.t 19) (.t 24))]) (.cond (.t 25) (
 .seq (
 .region [qm 26 0,qm 27 3,jA 28 (.slice 2 (.t 26) (some (.t 27)) none),qm 4 28]) (
 .seq (
 .seq (
 .region [jA 5 (qC 1)]) (.block 2 (.loop (
 .seq (
 .seq (
 .region [qm 29 5,qm 30 4,jA 31 (qS 30),jA 32 (qB 29 31)]) (.cond (.t 32) .skip (.exit 2))) (
 .seq (.block 3 (
 .seq (
 .region [jB 35 (qM 4),jB 36 (qM 5),jB 37 (qI 2 35 36),jB 38 (qN 2 37),jB 39 (qM 4),jB 40 (qM 5),jB 41 (.bin .sub (.t 40) (.c (.int .i64 1))),jB 42 (qI 2 39 41),jB 43 (qN 2 42),jB 44 (.eq true (.struct [(0,(1, .int)),(1,(1, .bool))]) (.t 38) (.t 43))]) (.cond (.t 44) (
 .seq (
 .region [qm 45 0,qm 46 3,qm 47 4,qm 48 5,jA 49 (qI 2 47 48),jA 50 (qN 2 49),jA 51 (qI 2 45 46),jG 2 51 50]) (
 .region [qm 52 3,jA 53 (qA 52 1),qm 3 53])) .skip))) (
 .region [qm 33 5,jA 34 (qA 33 1),qm 5 34])))))) (
 .seq (
 .region [qm 54 0,qm 55 3,jA 56 (.slice 2 (.t 54) (some (.t 55)) none),⟨none,(.clr 2 [(.int .i64 0),(.bool false)] (.t 56)),none,[],false⟩]) (
 .seq (
 .region [qm 57 0,qm 58 3,jA 59 (.slice 2 (.t 57) none (some (.t 58))),qm 2 59]) .ret)))) .skip))) (
 .region [qm 14 3,jA 15 (qA 14 1),qm 3 15])))))) (
 .seq (
 .region [qm 60 0,qm 2 60]) .ret))))⟩
theorem c76:compFunc Tryz.prog GL [] Tryz.f76=some l76:=by kernel_rfl
def l77:LFunc:=⟨20,[(.tmp 4)],
 (
 .seq (
 .region [jA 4 (qC 0)]) (
 .seq (
 .region [qm 7 0,jA 8 (qG 116 7),qm 5 8]) (
 .seq (
 .region [qm 9 1,jA 10 (qG 116 9),qm 6 10]) (
 .seq (
 .seq (
 .region [qm 11 5]) (.cond (.t 11) (
 .seq (
 .seq (
 .region [qm 12 6]) (.cond (.t 12) (
 .seq (
 .region [jA 4 (qC 0)]) .ret) .skip)) (
 .seq (
 .region [jA 4 (.mv (.c (.int .i64 (-1))))]) .ret)) .skip)) (
 .seq (
 .seq (
 .region [qm 13 6]) (.cond (.t 13) (
 .seq (
 .region [jA 4 (qC 1)]) .ret) .skip)) (
 .seq (
 .seq (
 .region [qm 14 0,qm 15 1,jA 16 (qB 14 15)]) (.cond (.t 16) (
 .seq (
 .region [jA 4 (.mv (.c (.int .i64 (-1))))]) .ret) .skip)) (
 .seq (
 .seq (
 .region [qm 17 0,qm 18 1,jA 19 (.bin .gtr (.t 17) (.t 18))]) (.cond (.t 19) (
 .seq (
 .region [jA 4 (qC 1)]) .ret) .skip)) (
 .seq (
 .region [jA 4 (qC 0)]) .ret))))))))⟩
theorem c77:compFunc Tryz.prog GL [] Tryz.f77=some l77:=by kernel_rfl
def l78:LFunc:=⟨25,[(.tmp 4)],
 (
 .seq (
 .region [jA 4 (qC 0)]) (
 .seq (
 .region [ql 8 1,qm 9 0,jA 10 (.mlook (.int .i64) (.int .i64 0) true (.t 8) (.t 9)),qm 7 10,jA 11 (.ext (.t 7) 0),jA 12 (.ext (.t 7) 1),qm 5 11,qm 6 12]) (
 .seq (
 .seq (
 .region [qm 13 6,jA 14 (.un .not (.t 13))]) (.cond (.t 14) (
 .seq (
 .region [ql 15 2,jA 16 (qS 15),qm 5 16]) (
 .seq (
 .region [ql 17 1,qm 18 0,qm 19 5,⟨none,(.mupd (.int .i64) (.t 17) (.t 18) (.t 19)),none,[],false⟩]) (
 .region [ql 20 2,qm 21 0,jA 22 (.bslice 1 1 [(.int .i64 0)] [(0,(1,(.t 21)))]),jA 23 (.append 1 8 (.t 20) (.t 22)),jG 1 2 23]))) .skip)) (
 .seq (
 .region [qm 24 5,qm 4 24]) .ret))))⟩
theorem c78:compFunc Tryz.prog GL [] Tryz.f78=some l78:=by kernel_rfl
def l116:LFunc:=⟨6,[(.tmp 2)],
 (
 .seq (
 .region [jA 2 (qK false)]) (
 .seq (
 .region [qm 3 0,qm 4 0,jA 5 (.bin .neq (.t 3) (.t 4)),qm 2 5]) .ret))⟩
theorem c116:compFunc Tryz.prog GL [] Tryz.f116=some l116:=by kernel_rfl
end Go.Proofs.YtgobbogomchnhaaGreatDoor
