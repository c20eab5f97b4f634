/- Plain forms of functions, by program. -/
import Derived.Test.YtkbiecjdcjfhaaaGreatProg
import Derived.Test.YtkbiecjdcjfhaaaGreatPvComp
import Derived.Test.YtkbiecjdcjfhaaaGreatGl
import Derived.KernelRfl
set_option linter.unusedSimpArgs false
set_option linter.unusedVariables false
set_option maxRecDepth 100000
set_option maxHeartbeats 16000000
namespace Go.Proofs.YtkbiecjdcjfhaaaGreat
open Go Go.Pv
def l3:bh:=⟨79,[(.tmp 8)],
 (
 qR [jA 4 (qO 0),jA 6 (qO 2),jA 7 (qO 3),jA 8 (qK false)] (
 qR [jA 14 (.call (.c (.fn (.func 4) [] [])) []),qm 9 14] (
 .seq (
 qR [jA 15 (qN 3 4),jA 16 (qG 5 15),jA 17 (qT 16),qm 18 17,jC 19 (qN 4 6) 18,jC 20 (qG 6 19) 18,jC 21 (qT 20) 18,jA 22 (qP 18 21),qm 23 22,jC 24 (qN 2 7) 23,jC 25 (qG 7 24) 23,jC 26 (qT 25) 23,jA 27 (qP 23 26)] (.cond (.t 27) (
 .seq (
 .region [qm 28 9,qm 8 28]) .ret) .skip)) (
 qR [jA 30 (qN 3 4),qm 31 1,jA 32 (.k9 .i64 (.t 31)),jA 33 (.bin .rem (.t 32) (.c (.int .i64 151))),jA 34 (.call (.c (.fn (.func 8) [] [])) [(.t 30),(.t 33)]),qm 29 34,jA 35 (qD 29 0),jA 36 (qD 29 1),jA 10 (.alloc [(.int .i64 0),(.int .i64 0), .aq, .aq]),jG 4 10 35,qm 11 36] (
 qR [jA 38 (qN 3 4),qm 39 1,jA 40 (.k9 .i64 (.t 39)),jA 41 (.bin .rem (.t 40) (.c (.int .i64 151))),jA 42 (.call (.c (.fn (.func 9) [] [])) [(.t 38),(.t 41)]),qm 37 42,jA 43 (qD 37 0),jA 44 (qD 37 1),jA 12 (.alloc [(.int .i64 0),(.int .i64 0), .aq, .aq]),jG 4 12 43,qm 13 44] (
 .seq (
 .region [jB 45 (qM 9),jB 46 (qM 45),jE 47 (qM 11) 46,jE 48 (qM 13) 46,jE 49 (.bin .eql (.t 47) (.t 48)) 46,jB 50 (qV 46 49),jB 51 (qM 50),jE 52 (qN 4 10) 51,jE 53 (qN 4 12) 51,jE 54 (.call (.c (.fn (.func 10) [] [])) [(.t 52),(.t 53)]) 51,jB 55 (qV 51 54),jB 56 (qM 55),jE 57 (qN 4 6) 56,jE 59 (qN 4 6) 56,⟨(some 58),(.call (.c (.fn (.func 11) [] [])) [(.t 57)]),(some (56,true)),[(59,((some (56,true)),(.load (some 4) (.t 6))))],true⟩,jE 60 (qG 12 59) 56,jE 61 (.eq false .bool (.t 58) (.t 60)) 56,jB 62 (qV 56 61),jB 63 (qM 62),jE 64 (qN 4 6) 63,jE 65 (qN 2 7) 63,jE 67 (qN 4 6) 63,jE 68 (qN 2 7) 63,⟨(some 66),(.call (.c (.fn (.func 13) [] [])) [(.t 64),(.t 65)]),(some (63,true)),[(67,((some (63,true)),(.load (some 4) (.t 6)))),(68,((some (63,true)),(.load (some 2) (.t 7))))],true⟩,jE 69 (.call (.c (.fn (.func 14) [] [])) [(.t 67),(.t 68)]) 63,jE 70 (.eq false .bool (.t 66) (.t 69)) 63,jB 71 (qV 63 70),jB 72 (qM 71),jE 73 (qN 4 6) 72,jE 75 (qN 4 6) 72,⟨(some 74),(.call (.c (.fn (.func 15) [] [])) [(.t 73)]),(some (72,true)),[(75,((some (72,true)),(.load (some 4) (.t 6))))],true⟩,jE 76 (qG 16 75) 72,jE 77 (.call (.c (.fn (.func 10) [] [])) [(.t 74),(.t 76)]) 72,jB 78 (qV 72 77),jB 8 (qM 78)]) .ret))))))⟩
theorem c3:aL Tryz.prog GL [] Tryz.f3=some l3:=by kernel_rfl
def l5:bh:=⟨54,[(.tmp 2)],
 (
 qR [jA 1 (qO 0),jA 2 (qK false)] (
 .seq (
 qR [jA 5 (qF 0 1),ql 6 5,jA 7 (qU 6 20),qm 8 7,jC 9 (qF 1 1) 8,jC 10 (qL 9) 8,jC 11 (qS 10) 8,jC 12 (qU 11 20) 8,jA 13 (qP 8 12),qm 14 13,jC 15 (qF 2 1) 14,jC 16 (qL 15) 14,jC 17 (qS 16) 14,jC 18 (qU 17 10) 14,jA 19 (qP 14 18)] (.cond (.t 19) (
 .seq (
 .region [jA 2 (qK false)]) .ret) .skip)) (
 .seq (
 qR [jA 3 (qC 0)] (.block 0 (.loop (
 .seq (
 qR [qm 20 3,jA 21 (qF 2 1),ql 22 21,jA 23 (qS 22),jA 24 (qB 20 23)] (.cond (.t 24) .skip (.exit 0))) (
 .seq (.block 1 (
 .seq (
 qR [jA 27 (qF 2 1),ql 28 27,qm 29 3,jA 30 (qI 1 28 29),ql 31 30,jA 32 (qS 31),jA 33 (qU 32 20)] (.cond (.t 33) (
 .seq (
 .region [jA 2 (qK false)]) .ret) .skip)) (
 qR [jA 4 (qC 0)] (.block 2 (.loop (
 .seq (
 qR [qm 34 4,jA 35 (qF 2 1),ql 36 35,qm 37 3,jA 38 (qI 1 36 37),ql 39 38,jA 40 (qS 39),jA 41 (qB 34 40)] (.cond (.t 41) .skip (.exit 2))) (
 .seq (.block 3 (
 qR [jA 44 (qF 2 1),ql 45 44,qm 46 3,jA 47 (qI 1 45 46),ql 48 47,qm 49 4,jA 50 (qI 1 48 49),ql 51 50,jA 52 (qS 51),jA 53 (qU 52 20)] (.cond (.t 53) (
 .seq (
 .region [jA 2 (qK false)]) .ret) .skip))) (
 .region [qm 42 4,jA 43 (qA 42 1),qm 4 43])))))))) (
 .region [qm 25 3,jA 26 (qA 25 1),qm 3 26])))))) (
 .seq (
 .region [jA 2 (qK true)]) .ret))))⟩
theorem c5:aL Tryz.prog GL [] Tryz.f5=some l5:=by kernel_rfl
def l6:bh:=⟨43,[(.tmp 2)],
 (
 qR [jA 1 (qO 0),jA 2 (qK false)] (
 .seq (
 qR [jA 5 (qF 2 1),ql 6 5,jA 7 (qS 6),jA 8 (qU 7 60),qm 9 8,jC 10 (qF 3 1) 9,jC 11 (qL 10) 9,jC 12 (qS 11) 9,jC 13 (qU 12 60) 9,jA 14 (qP 9 13)] (.cond (.t 14) (
 .seq (
 .region [jA 2 (qK false)]) .ret) .skip)) (
 .seq (
 qR [jA 3 (qC 0)] (.block 0 (.loop (
 .seq (
 qR [qm 15 3,jA 16 (qF 2 1),ql 17 16,jA 18 (qS 17),jA 19 (qB 15 18)] (.cond (.t 19) .skip (.exit 0))) (
 .seq (.block 1 (
 qR [jA 22 (qF 2 1),ql 23 22,qm 24 3,jA 25 (qI 1 23 24),ql 26 25,jA 27 (qS 26),jA 28 (qU 27 16)] (.cond (.t 28) (
 .seq (
 .region [jA 2 (qK false)]) .ret) .skip))) (
 .region [qm 20 3,jA 21 (qA 20 1),qm 3 21])))))) (
 .seq (
 qR [jA 4 (qC 0)] (.block 2 (.loop (
 .seq (
 qR [qm 29 4,jA 30 (qF 3 1),ql 31 30,jA 32 (qS 31),jA 33 (qB 29 32)] (.cond (.t 33) .skip (.exit 2))) (
 .seq (.block 3 (
 qR [jA 36 (qF 3 1),ql 37 36,qm 38 4,jA 39 (qI 1 37 38),ql 40 39,jA 41 (qS 40),jA 42 (qU 41 16)] (.cond (.t 42) (
 .seq (
 .region [jA 2 (qK false)]) .ret) .skip))) (
 .region [qm 34 4,jA 35 (qA 34 1),qm 4 35])))))) (
 .seq (
 .region [jA 2 (qK true)]) .ret)))))⟩
theorem c6:aL Tryz.prog GL [] Tryz.f6=some l6:=by kernel_rfl
def l7:bh:=⟨13,[(.tmp 2)],
 (
 qR [jA 1 (qO 0),jA 2 (qK false)] (
 .seq (
 .region [jA 3 (qF 0 1),ql 4 3,jA 5 (qS 4),jA 6 (.bin .leq (.t 5) (.c (.int .i64 80))),qm 7 6,jD 8 (qF 1 1) 7,jD 9 (qL 8) 7,jD 10 (qS 9) 7,jD 11 (.bin .leq (.t 10) (.c (.int .i64 80))) 7,jA 12 (qV 7 11),qm 2 12]) .ret))⟩
theorem c7:aL Tryz.prog GL [] Tryz.f7=some l7:=by kernel_rfl
def l8:bh:=⟨53,[(.cell 4 (some 4)),(.tmp 5)],
 (
 qR [jA 2 (qO 0),jA 4 (.alloc [(.int .i64 0),(.int .i64 0), .aq, .aq]),jA 5 (qC 0)] (
 .seq (
 qR [jA 10 (qN 3 2),jA 11 (qG 18 10),jA 12 (qT 11),qm 13 12,jC 14 (qM 1) 13,jC 15 (qW 14 1) 13,jA 16 (qP 13 15),qm 17 16,jC 18 (qM 1) 17,jC 19 (qU 18 3000) 17,jA 20 (qP 17 19)] (.cond (.t 20) (
 .seq (
 .region [jA 21 (.build [(.int .i64 0),(.int .i64 0), .aq, .aq] []),jG 4 4 21,jA 5 (qC 1)]) .ret) .skip)) (
 qR [jA 22 (qF 0 2),ql 23 22,jA 24 (.build [(.int .i64 0),(.int .i64 0), .aq, .aq] [(0,(1,(.t 23)))]),jA 6 (.alloc [(.int .i64 0),(.int .i64 0), .aq, .aq]),jG 4 6 24] (
 qR [jA 25 (qN 3 2),qm 26 1,jA 27 (.call (.c (.fn (.func 23) [] [])) [(.t 25),(.t 26)]),qm 7 27] (
 .seq (
 qR [qm 28 7,jA 29 (qG 24 28)] (.block 0 (.rangeFunc (.t 29) [30,31] (
 qR [qm 8 30] (
 .region [qm 9 31])) (.block 1 (
 qR [jA 32 (qF 2 6),ql 33 32,qm 34 8,jA 35 (.bu 1 1 [.aq] [(0,(1,(.t 34)))]),jA 36 (qJ 1 24 33 35),jA 37 (qF 2 6),jG 1 37 36] (
 .region [jA 38 (qF 3 6),ql 39 38,qm 40 9,jA 41 (.bu 1 1 [.aq] [(0,(1,(.t 40)))]),jA 42 (qJ 1 24 39 41),jA 43 (qF 3 6),jG 1 43 42])))))) (
 .seq (
 qR [qm 44 7,jA 45 (qY 44),jA 46 (qF 7 45),ql 47 46,jA 48 (qS 47),qm 49 1,jA 50 (.bin .gtr (.t 48) (.t 49))] (.cond (.t 50) (
 .seq (
 .region [jA 51 (.build [(.int .i64 0),(.int .i64 0), .aq, .aq] []),jG 4 4 51,jA 5 (qC 2)]) .ret) .skip)) (
 .seq (
 .region [jA 52 (qN 4 6),jG 4 4 52,jA 5 (qC 0)]) .ret)))))))⟩
theorem c8:aL Tryz.prog GL [] Tryz.f8=some l8:=by kernel_rfl
def l9:bh:=⟨108,[(.cell 4 (some 4)),(.tmp 5)],
 (
 qR [jA 2 (qO 0),jA 4 (.alloc [(.int .i64 0),(.int .i64 0), .aq, .aq]),jA 5 (qC 0)] (
 .seq (
 qR [jA 18 (qN 3 2),jA 19 (qG 25 18),jA 20 (qT 19),qm 21 20,jC 22 (qM 1) 21,jC 23 (qW 22 1) 21,jA 24 (qP 21 23),qm 25 24,jC 26 (qM 1) 25,jC 27 (qU 26 3000) 25,jA 28 (qP 25 27)] (.cond (.t 28) (
 .seq (
 .region [jA 29 (.build [(.int .i64 0),(.int .i64 0), .aq, .aq] []),jG 4 4 29,jA 5 (qC 1)]) .ret) .skip)) (
 qR [jB 30 (qN 3 2),jB 32 (qN 3 2),⟨(some 31),(.call (.c (.fn (.func 26) [] [])) [(.t 30)]),none,[(32,(none,(.load (some 3) (.t 2))))],true⟩,jB 33 (qG 28 32),jB 34 (qG 27 33),jB 35 (.build [.aq, .aq] [(0,(1,(.t 31))),(1,(1,(.t 34)))]),⟨(some 36),(.bu 2 1 [.aq, .aq] [(0,(2,(.t 35)))]),none,[(30,(none,(.load (some 3) (.t 2)))),(32,(none,(.load (some 3) (.t 2))))],true⟩,jB 6 (qM 36)] (
 qR [jA 37 (qF 0 2),ql 38 37,jA 39 (.build [(.int .i64 0),(.int .i64 0), .aq, .aq] [(0,(1,(.t 38)))]),jA 7 (.alloc [(.int .i64 0),(.int .i64 0), .aq, .aq]),jG 4 7 39] (
 .seq (
 qR [jA 8 (qC 0)] (.block 0 (.loop (
 .seq (
 qR [qm 40 8,qm 41 6,jA 42 (qS 41),jA 43 (qB 40 42)] (.cond (.t 43) .skip (.exit 0))) (
 .seq (.block 1 (
 qR [jA 9 (qX)] (
 qR [jA 10 (qX)] (
 .seq (
 qR [jA 11 (qC 0)] (.block 2 (.loop (
 .seq (
 qR [qm 46 11,jA 47 (qF 0 2),ql 48 47,jA 49 (qB 46 48)] (.cond (.t 49) .skip (.exit 2))) (
 .seq (.block 3 (
 qR [jB 53 (qN 3 2),jB 54 (qM 6),jB 55 (qM 8),jB 56 (qI 2 54 55),jB 57 (qF 0 56),jB 58 (qL 57),jB 59 (qM 11),⟨(some 13),(.alloc [.aq, .aq]),none,[(53,(none,(.load (some 3) (.t 2)))),(58,(none,(.load none (.t 57))))],true⟩,jB 60 (.call (.c (.fn (.func 29) [] [])) [(.t 53),(.t 58),(.t 59)]),jB 52 (qM 60),jB 61 (qD 52 0),jB 62 (qD 52 1),jB 12 (qM 61),jH 2 13 62] (
 qR [jB 64 (qM 6),jB 65 (qM 8),jB 66 (qI 2 64 65),jB 67 (qF 1 66),jB 68 (qL 67),jB 69 (qN 2 13),jB 70 (.call (.c (.fn (.func 30) [] [])) [(.t 68),(.t 69)]),jB 63 (qM 70),jB 71 (qD 63 0),jB 72 (qD 63 1),jB 14 (qM 71),jB 15 (qM 72)] (
 qR [qm 74 6,qm 75 12,qm 76 14,jA 77 (.build [.aq, .aq] [(0,(1,(.t 75))),(1,(1,(.t 76)))]),jA 78 (.call (.c (.fn (.func 31) [] [])) [(.t 74),(.t 77)]),qm 73 78,jA 79 (qD 73 0),jA 80 (qD 73 1),qm 16 79,qm 17 80] (
 qR [qm 81 16,qm 6 81] (
 .seq (
 qR [qm 82 6,jA 83 (qS 82),qm 84 1,jA 85 (.bin .gtr (.t 83) (.t 84))] (.cond (.t 85) (
 .seq (
 .region [jA 86 (.build [(.int .i64 0),(.int .i64 0), .aq, .aq] []),jG 4 4 86,jA 5 (qC 2)]) .ret) .skip)) (
 qR [qm 87 9,qm 88 17,jA 89 (.bu 1 1 [(.int .i64 0)] [(0,(1,(.t 88)))]),jA 90 (qJ 1 8 87 89),qm 9 90] (
 .region [qm 91 10,qm 92 15,jA 93 (.bu 1 1 [(.int .i64 0)] [(0,(1,(.t 92)))]),jA 94 (qJ 1 8 91 93),qm 10 94])))))))) (
 .region [qm 50 11,jA 51 (qA 50 1),qm 11 51])))))) (
 qR [jA 95 (qF 2 7),ql 96 95,qm 97 9,jA 98 (.bu 1 1 [.aq] [(0,(1,(.t 97)))]),jA 99 (qJ 1 24 96 98),jA 100 (qF 2 7),jG 1 100 99] (
 .region [jA 101 (qF 3 7),ql 102 101,qm 103 10,jA 104 (.bu 1 1 [.aq] [(0,(1,(.t 103)))]),jA 105 (qJ 1 24 102 104),jA 106 (qF 3 7),jG 1 106 105])))))) (
 .region [qm 44 8,jA 45 (qA 44 1),qm 8 45])))))) (
 .seq (
 .region [jA 107 (qN 4 7),jG 4 4 107,jA 5 (qC 0)]) .ret))))))⟩
theorem c9:aL Tryz.prog GL [] Tryz.f9=some l9:=by kernel_rfl
def l10:bh:=⟨31,[(.tmp 4)],
 (
 qR [jA 2 (qO 0),jA 3 (qO 1),jA 4 (qK false)] (
 .seq (
 .region [jA 5 (qF 0 2),ql 6 5,jA 7 (qF 0 3),ql 8 7,jA 9 (.bin .eql (.t 6) (.t 8)),qm 10 9,jD 11 (qF 1 2) 10,jD 12 (qL 11) 10,jD 13 (qF 1 3) 10,jD 14 (qL 13) 10,jD 15 (.bin .eql (.t 12) (.t 14)) 10,jA 16 (qV 10 15),qm 17 16,jD 18 (qF 2 2) 17,jD 19 (qL 18) 17,jD 20 (qF 2 3) 17,jD 21 (qL 20) 17,jD 22 (.call (.c (.fn (.func 32) [] [])) [(.t 19),(.t 21)]) 17,jA 23 (qV 17 22),qm 24 23,jD 25 (qF 3 2) 24,jD 26 (qL 25) 24,jD 27 (qF 3 3) 24,jD 28 (qL 27) 24,jD 29 (.call (.c (.fn (.func 32) [] [])) [(.t 26),(.t 28)]) 24,jA 30 (qV 24 29),qm 4 30]) .ret))⟩
theorem c10:aL Tryz.prog GL [] Tryz.f10=some l10:=by kernel_rfl
def l11:bh:=⟨107,[(.tmp 2)],
 (
 qR [jA 1 (qO 0),jA 2 (qK false)] (
 qR [jA 8 (qF 2 1),ql 9 8,jA 10 (qS 9),qm 3 10] (
 .seq (
 qR [jA 11 (qF 0 1),ql 12 11,jA 13 (qW 12 1),qm 14 13,jC 15 (qF 0 1) 14,jC 16 (qL 15) 14,jC 17 (qU 16 64) 14,jA 18 (qP 14 17),qm 19 18,jC 20 (qM 3) 19,jC 21 (qW 20 1) 19,jA 22 (qP 19 21),qm 23 22,jC 24 (qM 3) 23,jC 25 (qU 24 3000) 23,jA 26 (qP 23 25),qm 27 26,jC 28 (qF 3 1) 27,jC 29 (qL 28) 27,jC 30 (qS 29) 27,jC 31 (qM 3) 27,jC 32 (.bin .neq (.t 30) (.t 31)) 27,jA 33 (qP 27 32),qm 34 33,jC 35 (qF 1 1) 34,jC 36 (qL 35) 34,jC 37 (qW 36 0) 34,jA 38 (qP 34 37),qm 39 38,jC 40 (qF 1 1) 39,jC 41 (qL 40) 39,jC 42 (qM 3) 39,jC 43 (.bin .geq (.t 41) (.t 42)) 39,jA 44 (qP 39 43)] (.cond (.t 44) (
 .seq (
 .region [jA 2 (qK false)]) .ret) .skip)) (
 .seq (
 qR [jA 45 (qF 2 1),ql 46 45,jA 47 (qS 46),jA 48 (qC 0)] (.block 0 (.loop (
 qR [jA 49 (qB 48 47)] (
 .seq (.cond (.t 49) .skip (.exit 0)) (
 .seq (.block 1 (
 qR [qm 50 48,jA 51 (qI 1 46 48),ql 52 51,qm 4 50,qm 5 52] (
 .seq (
 qR [jB 53 (qM 5),jB 54 (qS 53),jB 55 (qF 0 1),jB 56 (qL 55),jB 57 (.bin .neq (.t 54) (.t 56)),jB 58 (qM 57),jF 59 (qF 3 1) 58,jF 60 (qL 59) 58,jF 61 (qM 4) 58,jF 62 (qI 1 60 61) 58,jF 63 (qL 62) 58,jF 64 (qS 63) 58,jF 65 (qF 0 1) 58,jF 66 (qL 65) 58,jF 67 (.bin .neq (.t 64) (.t 66)) 58,jB 68 (qP 58 67)] (.cond (.t 68) (
 .seq (
 .region [jA 2 (qK false)]) .ret) .skip)) (
 qR [qm 69 5,jA 70 (qS 69),jA 71 (qC 0)] (.block 2 (.loop (
 qR [jA 72 (qB 71 70)] (
 .seq (.cond (.t 72) .skip (.exit 2)) (
 .seq (.block 3 (
 qR [qm 73 71,jA 74 (qI 1 69 71),ql 75 74,qm 6 73,qm 7 75] (
 qR [qm 76 7,jA 77 (qW 76 0),qm 78 77,jC 79 (qM 7) 78,jC 80 (qM 3) 78,jC 81 (.bin .geq (.t 79) (.t 80)) 78,jA 82 (qP 78 81),qm 83 82,jC 84 (qF 3 1) 83,jC 85 (qL 84) 83,jC 86 (qM 4) 83,jC 87 (qI 1 85 86) 83,jC 88 (qL 87) 83,jC 89 (qM 6) 83,jC 90 (qI 1 88 89) 83,jC 91 (qL 90) 83,jC 92 (qW 91 0) 83,jA 93 (qP 83 92),qm 94 93,jC 95 (qF 3 1) 94,jC 96 (qL 95) 94,jC 97 (qM 4) 94,jC 98 (qI 1 96 97) 94,jC 99 (qL 98) 94,jC 100 (qM 6) 94,jC 101 (qI 1 99 100) 94,jC 102 (qL 101) 94,jC 103 (qU 102 20000) 94,jA 104 (qP 94 103)] (.cond (.t 104) (
 .seq (
 .region [jA 2 (qK false)]) .ret) .skip)))) (
 .region [jA 105 (qA 71 1),qm 71 105])))))))))) (
 .region [jA 106 (qA 48 1),qm 48 106]))))))) (
 .seq (
 .region [jA 2 (qK true)]) .ret)))))⟩
theorem c11:aL Tryz.prog GL [] Tryz.f11=some l11:=by kernel_rfl
def l12:bh:=⟨118,[(.tmp 2)],
 (
 qR [jA 1 (qO 0),jA 2 (qK false)] (
 qR [jA 6 (qF 2 1),ql 7 6,jA 8 (qS 7),qm 3 8] (
 .seq (
 qR [jA 9 (qF 0 1),ql 10 9,jA 11 (qW 10 1),qm 12 11,jC 13 (qF 0 1) 12,jC 14 (qL 13) 12,jC 15 (qU 14 64) 12,jA 16 (qP 12 15),qm 17 16,jC 18 (qM 3) 17,jC 19 (qW 18 1) 17,jA 20 (qP 17 19),qm 21 20,jC 22 (qM 3) 21,jC 23 (qU 22 3000) 21,jA 24 (qP 21 23),qm 25 24,jC 26 (qF 3 1) 25,jC 27 (qL 26) 25,jC 28 (qS 27) 25,jC 29 (qM 3) 25,jC 30 (.bin .neq (.t 28) (.t 29)) 25,jA 31 (qP 25 30),qm 32 31,jC 33 (qF 1 1) 32,jC 34 (qL 33) 32,jC 35 (qW 34 0) 32,jA 36 (qP 32 35),qm 37 36,jC 38 (qF 1 1) 37,jC 39 (qL 38) 37,jC 40 (qM 3) 37,jC 41 (.bin .geq (.t 39) (.t 40)) 37,jA 42 (qP 37 41)] (.cond (.t 42) (
 .seq (
 .region [jA 2 (qK false)]) .ret) .skip)) (
 .seq (
 qR [jA 4 (qC 0)] (.block 0 (.loop (
 .seq (
 qR [qm 43 4,qm 44 3,jA 45 (qB 43 44)] (.cond (.t 45) .skip (.exit 0))) (
 .seq (.block 1 (
 .seq (
 qR [jB 48 (qF 2 1),jB 49 (qL 48),jB 50 (qM 4),jB 51 (qI 1 49 50),jB 52 (qL 51),jB 53 (qS 52),jB 54 (qF 0 1),jB 55 (qL 54),jB 56 (.bin .neq (.t 53) (.t 55)),jB 57 (qM 56),jF 58 (qF 3 1) 57,jF 59 (qL 58) 57,jF 60 (qM 4) 57,jF 61 (qI 1 59 60) 57,jF 62 (qL 61) 57,jF 63 (qS 62) 57,jF 64 (qF 0 1) 57,jF 65 (qL 64) 57,jF 66 (.bin .neq (.t 63) (.t 65)) 57,jB 67 (qP 57 66)] (.cond (.t 67) (
 .seq (
 .region [jA 2 (qK false)]) .ret) .skip)) (
 qR [jA 5 (qC 0)] (.block 2 (.loop (
 .seq (
 qR [qm 68 5,jA 69 (qF 0 1),ql 70 69,jA 71 (qB 68 70)] (.cond (.t 71) .skip (.exit 2))) (
 .seq (.block 3 (
 qR [jB 74 (qF 2 1),jB 75 (qL 74),jB 76 (qM 4),jB 77 (qI 1 75 76),jB 78 (qL 77),jB 79 (qM 5),jB 80 (qI 1 78 79),jB 81 (qL 80),jB 82 (qW 81 0),jB 83 (qM 82),jF 84 (qF 2 1) 83,jF 85 (qL 84) 83,jF 86 (qM 4) 83,jF 87 (qI 1 85 86) 83,jF 88 (qL 87) 83,jF 89 (qM 5) 83,jF 90 (qI 1 88 89) 83,jF 91 (qL 90) 83,jF 92 (qM 3) 83,jF 93 (.bin .geq (.t 91) (.t 92)) 83,jB 94 (qP 83 93),jB 95 (qM 94),jF 96 (qF 3 1) 95,jF 97 (qL 96) 95,jF 98 (qM 4) 95,jF 99 (qI 1 97 98) 95,jF 100 (qL 99) 95,jF 101 (qM 5) 95,jF 102 (qI 1 100 101) 95,jF 103 (qL 102) 95,jF 104 (qW 103 0) 95,jB 105 (qP 95 104),jB 106 (qM 105),jF 107 (qF 3 1) 106,jF 108 (qL 107) 106,jF 109 (qM 4) 106,jF 110 (qI 1 108 109) 106,jF 111 (qL 110) 106,jF 112 (qM 5) 106,jF 113 (qI 1 111 112) 106,jF 114 (qL 113) 106,⟨(some 115),(.call (.c (.fn (.func 33) [] [])) []),(some (106,false)),[(108,((some (106,false)),(.load none (.t 107)))),(111,((some (106,false)),(.load none (.t 110)))),(114,((some (106,false)),(.load none (.t 113))))],true⟩,jF 116 (.bin .gtr (.t 114) (.t 115)) 106,jB 117 (qP 106 116)] (.cond (.t 117) (
 .seq (
 .region [jA 2 (qK false)]) .ret) .skip))) (
 .region [qm 72 5,jA 73 (qA 72 1),qm 5 73])))))))) (
 .region [qm 46 4,jA 47 (qA 46 1),qm 4 47])))))) (
 .seq (
 .region [jA 2 (qK true)]) .ret)))))⟩
theorem c12:aL Tryz.prog GL [] Tryz.f12=some l12:=by kernel_rfl
def l13:bh:=⟨53,[(.tmp 4)],
 (
 qR [jA 2 (qO 0),jA 3 (qO 1),jA 4 (qK false)] (
 .seq (
 qR [jA 11 (qN 4 2),jA 12 (qG 11 11),jA 13 (qT 12),qm 14 13,jC 15 (qF 0 2) 14,jC 16 (qL 15) 14,jC 17 (qN 2 3) 14,jC 18 (.call (.c (.fn (.func 20) [] [])) [(.t 16),(.t 17)]) 14,jC 19 (qT 18) 14,jA 20 (qP 14 19)] (.cond (.t 20) (
 .seq (
 .region [jA 4 (qK false)]) .ret) .skip)) (
 qR [jA 21 (qF 1 2),ql 22 21,jA 5 (.alloc [(.int .i64 0)]),jG 1 5 22] (
 qR [jA 23 (.uk (.func 34) [] [(.t 2),(.t 5)]),qm 6 23] (
 qR [qm 24 6,jA 25 (qF 0 3),ql 26 25,jA 27 (.call (.t 24) [(.t 26)])] (
 qR [jA 7 (qX)] (
 qR [jA 28 (.iT none),qm 8 28] (.block 0 (.loop (.block 1 (
 qR [qm 30 8,ql 31 5,jA 32 (.gp (.int .i64) (.int .i64 0) true (.t 30) (.t 31)),qm 29 32,jA 33 (qD 29 0),jA 34 (qD 29 1),qm 9 33,qm 10 34] (
 .seq (
 qR [qm 35 10] (.cond (.t 35) (
 .seq (
 .region [qm 36 7,qm 37 9,jA 38 (.slice 1 (.t 36) (some (.t 37)) none),jA 39 (qG 35 38),jA 40 (.bin .rem (.t 39) (.c (.int .i64 2))),jA 41 (qH 40 0),qm 4 41]) .ret) .skip)) (
 qR [qm 42 8,ql 43 5,qm 44 7,jA 45 (qS 44),⟨none,(.mZ (.int .i64) (.t 42) (.t 43) (.t 45)),none,[],false⟩] (
 .region [qm 46 7,qm 47 6,jA 48 (qF 1 3),ql 49 48,jA 50 (.call (.t 47) [(.t 49)]),jA 51 (.bu 1 1 [(.int .i64 0)] [(0,(1,(.t 50)))]),jA 52 (qJ 1 8 46 51),qm 7 52]))))))))))))))⟩
theorem c13:aL Tryz.prog GL [] Tryz.f13=some l13:=by kernel_rfl
def l14:bh:=⟨113,[(.tmp 4)],
 (
 qR [jA 2 (qO 0),jA 3 (qO 1),jA 4 (qK false)] (
 .seq (
 qR [jA 13 (qN 4 2),jA 14 (qG 12 13),jA 15 (qT 14),qm 16 15,jC 17 (qF 0 2) 16,jC 18 (qL 17) 16,jC 19 (qN 2 3) 16,jC 20 (.call (.c (.fn (.func 36) [] [])) [(.t 18),(.t 19)]) 16,jC 21 (qT 20) 16,jA 22 (qP 16 21)] (.cond (.t 22) (
 .seq (
 .region [jA 4 (qK false)]) .ret) .skip)) (
 qR [jA 23 (qF 1 2),ql 24 23,qm 5 24] (
 .seq (
 qR [jA 6 (qC 0)] (.block 0 (.loop (
 .seq (
 qR [qm 25 6,jA 26 (qF 0 3),ql 27 26,jA 28 (qS 27),jA 29 (qB 25 28)] (.cond (.t 29) .skip (.exit 0))) (
 .seq (.block 1 (
 .region [jB 32 (qF 2 2),jB 33 (qL 32),jB 34 (qM 5),jB 35 (qI 1 33 34),jB 36 (qL 35),jB 37 (qF 0 3),jB 38 (qL 37),jB 39 (qM 6),jB 40 (qI 1 38 39),jB 41 (qL 40),jB 42 (qI 1 36 41),jB 43 (qL 42),jB 5 (qM 43)])) (
 .region [qm 30 6,jA 31 (qA 30 1),qm 6 31])))))) (
 .seq (
 qR [jA 7 (qC 0)] (.block 2 (.loop (
 .seq (
 qR [qm 44 7,jA 45 (qF 2 2),ql 46 45,jA 47 (qS 46),jA 48 (qB 44 47)] (.cond (.t 48) .skip (.exit 2))) (
 .seq (.block 3 (
 qR [jA 8 (qC 0)] (.block 4 (.loop (
 .seq (
 qR [qm 51 8,jA 52 (qF 1 3),ql 53 52,jA 54 (qS 53),jA 55 (qB 51 54)] (.cond (.t 55) .skip (.exit 4))) (
 .seq (.block 5 (
 .region [jB 58 (qF 2 2),jB 59 (qL 58),jB 60 (qM 5),jB 61 (qI 1 59 60),jB 62 (qL 61),jB 63 (qF 1 3),jB 64 (qL 63),jB 65 (qM 8),jB 66 (qI 1 64 65),jB 67 (qL 66),jB 68 (qI 1 62 67),jB 69 (qL 68),jB 5 (qM 69)])) (
 .region [qm 56 8,jA 57 (qA 56 1),qm 8 57]))))))) (
 .region [qm 49 7,jA 50 (qA 49 1),qm 7 50])))))) (
 qR [jA 70 (.call (.c (.fn (.func 33) [] [])) []),jA 71 (qA 70 1),qm 9 71] (
 qR [qm 72 5,qm 10 72] (
 .seq (
 qR [jA 11 (qK true)] (.block 6 (.loop (
 .seq (
 qR [qm 73 11] (.cond (.t 73) .skip (.exit 6))) (
 .seq (.block 7 (
 qR [jA 12 (qC 0)] (.block 8 (.loop (
 .seq (
 qR [qm 77 12,jA 78 (qF 1 3),ql 79 78,jA 80 (qS 79),jA 81 (qB 77 80)] (.cond (.t 81) .skip (.exit 8))) (
 .seq (.block 9 (
 qR [jB 84 (qM 9),jB 85 (qF 3 2),jB 86 (qL 85),jB 87 (qM 5),jB 88 (qI 1 86 87),jB 89 (qL 88),jB 90 (qF 1 3),jB 91 (qL 90),jB 92 (qM 12),jB 93 (qI 1 91 92),jB 94 (qL 93),jB 95 (qI 1 89 94),jB 96 (qL 95),jB 97 (.ju false [(.t 84),(.t 96)]),jB 9 (qM 97)] (
 .region [jB 98 (qF 2 2),jB 99 (qL 98),jB 100 (qM 5),jB 101 (qI 1 99 100),jB 102 (qL 101),jB 103 (qF 1 3),jB 104 (qL 103),jB 105 (qM 12),jB 106 (qI 1 104 105),jB 107 (qL 106),jB 108 (qI 1 102 107),jB 109 (qL 108),jB 5 (qM 109)]))) (
 .region [qm 82 12,jA 83 (qA 82 1),qm 12 83]))))))) (
 .region [qm 74 5,qm 75 10,jA 76 (.bin .neq (.t 74) (.t 75)),qm 11 76])))))) (
 .seq (
 .region [qm 110 9,jA 111 (.bin .rem (.t 110) (.c (.int .i64 2))),jA 112 (qH 111 0),qm 4 112]) .ret)))))))))⟩
theorem c14:aL Tryz.prog GL [] Tryz.f14=some l14:=by kernel_rfl
def l15:bh:=⟨64,[(.cell 2 (some 4))],
 (
 qR [jA 1 (qO 0),jA 2 (.alloc [(.int .i64 0),(.int .i64 0), .aq, .aq])] (
 .seq (
 qR [jA 8 (qN 4 1),jA 9 (qG 11 8),jA 10 (qT 9)] (.cond (.t 10) (
 .seq (
 .region [jA 11 (.build [(.int .i64 0),(.int .i64 0), .aq, .aq] []),jG 4 2 11]) .ret) .skip)) (
 qR [jA 12 (qF 0 1),ql 13 12,jA 14 (qF 1 1),ql 15 14,jA 16 (.build [(.int .i64 0),(.int .i64 0), .aq, .aq] [(0,(1,(.t 13))),(1,(1,(.t 15)))]),jA 3 (.alloc [(.int .i64 0),(.int .i64 0), .aq, .aq]),jG 4 3 16] (
 .seq (
 qR [jA 17 (qF 2 1),ql 18 17,jA 19 (qS 18),jA 20 (qC 0)] (.block 0 (.loop (
 qR [jA 21 (qB 20 19)] (
 .seq (.cond (.t 21) .skip (.exit 0)) (
 .seq (.block 1 (
 qR [qm 22 20,jA 23 (qI 1 18 20),ql 24 23,qm 4 22,qm 5 24] (
 qR [jA 25 (qF 3 1),ql 26 25,qm 27 4,jA 28 (qI 1 26 27),ql 29 28,jA 30 (qG 37 29),qm 6 30] (
 .seq (
 qR [qm 31 6,jA 32 (qS 31),jA 33 (qC 0)] (.block 2 (.loop (
 qR [jA 34 (qB 33 32)] (
 .seq (.cond (.t 34) .skip (.exit 2)) (
 .seq (.block 3 (
 qR [qm 35 33,qm 7 35] (
 qR [qm 36 6,qm 37 7,jA 38 (qI 1 36 37),ql 39 38,jA 40 (qA 39 1),jA 41 (qI 1 36 37),jG 1 41 40] (
 qR [qm 42 6,qm 43 7,jA 44 (qI 1 42 43),ql 45 44,jA 46 (qU 45 20000)] (.cond (.t 46) (
 .seq (
 .region [jA 47 (.build [(.int .i64 0),(.int .i64 0), .aq, .aq] []),jG 4 2 47]) .ret) .skip))))) (
 .region [jA 48 (qA 33 1),qm 33 48]))))))) (
 qR [jB 49 (qF 2 3),jB 50 (qL 49),jB 51 (qM 5),⟨(some 52),(.call (.c (.fn (.func 37) [] [])) [(.t 51)]),none,[(50,(none,(.load none (.t 49))))],true⟩,⟨(some 53),(.bu 1 1 [.aq] [(0,(1,(.t 52)))]),none,[(50,(none,(.load none (.t 49))))],true⟩,jB 54 (qJ 1 24 50 53),jB 55 (qF 2 3),jH 1 55 54] (
 .region [jA 56 (qF 3 3),ql 57 56,qm 58 6,jA 59 (.bu 1 1 [.aq] [(0,(1,(.t 58)))]),jA 60 (qJ 1 24 57 59),jA 61 (qF 3 3),jG 1 61 60])))))) (
 .region [jA 62 (qA 20 1),qm 20 62]))))))) (
 .seq (
 .region [jA 63 (qN 4 3),jG 4 2 63]) .ret)))))⟩
theorem c15:aL Tryz.prog GL [] Tryz.f15=some l15:=by kernel_rfl
def l16:bh:=⟨15,[(.cell 2 (some 4))],
 (
 qR [jA 1 (qO 0),jA 2 (.alloc [(.int .i64 0),(.int .i64 0), .aq, .aq])] (
 .seq (
 qR [jA 3 (qN 4 1),jA 4 (qG 12 3),jA 5 (qT 4),qm 6 5,jC 7 (qN 4 1) 6,jC 8 (qG 38 7) 6,jC 9 (.call (.c (.fn (.func 33) [] [])) []) 6,jC 10 (.bin .geq (.t 8) (.t 9)) 6,jA 11 (qP 6 10)] (.cond (.t 11) (
 .seq (
 .region [jA 12 (.build [(.int .i64 0),(.int .i64 0), .aq, .aq] []),jG 4 2 12]) .ret) .skip)) (
 .seq (
 .region [jA 13 (qN 4 1),jA 14 (.call (.c (.fn (.func 39) [] [])) [(.t 13),(.c (.int .i64 1))]),jG 4 2 14]) .ret)))⟩
theorem c16:aL Tryz.prog GL [] Tryz.f16=some l16:=by kernel_rfl
def l18:bh:=⟨101,[(.tmp 2)],
 (
 qR [jA 1 (qO 0),jA 2 (qK false)] (
 .seq (
 qR [jA 12 (qF 0 1),ql 13 12,jA 14 (qW 13 1),qm 15 14,jC 16 (qF 0 1) 15,jC 17 (qL 16) 15,jC 18 (qU 17 64) 15,jA 19 (qP 15 18),qm 20 19,jC 21 (qF 2 1) 20,jC 22 (qL 21) 20,jC 23 (qS 22) 20,jC 24 (qU 23 3000) 20,jA 25 (qP 20 24)] (.cond (.t 25) (
 .seq (
 .region [jA 2 (qK false)]) .ret) .skip)) (
 qR [jA 26 (.uk (.func 40) [] [(.t 1)]),qm 3 26] (
 .seq (
 qR [jA 27 (qF 1 1),ql 28 27,jA 29 (qS 28),jA 30 (qC 0)] (.block 0 (.loop (
 qR [jA 31 (qB 30 29)] (
 .seq (.cond (.t 31) .skip (.exit 0)) (
 .seq (.block 1 (
 qR [qm 32 30,jA 33 (qI 1 28 30),ql 34 33,qm 4 32,qm 5 34] (
 qR [qm 35 3,qm 36 5,jA 37 (.call (.t 35) [(.t 36)]),jA 38 (qT 37),qm 39 38,jC 40 (qM 4) 39,jC 41 (qU 40 0) 39,jC 42 (qM 41) 39,jD 43 (qF 1 1) 42,jD 44 (qL 43) 42,jD 45 (qM 4) 42,jD 46 (.bin .sub (.t 45) (.c (.int .i64 1))) 42,jD 47 (qI 1 44 46) 42,jD 48 (qL 47) 42,jD 49 (qM 5) 42,jD 50 (.bin .geq (.t 48) (.t 49)) 42,jC 51 (qV 42 50) 39,jA 52 (qP 39 51)] (.cond (.t 52) (
 .seq (
 .region [jA 2 (qK false)]) .ret) .skip)))) (
 .region [jA 53 (qA 30 1),qm 30 53]))))))) (
 .seq (
 qR [jA 54 (qF 2 1),ql 55 54,jA 56 (qS 55),jA 57 (qC 0)] (.block 2 (.loop (
 qR [jA 58 (qB 57 56)] (
 .seq (.cond (.t 58) .skip (.exit 2)) (
 .seq (.block 3 (
 qR [jA 59 (qI 1 55 57),ql 60 59,qm 7 60] (
 .seq (
 qR [qm 61 7,jA 62 (qS 61),jA 63 (qF 0 1),ql 64 63,jA 65 (.bin .neq (.t 62) (.t 64))] (.cond (.t 65) (
 .seq (
 .region [jA 2 (qK false)]) .ret) .skip)) (
 qR [qm 66 7,jA 67 (qS 66),jA 68 (qC 0)] (.block 4 (.loop (
 qR [jA 69 (qB 68 67)] (
 .seq (.cond (.t 69) .skip (.exit 4)) (
 .seq (.block 5 (
 qR [jA 70 (qI 1 66 68),ql 71 70,qm 9 71] (
 qR [qm 72 9,jA 73 (qS 72),jA 74 (qC 0)] (.block 6 (.loop (
 qR [jA 75 (qB 74 73)] (
 .seq (.cond (.t 75) .skip (.exit 6)) (
 .seq (.block 7 (
 qR [qm 76 74,jA 77 (qI 2 72 74),jA 78 (qN 2 77),jA 11 (.alloc [(.int .i64 0),(.bool false)]),qm 10 76,jG 2 11 78] (
 qR [jB 79 (qM 3),jB 80 (qF 0 11),jB 81 (qL 80),jB 82 (.call (.t 79) [(.t 81)]),jB 83 (qT 82),jB 84 (qM 83),jF 85 (qM 10) 84,jF 86 (qU 85 0) 84,jF 87 (qM 86) 84,jE 88 (qM 9) 87,jE 89 (qM 10) 87,jE 90 (.bin .sub (.t 89) (.c (.int .i64 1))) 87,jE 91 (qI 2 88 90) 87,jE 92 (qN 2 91) 87,jE 93 (qN 2 11) 87,jE 94 (.call (.c (.fn (.func 41) [] [])) [(.t 92),(.t 93)]) 87,jE 95 (.bin .geq (.t 94) (.c (.int .i64 0))) 87,jF 96 (qV 87 95) 84,jB 97 (qP 84 96)] (.cond (.t 97) (
 .seq (
 .region [jA 2 (qK false)]) .ret) .skip)))) (
 .region [jA 98 (qA 74 1),qm 74 98]))))))))) (
 .region [jA 99 (qA 68 1),qm 68 99])))))))))) (
 .region [jA 100 (qA 57 1),qm 57 100]))))))) (
 .seq (
 .region [jA 2 (qK true)]) .ret))))))⟩
theorem c18:aL Tryz.prog GL [] Tryz.f18=some l18:=by kernel_rfl
def l20:bh:=⟨19,[(.tmp 4)],
 (
 qR [jA 3 (qO 1),jA 4 (qK false)] (
 .seq (
 .region [jA 5 (qN 2 3),jA 6 (qG 46 5),qm 7 6,jD 8 (qF 0 3) 7,jD 9 (qL 8) 7,jD 10 (qM 0) 7,jD 11 (.call (.c (.fn (.func 47) [] [])) [(.t 9),(.t 10)]) 7,jA 12 (qV 7 11),qm 13 12,jD 14 (qF 1 3) 13,jD 15 (qL 14) 13,jD 16 (qM 0) 13,jD 17 (.call (.c (.fn (.func 47) [] [])) [(.t 15),(.t 16)]) 13,jA 18 (qV 13 17),qm 4 18]) .ret))⟩
theorem c20:aL Tryz.prog GL [] Tryz.f20=some l20:=by kernel_rfl
def l21:bh:=⟨17,[(.tmp 2)],
 (
 qR [jA 1 (qO 0),jA 2 (qX)] (
 .seq (
 qR [jA 3 (qN 3 1),jA 4 (qG 18 3),jA 5 (qT 4),qm 6 5,jC 7 (qF 1 1) 6,jC 8 (qL 7) 6,jC 9 (qS 8) 6,jC 10 (qH 9 0) 6,jA 11 (qP 6 10)] (.cond (.t 11) (
 .seq (
 .region [jA 2 (qX)]) .ret) .skip)) (
 .seq (
 .region [jA 12 (qF 1 1),ql 13 12,jA 14 (qG 37 13),jA 15 (.build [(.int .i64 0),(.int .i64 0), .aq] [(0,(1,(.c (.int .i64 1)))),(1,(1,(.c (.int .i64 (-1))))),(2,(1,(.t 14)))]),jA 16 (.bu 3 1 [(.int .i64 0),(.int .i64 0), .aq] [(0,(3,(.t 15)))]),qm 2 16]) .ret)))⟩
theorem c21:aL Tryz.prog GL [] Tryz.f21=some l21:=by kernel_rfl
def l22:bh:=⟨25,[(.tmp 2)],
 (
 qR [jA 2 (qX)] (
 .seq (
 qR [qm 5 0,jA 6 (qW 5 0),qm 7 6,jC 8 (qM 0) 7,jC 9 (qU 8 6000) 7,jA 10 (qP 7 9)] (.cond (.t 10) (
 .seq (
 .region [jA 2 (qX)]) .ret) .skip)) (
 qR [qm 11 0,jA 12 (.cH 1 8 [(.int .i64 0)] (.t 11) (.t 11)),qm 3 12] (
 .seq (
 qR [qm 13 3,jA 14 (qS 13),jA 15 (qC 0)] (.block 0 (.loop (
 qR [jA 16 (qB 15 14)] (
 .seq (.cond (.t 16) .skip (.exit 0)) (
 .seq (.block 1 (
 qR [qm 17 15,qm 4 17] (
 .region [qm 18 3,qm 19 4,qm 20 4,jA 21 (qA 20 1),jA 22 (qI 1 18 19),jG 1 22 21]))) (
 .region [jA 23 (qA 15 1),qm 15 23]))))))) (
 .seq (
 .region [qm 24 3,qm 2 24]) .ret)))))⟩
theorem c22:aL Tryz.prog GL [] Tryz.f22=some l22:=by kernel_rfl
def l23:bh:=⟨23,[(.tmp 4)],
 (
 qR [jA 2 (qO 0),jA 4 (.mv (.c .eS))] (
 qR [jA 6 (qN 3 2),qm 7 1,jA 8 (.iT none),jA 9 (.iT none),jA 10 (.build [(.int .i64 0), .aq, .aq,(.int .i64 0), .aq, .aq, .cm, .aq, .cm] [(0,(3,(.t 6))),(3,(1,(.t 7))),(6,(1,(.t 8))),(8,(1,(.t 9)))]),jA 11 (.box false (.t 10)),qm 5 11] (
 qR [jB 12 (qM 5),jB 13 (qM 5),jB 14 (qN 3 2),jB 17 (qN 3 2),⟨(some 15),(.call (.c (.fn (.func 21) [] [])) [(.t 14)]),none,[(17,(none,(.load (some 3) (.t 2))))],true⟩,⟨(some 16),(.call (.c (.fn (.func 49) [] [])) [(.t 13),(.t 15)]),none,[(17,(none,(.load (some 3) (.t 2))))],true⟩,jB 18 (qG 50 17),jB 19 (qG 22 18),jB 20 (.build [(.int .i64 0), .aq] [(0,(1,(.t 16))),(1,(1,(.t 19)))]),jB 21 (.call (.c (.fn (.func 48) [] [])) [(.t 12),(.t 20)])] (
 .seq (
 .region [qm 22 5,qm 4 22]) .ret))))⟩
theorem c23:aL Tryz.prog GL [11] Tryz.f23=some l23:=by kernel_rfl
def l24:bh:=⟨4,[(.tmp 2)],
 (
 qR [jA 1 (.box false (.t 0)),jA 2 (.mv (.c .js))] (
 .seq (
 .region [jA 3 (.uk (.func 51) [] [(.t 1)]),qm 2 3]) .ret))⟩
theorem c24:aL Tryz.prog GL [1] Tryz.f24=some l24:=by kernel_rfl
def l25:bh:=⟨134,[(.tmp 2)],
 (
 qR [jA 1 (qO 0),jA 2 (qK false)] (
 .seq (
 qR [jA 8 (qF 0 1),ql 9 8,jA 10 (qW 9 1),qm 11 10,jC 12 (qF 0 1) 11,jC 13 (qL 12) 11,jC 14 (qU 13 64) 11,jA 15 (qP 11 14),qm 16 15,jC 17 (qF 2 1) 16,jC 18 (qL 17) 16,jC 19 (qS 18) 16,jC 20 (qU 19 3000) 16,jA 21 (qP 16 20)] (.cond (.t 21) (
 .seq (
 .region [jA 2 (qK false)]) .ret) .skip)) (
 .seq (
 qR [jA 3 (qC 0)] (.block 0 (.loop (
 .seq (
 qR [qm 22 3,jA 23 (qF 1 1),ql 24 23,jA 25 (qS 24),jA 26 (qB 22 25)] (.cond (.t 26) .skip (.exit 0))) (
 .seq (.block 1 (
 qR [jB 29 (qF 1 1),jB 30 (qL 29),jB 31 (qM 3),jB 32 (qI 1 30 31),jB 33 (qL 32),jB 34 (qW 33 0),jB 35 (qM 34),jF 36 (qF 1 1) 35,jF 37 (qL 36) 35,jF 38 (qM 3) 35,jF 39 (qI 1 37 38) 35,jF 40 (qL 39) 35,jF 41 (qF 2 1) 35,jF 42 (qL 41) 35,jF 43 (qS 42) 35,jF 44 (.bin .geq (.t 40) (.t 43)) 35,jB 45 (qP 35 44),jB 46 (qM 45),jF 47 (qM 3) 46,jF 48 (qU 47 0) 46,jF 49 (qM 48) 46,jE 50 (qF 1 1) 49,jE 51 (qL 50) 49,jE 52 (qM 3) 49,jE 53 (.bin .sub (.t 52) (.c (.int .i64 1))) 49,jE 54 (qI 1 51 53) 49,jE 55 (qL 54) 49,jE 56 (qF 1 1) 49,jE 57 (qL 56) 49,jE 58 (qM 3) 49,jE 59 (qI 1 57 58) 49,jE 60 (qL 59) 49,jE 61 (.bin .geq (.t 55) (.t 60)) 49,jF 62 (qV 49 61) 46,jB 63 (qP 46 62)] (.cond (.t 63) (
 .seq (
 .region [jA 2 (qK false)]) .ret) .skip))) (
 .region [qm 27 3,jA 28 (qA 27 1),qm 3 28])))))) (
 .seq (
 qR [jA 4 (qC 0)] (.block 2 (.loop (
 .seq (
 qR [qm 64 4,jA 65 (qF 2 1),ql 66 65,jA 67 (qS 66),jA 68 (qB 64 67)] (.cond (.t 68) .skip (.exit 2))) (
 .seq (.block 3 (
 .seq (
 qR [jB 71 (qF 2 1),jB 72 (qL 71),jB 73 (qM 4),jB 74 (qI 1 72 73),jB 75 (qL 74),jB 76 (qS 75),jB 77 (qF 0 1),jB 78 (qL 77),jB 79 (.bin .neq (.t 76) (.t 78))] (.cond (.t 79) (
 .seq (
 .region [jA 2 (qK false)]) .ret) .skip)) (
 qR [jA 5 (qC 0)] (.block 4 (.loop (
 .seq (
 qR [qm 80 5,jA 81 (qF 0 1),ql 82 81,jA 83 (qB 80 82)] (.cond (.t 83) .skip (.exit 4))) (
 .seq (.block 5 (
 qR [jA 86 (qF 2 1),ql 87 86,qm 88 4,jA 89 (qI 1 87 88),ql 90 89,qm 91 5,jA 92 (qI 1 90 91),ql 93 92,qm 6 93] (
 qR [jA 7 (qC 0)] (.block 6 (.loop (
 .seq (
 qR [qm 94 7,qm 95 6,jA 96 (qS 95),jA 97 (qB 94 96)] (.cond (.t 97) .skip (.exit 6))) (
 .seq (.block 7 (
 qR [jB 100 (qM 6),jB 101 (qM 7),jB 102 (qI 2 100 101),jB 103 (qF 0 102),jB 104 (qL 103),jB 105 (qW 104 0),jB 106 (qM 105),jF 107 (qM 6) 106,jF 108 (qM 7) 106,jF 109 (qI 2 107 108) 106,jF 110 (qF 0 109) 106,jF 111 (qL 110) 106,jF 112 (qF 2 1) 106,jF 113 (qL 112) 106,jF 114 (qS 113) 106,jF 115 (.bin .geq (.t 111) (.t 114)) 106,jB 116 (qP 106 115),jB 117 (qM 116),jF 118 (qM 7) 117,jF 119 (qU 118 0) 117,jF 120 (qM 119) 117,jE 121 (qM 6) 120,jE 122 (qM 7) 120,jE 123 (.bin .sub (.t 122) (.c (.int .i64 1))) 120,jE 124 (qI 2 121 123) 120,jE 125 (qN 2 124) 120,jE 126 (qM 6) 120,jE 127 (qM 7) 120,jE 128 (qI 2 126 127) 120,jE 129 (qN 2 128) 120,jE 130 (.call (.c (.fn (.func 54) [] [])) [(.t 125),(.t 129)]) 120,jE 131 (qT 130) 120,jF 132 (qV 120 131) 117,jB 133 (qP 117 132)] (.cond (.t 133) (
 .seq (
 .region [jA 2 (qK false)]) .ret) .skip))) (
 .region [qm 98 7,jA 99 (qA 98 1),qm 7 99])))))))) (
 .region [qm 84 5,jA 85 (qA 84 1),qm 5 85])))))))) (
 .region [qm 69 4,jA 70 (qA 69 1),qm 4 70])))))) (
 .seq (
 .region [jA 2 (qK true)]) .ret)))))⟩
theorem c25:aL Tryz.prog GL [] Tryz.f25=some l25:=by kernel_rfl
def l26:bh:=⟨16,[(.tmp 2)],
 (
 qR [jA 1 (qO 0),jA 2 (qX)] (
 .seq (
 qR [jA 3 (qN 3 1),jA 4 (qG 25 3),jA 5 (qT 4),qm 6 5,jC 7 (qF 1 1) 6,jC 8 (qL 7) 6,jC 9 (qS 8) 6,jC 10 (qH 9 0) 6,jA 11 (qP 6 10)] (.cond (.t 11) (
 .seq (
 .region [jA 2 (qX)]) .ret) .skip)) (
 .seq (
 .region [jA 12 (qF 1 1),ql 13 12,jA 14 (.build [(.int .i64 0),(.int .i64 0), .aq] [(0,(1,(.c (.int .i64 1)))),(1,(1,(.c (.int .i64 (-1))))),(2,(1,(.t 13)))]),jA 15 (.bu 3 1 [(.int .i64 0),(.int .i64 0), .aq] [(0,(3,(.t 14)))]),qm 2 15]) .ret)))⟩
theorem c26:aL Tryz.prog GL [] Tryz.f26=some l26:=by kernel_rfl
def l27:bh:=⟨19,[(.tmp 2)],
 (
 qR [jA 2 (qX)] (
 qR [jA 3 (qX)] (
 .seq (
 qR [jA 4 (qC 1)] (.block 0 (.loop (
 .seq (
 qR [qm 5 4,qm 6 0,jA 7 (.bin .leq (.t 5) (.t 6)),qm 8 7,jD 9 (qM 0) 8,jD 10 (.bin .leq (.t 9) (.c (.int .i64 6000))) 8,jA 11 (qV 8 10)] (.cond (.t 11) .skip (.exit 0))) (
 .seq (.block 1 (
 .region [qm 14 3,qm 15 4,jA 16 (.bu 1 1 [(.int .i64 0)] [(0,(1,(.t 15)))]),jA 17 (qJ 1 8 14 16),qm 3 17])) (
 .region [qm 12 4,jA 13 (qA 12 1),qm 4 13])))))) (
 .seq (
 .region [qm 18 3,qm 2 18]) .ret))))⟩
theorem c27:aL Tryz.prog GL [] Tryz.f27=some l27:=by kernel_rfl
def l28:bh:=⟨10,[(.tmp 2)],
 (
 qR [jA 1 (qO 0),jA 2 (qC 0)] (
 .seq (
 qR [jA 3 (qN 3 1),jA 4 (qG 25 3),jA 5 (qT 4)] (.cond (.t 5) (
 .seq (
 .region [jA 2 (qC 0)]) .ret) .skip)) (
 .seq (
 .region [jA 6 (qF 2 1),ql 7 6,jA 8 (qS 7),jA 9 (.bin .mul (.c (.int .i64 2)) (.t 8)),qm 2 9]) .ret)))⟩
theorem c28:aL Tryz.prog GL [] Tryz.f28=some l28:=by kernel_rfl
def l29:bh:=⟨123,[(.tmp 6),(.cell 7 (some 2))],
 (
 qR [jA 3 (qO 0),jA 6 (qX),jA 7 (.alloc [.aq, .aq])] (
 .seq (
 qR [jA 16 (qN 3 3),qm 17 1,jA 18 (.call (.c (.fn (.func 55) [] [])) [(.t 16),(.t 17)]),jA 19 (qT 18),qm 20 19,jC 21 (qM 2) 20,jC 22 (qW 21 0) 20,jA 23 (qP 20 22),qm 24 23,jC 25 (qM 2) 24,jC 26 (qF 0 3) 24,jC 27 (qL 26) 24,jC 28 (.bin .geq (.t 25) (.t 27)) 24,jA 29 (qP 24 28)] (.cond (.t 29) (
 .seq (
 .region [jA 30 (.build [.aq, .aq] []),jA 6 (qX),jG 2 7 30]) .ret) .skip)) (
 qR [jA 31 (.bu 3 0 [(.int .i64 0),(.int .i64 0), .aq] []),qm 8 31] (
 .seq (
 qR [jA 9 (qC 0)] (.block 0 (.loop (
 .seq (
 qR [qm 32 9,qm 33 1,jA 34 (qS 33),jA 35 (qB 32 34)] (.cond (.t 35) .skip (.exit 0))) (
 .seq (.block 1 (
 .region [jB 38 (qM 8),jB 39 (qM 1),jB 40 (qM 9),jB 41 (qI 3 39 40),jB 42 (qF 0 41),jB 43 (qL 42),jB 44 (qM 1),jB 45 (qM 9),jB 46 (qI 3 44 45),jB 47 (qF 1 46),jB 48 (qL 47),jB 49 (qN 3 3),jB 50 (qM 1),jB 51 (qM 9),jB 52 (qI 3 50 51),jB 53 (qF 2 52),jB 54 (qL 53),jB 55 (qM 2),⟨(some 56),(.call (.c (.fn (.func 56) [] [])) [(.t 49),(.t 54),(.t 55),(.c (.bool false))]),none,[(43,(none,(.load none (.t 42)))),(48,(none,(.load none (.t 47))))],true⟩,jB 57 (.build [(.int .i64 0),(.int .i64 0), .aq] [(0,(1,(.t 43))),(1,(1,(.t 48))),(2,(1,(.t 56)))]),⟨(some 58),(.bu 3 1 [(.int .i64 0),(.int .i64 0), .aq] [(0,(3,(.t 57)))]),none,[(43,(none,(.load none (.t 42)))),(48,(none,(.load none (.t 47)))),(49,(none,(.load (some 3) (.t 3)))),(54,(none,(.load none (.t 53))))],true⟩,jB 59 (qJ 3 40 38 58),jB 8 (qM 59)])) (
 .region [qm 36 9,jA 37 (qA 36 1),qm 9 37])))))) (
 .seq (
 qR [jA 10 (qC 0)] (.block 2 (.loop (
 .seq (
 qR [qm 60 10,qm 61 1,jA 62 (qS 61),jA 63 (qB 60 62)] (.cond (.t 63) .skip (.exit 2))) (
 .seq (.block 3 (
 .region [jB 66 (qM 8),jB 67 (qM 10),jB 68 (qN 3 3),jB 69 (qM 1),jB 70 (qM 10),jB 71 (qI 3 69 70),jB 72 (qF 2 71),jB 73 (qL 72),jB 74 (qM 2),jB 75 (.call (.c (.fn (.func 56) [] [])) [(.t 68),(.t 73),(.t 74),(.c (.bool true))]),jB 76 (.build [(.int .i64 0),(.int .i64 0), .aq] [(1,(1,(.t 67))),(2,(1,(.t 75)))]),⟨(some 77),(.bu 3 1 [(.int .i64 0),(.int .i64 0), .aq] [(0,(3,(.t 76)))]),none,[(68,(none,(.load (some 3) (.t 3)))),(73,(none,(.load none (.t 72))))],true⟩,jB 78 (qJ 3 40 66 77),jB 8 (qM 78)])) (
 .region [qm 64 10,jA 65 (qA 64 1),qm 10 65])))))) (
 qR [qm 79 8,jA 80 (qS 79),jA 81 (.cH 1 1 [(.bool false)] (.t 80) (.t 80)),qm 11 81] (
 .seq (
 qR [jA 12 (qC 0)] (.block 4 (.loop (
 .seq (
 qR [qm 82 12,qm 83 8,jA 84 (qS 83),jA 85 (qB 82 84)] (.cond (.t 85) .skip (.exit 4))) (
 .seq (.block 5 (
 qR [qm 88 8,qm 89 12,qm 90 8,qm 91 12,jA 92 (.call (.c (.fn (.func 57) [] [])) [(.t 90),(.t 91)]),jA 93 (qI 3 88 89),jA 94 (qF 2 93),jG 1 94 92] (
 .region [qm 95 11,qm 96 12,qm 97 8,qm 98 12,jA 99 (qI 3 97 98),jA 100 (qF 2 99),ql 101 100,jA 102 (qS 101),jA 103 (qU 102 0),jA 104 (qI 1 95 96),jG 1 104 103]))) (
 .region [qm 86 12,jA 87 (qA 86 1),qm 12 87])))))) (
 qR [qm 106 8,qm 107 11,jA 108 (.call (.c (.fn (.func 59) [] [])) [(.t 106),(.t 107)]),jA 109 (qG 58 108),qm 105 109,jA 110 (qD 105 0),jA 111 (qD 105 1),qm 13 110,qm 14 111] (
 qR [qm 113 1,qm 114 13,jA 115 (.call (.c (.fn (.func 60) [] [])) [(.t 113),(.t 114)]),qm 112 115,jA 116 (qD 112 0),jA 117 (qD 112 1),qm 13 116,qm 15 117] (
 .seq (
 .region [qm 118 13,qm 119 14,jA 120 (qG 61 119),qm 121 15,jA 122 (.build [.aq, .aq] [(0,(1,(.t 120))),(1,(1,(.t 121)))]),qm 6 118,jG 2 7 122]) .ret))))))))))⟩
theorem c29:aL Tryz.prog GL [] Tryz.f29=some l29:=by kernel_rfl
def P5:bh:=⟨69,[(.tmp 4),(.tmp 5)],
 (
 qR [jA 3 (qO 1),jA 4 (qX),jA 5 (qC 0)] (
 qR [qm 11 0,qm 12 0,jA 13 (qS 12),jA 14 (.call (.c (.fn (.func 62) [] [])) [(.t 11),(.t 13)]),qm 6 14] (
 .seq (
 qR [qm 15 6,jA 16 (qT 15)] (.cond (.t 16) (
 .seq (
 .region [jA 4 (qX),jA 5 (qC 0)]) .ret) .skip)) (
 qR [qm 17 0,jA 18 (qS 17),jA 19 (.bin .mul (.c (.int .i64 2)) (.t 18)),jA 20 (qA 19 1),qm 7 20] (
 qR [jA 8 (qX)] (
 qR [jA 9 (qX)] (
 .seq (
 qR [jA 10 (qC 0)] (.block 0 (.loop (
 .seq (
 qR [qm 21 10,qm 22 0,jA 23 (qS 22),jA 24 (qB 21 23)] (.cond (.t 24) .skip (.exit 0))) (
 .seq (.block 1 (
 .seq (
 qR [jB 27 (qF 1 3),jB 28 (qL 27),jB 29 (qM 0),jB 30 (qM 10),jB 31 (qI 1 29 30),jB 32 (qL 31),jB 33 (.call (.c (.fn (.func 63) [] [])) [(.t 28),(.t 32)])] (.cond (.t 33) (
 qR [qm 34 9,qm 35 0,qm 36 10,jA 37 (qI 1 35 36),ql 38 37,jA 39 (.bu 1 1 [(.int .i64 0)] [(0,(1,(.t 38)))]),jA 40 (qJ 1 8 34 39),qm 9 40] (
 qR [qm 41 7,qm 42 10,jA 43 (.bin .mul (.c (.int .i64 2)) (.t 42)),jA 44 (qA 43 1),jA 45 (.ju false [(.t 41),(.t 44)]),qm 7 45] (.exit 1))) .skip)) (
 qR [qm 46 8,qm 47 0,qm 48 10,jA 49 (qI 1 47 48),ql 50 49,jA 51 (.bu 1 1 [(.int .i64 0)] [(0,(1,(.t 50)))]),jA 52 (qJ 1 8 46 51),qm 8 52] (
 qR [jB 53 (qF 0 3),jB 54 (qL 53),jB 55 (qM 0),jB 56 (qM 10),jB 57 (qI 1 55 56),jB 58 (qL 57),jB 59 (.call (.c (.fn (.func 63) [] [])) [(.t 54),(.t 58)])] (.cond (.t 59) (
 .region [qm 60 7,qm 61 10,jA 62 (.bin .mul (.c (.int .i64 2)) (.t 61)),jA 63 (qA 62 2),jA 64 (.ju false [(.t 60),(.t 63)]),qm 7 64]) .skip))))) (
 .region [qm 25 10,jA 26 (qA 25 1),qm 10 26])))))) (
 .seq (
 .region [qm 65 8,qm 66 9,jA 67 (qJ 1 8 65 66),qm 68 7,qm 4 67,qm 5 68]) .ret))))))))⟩
theorem c30:aL Tryz.prog GL [] Tryz.f30=some P5:=by kernel_rfl
def l31:bh:=⟨39,[(.tmp 4),(.tmp 5)],
 (
 qR [jA 3 (qO 1),jA 4 (qX),jA 5 (qC 0)] (
 .seq (
 qR [jA 6 (qC 0)] (.block 0 (.loop (
 .seq (
 qR [qm 7 6,qm 8 0,jA 9 (qS 8),jA 10 (qB 7 9)] (.cond (.t 10) .skip (.exit 0))) (
 .seq (.block 1 (
 qR [jB 13 (qM 0),jB 14 (qM 6),jB 15 (qI 2 13 14),jB 16 (qF 1 15),jB 17 (qL 16),jB 18 (qF 1 3),jB 19 (qL 18),jB 20 (.call (.c (.fn (.func 64) [] [])) [(.t 17),(.t 19)]),jB 21 (qM 20),jE 22 (qM 0) 21,jE 23 (qM 6) 21,jE 24 (qI 2 22 23) 21,jE 25 (qF 0 24) 21,jE 26 (qL 25) 21,jE 27 (qF 0 3) 21,jE 28 (qL 27) 21,jE 29 (.call (.c (.fn (.func 65) [] [])) [(.t 26),(.t 28)]) 21,jB 30 (qV 21 29)] (.cond (.t 30) (
 .seq (
 .region [qm 31 0,qm 32 6,qm 4 31,qm 5 32]) .ret) .skip))) (
 .region [qm 11 6,jA 12 (qA 11 1),qm 6 12])))))) (
 .seq (
 .region [qm 33 0,jA 34 (qN 2 3),jA 35 (.bu 2 1 [.aq, .aq] [(0,(2,(.t 34)))]),jA 36 (qJ 2 48 33 35),qm 37 0,jA 38 (qS 37),qm 4 36,qm 5 38]) .ret)))⟩
theorem c31:aL Tryz.prog GL [] Tryz.f31=some l31:=by kernel_rfl
def l32:bh:=⟨27,[(.tmp 4)],
 (
 qR [jA 4 (qK false)] (
 .seq (
 qR [qm 6 0,jA 7 (qS 6),qm 8 1,jA 9 (qS 8),jA 10 (.bin .neq (.t 7) (.t 9))] (.cond (.t 10) (
 .seq (
 .region [jA 4 (qK false)]) .ret) .skip)) (
 .seq (
 qR [jA 5 (qC 0)] (.block 0 (.loop (
 .seq (
 qR [qm 11 5,qm 12 0,jA 13 (qS 12),jA 14 (qB 11 13)] (.cond (.t 14) .skip (.exit 0))) (
 .seq (.block 1 (
 qR [jB 17 (qM 0),jB 18 (qM 5),jB 19 (qI 1 17 18),jB 20 (qL 19),jB 21 (qM 1),jB 22 (qM 5),jB 23 (qI 1 21 22),jB 24 (qL 23),jB 25 (.call (.c (.fn (.func 64) [] [])) [(.t 20),(.t 24)]),jB 26 (qT 25)] (.cond (.t 26) (
 .seq (
 .region [jA 4 (qK false)]) .ret) .skip))) (
 .region [qm 15 5,jA 16 (qA 15 1),qm 5 16])))))) (
 .seq (
 .region [jA 4 (qK true)]) .ret))))⟩
theorem c32:aL Tryz.prog GL [] Tryz.f32=some l32:=by kernel_rfl
def l33:bh:=⟨1,[(.tmp 0)],
 (
 qR [jA 0 (qC 0)] (
 .seq (
 .region [jA 0 (qC 20000)]) .ret))⟩
theorem c33:aL Tryz.prog GL [] Tryz.f33=some l33:=by kernel_rfl
def l34:bh:=⟨34,[(.tmp 4)],
 (
 qR [jA 4 (qC 0)] (
 qR [jA 5 (qC 20000)] (
 .seq (
 qR [qm 8 0,jA 9 (qS 8),jA 10 (qC 0)] (.block 0 (.loop (
 qR [jA 11 (qB 10 9)] (
 .seq (.cond (.t 11) .skip (.exit 0)) (
 .seq (.block 1 (
 qR [jA 12 (qI 1 8 10),ql 13 12,qm 7 13] (
 qR [qm 14 5,jA 15 (qF 3 1),ql 16 15,ql 17 2,jA 18 (qI 1 16 17),ql 19 18,qm 20 7,jA 21 (qI 1 19 20),ql 22 21,jA 23 (.ju false [(.t 14),(.t 22)]),qm 5 23] (
 .region [jA 24 (qF 2 1),ql 25 24,ql 26 2,jA 27 (qI 1 25 26),ql 28 27,qm 29 7,jA 30 (qI 1 28 29),ql 31 30,jG 1 2 31])))) (
 .region [jA 32 (qA 10 1),qm 10 32]))))))) (
 .seq (
 .region [qm 33 5,qm 4 33]) .ret))))⟩
theorem c34:aL Tryz.prog GL [] Tryz.f34=some l34:=by kernel_rfl
def l35:bh:=⟨25,[(.tmp 2)],
 (
 qR [jA 2 (qC 0)] (
 .seq (
 qR [qm 5 0,jA 6 (qS 5),jA 7 (qW 6 1)] (.cond (.t 7) .bad .skip)) (
 qR [qm 9 0,jA 10 (.wj 1 (.t 9) (.c (.int .i64 0))),ql 11 10,qm 3 11] (
 .seq (
 qR [jA 4 (qC 1)] (.block 0 (.loop (
 .seq (
 qR [qm 12 4,qm 13 0,jA 14 (qS 13),jA 15 (qB 12 14)] (.cond (.t 15) .skip (.exit 0))) (
 .seq (.block 1 (
 .region [qm 18 3,qm 19 0,qm 20 4,jA 21 (qI 1 19 20),ql 22 21,jA 23 (.ju false [(.t 18),(.t 22)]),qm 3 23])) (
 .region [qm 16 4,jA 17 (qA 16 1),qm 4 17])))))) (
 .seq (
 .region [qm 24 3,qm 2 24]) .ret)))))⟩
theorem c35:aL Tryz.prog GL [] Tryz.f35=some l35:=by kernel_rfl
def l36:bh:=⟨37,[(.tmp 4)],
 (
 qR [jA 3 (qO 1),jA 4 (qK false)] (
 .seq (
 qR [jA 5 (qC 0)] (.block 0 (.loop (
 .seq (
 qR [qm 7 5,jA 8 (qF 0 3),ql 9 8,jA 10 (qS 9),jA 11 (qB 7 10)] (.cond (.t 11) .skip (.exit 0))) (
 .seq (.block 1 (
 qR [jA 14 (qF 0 3),ql 15 14,qm 16 5,jA 17 (qI 1 15 16),ql 18 17,qm 19 0,jA 20 (.bin .geq (.t 18) (.t 19))] (.cond (.t 20) (
 .seq (
 .region [jA 4 (qK false)]) .ret) .skip))) (
 .region [qm 12 5,jA 13 (qA 12 1),qm 5 13])))))) (
 .seq (
 qR [jA 6 (qC 0)] (.block 2 (.loop (
 .seq (
 qR [qm 21 6,jA 22 (qF 1 3),ql 23 22,jA 24 (qS 23),jA 25 (qB 21 24)] (.cond (.t 25) .skip (.exit 2))) (
 .seq (.block 3 (
 qR [jA 28 (qF 1 3),ql 29 28,qm 30 6,jA 31 (qI 1 29 30),ql 32 31,qm 33 0,jA 34 (.bin .geq (.t 32) (.t 33))] (.cond (.t 34) (
 .seq (
 .region [jA 4 (qK false)]) .ret) .skip))) (
 .region [qm 26 6,jA 27 (qA 26 1),qm 6 27])))))) (
 .seq (
 .region [jA 35 (qN 2 3),jA 36 (qG 66 35),qm 4 36]) .ret))))⟩
theorem c36:aL Tryz.prog GL [] Tryz.f36=some l36:=by kernel_rfl
def l37:bh:=⟨8,[(.tmp 2)],
 (
 qR [jA 2 (qX)] (
 .seq (
 qR [qm 3 0,jA 4 (.eq false .Li (.t 3) (.c .aq))] (.cond (.t 4) (
 .seq (
 .region [jA 2 (qX)]) .ret) .skip)) (
 .seq (
 .region [jA 5 (.bu 1 0 [(.int .i64 0)] []),qm 6 0,jA 7 (qJ 1 8 5 6),qm 2 7]) .ret)))⟩
theorem c37:aL Tryz.prog GL [] Tryz.f37=some l37:=by kernel_rfl
def l38:bh:=⟨34,[(.tmp 2)],
 (
 qR [jA 1 (qO 0),jA 2 (qC 0)] (
 qR [jA 3 (qC 0)] (
 .seq (
 qR [jA 4 (qC 0)] (.block 0 (.loop (
 .seq (
 qR [qm 6 4,jA 7 (qF 3 1),ql 8 7,jA 9 (qS 8),jA 10 (qB 6 9)] (.cond (.t 10) .skip (.exit 0))) (
 .seq (.block 1 (
 qR [jA 5 (qC 0)] (.block 2 (.loop (
 .seq (
 qR [qm 13 5,jA 14 (qF 3 1),ql 15 14,qm 16 4,jA 17 (qI 1 15 16),ql 18 17,jA 19 (qS 18),jA 20 (qB 13 19)] (.cond (.t 20) .skip (.exit 2))) (
 .seq (.block 3 (
 .region [qm 23 3,jA 24 (qF 3 1),ql 25 24,qm 26 4,jA 27 (qI 1 25 26),ql 28 27,qm 29 5,jA 30 (qI 1 28 29),ql 31 30,jA 32 (.ju true [(.t 23),(.t 31)]),qm 3 32])) (
 .region [qm 21 5,jA 22 (qA 21 1),qm 5 22]))))))) (
 .region [qm 11 4,jA 12 (qA 11 1),qm 4 12])))))) (
 .seq (
 .region [qm 33 3,qm 2 33]) .ret))))⟩
theorem c38:aL Tryz.prog GL [] Tryz.f38=some l38:=by kernel_rfl
def l39:bh:=⟨48,[(.cell 4 (some 4))],
 (
 qR [jA 2 (qO 0),jA 4 (.alloc [(.int .i64 0),(.int .i64 0), .aq, .aq])] (
 qR [jA 9 (qN 4 2),jA 5 (.alloc [(.int .i64 0),(.int .i64 0), .aq, .aq]),jG 4 5 9] (
 qR [jA 10 (qF 3 5),⟨none,(.store 1 (.t 10) (.c .aq)),none,[],false⟩] (
 .seq (
 qR [jA 6 (qC 0)] (.block 0 (.loop (
 .seq (
 qR [qm 11 6,jA 12 (qF 3 2),ql 13 12,jA 14 (qS 13),jA 15 (qB 11 14)] (.cond (.t 15) .skip (.exit 0))) (
 .seq (.block 1 (
 qR [jA 7 (qX)] (
 .seq (
 qR [jA 8 (qC 0)] (.block 2 (.loop (
 .seq (
 qR [qm 18 8,jA 19 (qF 3 2),ql 20 19,qm 21 6,jA 22 (qI 1 20 21),ql 23 22,jA 24 (qS 23),jA 25 (qB 18 24)] (.cond (.t 25) .skip (.exit 2))) (
 .seq (.block 3 (
 .region [qm 28 7,jA 29 (qF 3 2),ql 30 29,qm 31 6,jA 32 (qI 1 30 31),ql 33 32,qm 34 8,jA 35 (qI 1 33 34),ql 36 35,qm 37 1,jA 38 (.bin .add (.t 36) (.t 37)),jA 39 (.bu 1 1 [(.int .i64 0)] [(0,(1,(.t 38)))]),jA 40 (qJ 1 8 28 39),qm 7 40])) (
 .region [qm 26 8,jA 27 (qA 26 1),qm 8 27])))))) (
 .region [jA 41 (qF 3 5),ql 42 41,qm 43 7,jA 44 (.bu 1 1 [.aq] [(0,(1,(.t 43)))]),jA 45 (qJ 1 24 42 44),jA 46 (qF 3 5),jG 1 46 45])))) (
 .region [qm 16 6,jA 17 (qA 16 1),qm 6 17])))))) (
 .seq (
 .region [jA 47 (qN 4 5),jG 4 4 47]) .ret)))))⟩
theorem c39:aL Tryz.prog GL [] Tryz.f39=some l39:=by kernel_rfl
def l40:bh:=⟨13,[(.tmp 3)],
 (
 qR [jA 3 (qK false)] (
 .seq (
 .region [qm 4 0,jA 5 (.bin .geq (.t 4) (.c (.int .i64 0))),qm 6 5,jD 7 (qM 0) 6,jD 8 (qF 2 1) 6,jD 9 (qL 8) 6,jD 10 (qS 9) 6,jD 11 (qB 7 10) 6,jA 12 (qV 6 11),qm 3 12]) .ret))⟩
theorem c40:aL Tryz.prog GL [] Tryz.f40=some l40:=by kernel_rfl
def l41:bh:=⟨23,[(.tmp 4)],
 (
 qR [jA 2 (qO 0),jA 3 (qO 1),jA 4 (qC 0)] (
 .seq (
 qR [jA 6 (qF 0 2),ql 7 6,jA 8 (qF 0 3),ql 9 8,jA 10 (.call (.c (.fn (.func 67) [] [])) [(.t 7),(.t 9)]),qm 5 10] (
 qR [qm 11 5,jA 12 (.bin .neq (.t 11) (.c (.int .i64 0))),qm 13 12,jC 14 (qF 1 2) 13,jC 15 (qL 14) 13,jC 16 (qF 1 3) 13,jC 17 (qL 16) 13,jC 18 (.eq false .bool (.t 15) (.t 17)) 13,jA 19 (qP 13 18)] (.cond (.t 19) (
 .seq (
 .region [qm 20 5,qm 4 20]) .ret) .skip))) (
 .seq (
 qR [jA 21 (qF 1 3),ql 22 21] (.cond (.t 22) (
 .seq (
 .region [jA 4 (.mv (.c (.int .i64 (-1))))]) .ret) .skip)) (
 .seq (
 .region [jA 4 (qC 1)]) .ret))))⟩
theorem c41:aL Tryz.prog GL [] Tryz.f41=some l41:=by kernel_rfl
def l46:bh:=⟨27,[(.tmp 2)],
 (
 qR [jA 1 (qO 0),jA 2 (qK false)] (
 .seq (
 qR [jA 3 (qF 0 1),ql 4 3,jA 5 (qS 4),jA 6 (qU 5 60),qm 7 6,jC 8 (qF 1 1) 7,jC 9 (qL 8) 7,jC 10 (qS 9) 7,jC 11 (qW 10 1) 7,jA 12 (qP 7 11),qm 13 12,jC 14 (qF 1 1) 13,jC 15 (qL 14) 13,jC 16 (qS 15) 13,jC 17 (qU 16 40) 13,jA 18 (qP 13 17)] (.cond (.t 18) (
 .seq (
 .region [jA 2 (qK false)]) .ret) .skip)) (
 .seq (
 .region [jA 19 (qF 0 1),ql 20 19,jA 21 (.call (.c (.fn (.func 47) [] [])) [(.t 20),(.c (.int .i64 64))]),qm 22 21,jD 23 (qF 1 1) 22,jD 24 (qL 23) 22,jD 25 (.call (.c (.fn (.func 47) [] [])) [(.t 24),(.c (.int .i64 64))]) 22,jA 26 (qV 22 25),qm 2 26]) .ret)))⟩
theorem c46:aL Tryz.prog GL [] Tryz.f46=some l46:=by kernel_rfl
def l47:bh:=⟨21,[(.tmp 4)],
 (
 qR [jA 4 (qK false)] (
 .seq (
 qR [qm 7 0,jA 8 (qS 7),jA 9 (qC 0)] (.block 0 (.loop (
 qR [jA 10 (qB 9 8)] (
 .seq (.cond (.t 10) .skip (.exit 0)) (
 .seq (.block 1 (
 qR [jA 11 (qI 1 7 9),ql 12 11,qm 6 12] (
 qR [qm 13 6,jA 14 (qW 13 0),qm 15 14,jC 16 (qM 6) 15,jC 17 (qM 1) 15,jC 18 (.bin .geq (.t 16) (.t 17)) 15,jA 19 (qP 15 18)] (.cond (.t 19) (
 .seq (
 .region [jA 4 (qK false)]) .ret) .skip)))) (
 .region [jA 20 (qA 9 1),qm 9 20]))))))) (
 .seq (
 .region [jA 4 (qK true)]) .ret)))⟩
theorem c47:aL Tryz.prog GL [] Tryz.f47=some l47:=by kernel_rfl
def l48:bh:=⟨52,[(.tmp 4)],
 (
 qR [jA 3 (qO 1),jA 4 (qC 0)] (
 qR [jA 8 (qF 0 3),ql 9 8,jA 10 (.bin .shr (.t 9) (.c (.int .u64 15))),jA 11 (qF 0 3),ql 12 11,jA 13 (.bin .and (.t 12) (.c (.int .i64 32767))),jA 14 (.bu 1 2 [(.int .i64 0)] [(0,(1,(.t 10))),(1,(1,(.t 13)))]),jA 15 (qF 1 3),ql 16 15,jA 17 (qJ 1 8 14 16),jA 18 (qG 74 17),qm 5 18] (
 qR [qm 20 0,jA 21 (qY 20),jA 22 (qF 8 21),ql 23 22,qm 24 5,jA 25 (.gp .str (.int .i64 0) true (.t 23) (.t 24)),qm 19 25,jA 26 (qD 19 0),jA 27 (qD 19 1),qm 6 26,qm 7 27] (
 .seq (
 qR [qm 28 7,jA 29 (qT 28)] (.cond (.t 29) (
 qR [qm 30 0,jA 31 (qY 30),jA 32 (qF 7 31),ql 33 32,jA 34 (qS 33),qm 6 34] (
 qR [qm 35 0,jA 36 (qY 35),jA 37 (qF 8 36),ql 38 37,qm 39 5,qm 40 6,⟨none,(.mZ .str (.t 38) (.t 39) (.t 40)),none,[],false⟩] (
 .region [jB 41 (qM 0),jB 42 (qM 0),jB 43 (qY 42),jB 44 (qF 7 43),jB 45 (qL 44),jB 46 (qN 2 3),⟨(some 47),(.bu 2 1 [(.int .i64 0), .aq] [(0,(2,(.t 46)))]),none,[(45,(none,(.load none (.t 44)))),(46,(none,(.load (some 2) (.t 3))))],true⟩,jB 48 (qJ 2 32 45 47),jB 49 (qY 41),jB 50 (qF 7 49),jH 1 50 48]))) .skip)) (
 .seq (
 .region [qm 51 6,qm 4 51]) .ret)))))⟩
theorem c48:aL Tryz.prog GL [] Tryz.f48=some l48:=by kernel_rfl
def l49:bh:=⟨77,[(.tmp 4)],
 (
 qR [jA 4 (qC 0)] (
 qR [jA 5 (qX)] (
 .seq (
 qR [qm 11 1,jA 12 (qS 11),jA 13 (qC 0)] (.block 0 (.loop (
 qR [jA 14 (qB 13 12)] (
 .seq (.cond (.t 14) .skip (.exit 0)) (
 .seq (.block 1 (
 qR [jA 15 (qI 3 11 13),jA 16 (qN 3 15),jA 7 (.alloc [(.int .i64 0),(.int .i64 0), .aq]),jG 3 7 16] (
 qR [qm 17 5,jA 18 (qF 0 7),ql 19 18,jA 20 (qF 1 7),ql 21 20,jA 22 (qA 21 1),jA 23 (qF 2 7),ql 24 23,jA 25 (qS 24),jA 26 (.bu 1 3 [(.int .i64 0)] [(0,(1,(.t 19))),(1,(1,(.t 22))),(2,(1,(.t 25)))]),jA 27 (qJ 1 8 17 26),qm 5 27] (
 .region [qm 28 5,jA 29 (qF 2 7),ql 30 29,jA 31 (qJ 1 8 28 30),qm 5 31])))) (
 .region [jA 32 (qA 13 1),qm 13 32]))))))) (
 qR [qm 33 5,jA 34 (qG 74 33),qm 8 34] (
 qR [qm 36 0,jA 37 (qY 36),jA 38 (qF 6 37),ql 39 38,qm 40 8,jA 41 (.gp .str (.int .i64 0) true (.t 39) (.t 40)),qm 35 41,jA 42 (qD 35 0),jA 43 (qD 35 1),qm 9 42,qm 10 43] (
 .seq (
 qR [qm 44 10,jA 45 (qT 44)] (.cond (.t 45) (
 qR [qm 46 0,jA 47 (qY 46),jA 48 (qF 4 47),ql 49 48,jA 50 (qS 49),qm 9 50] (
 qR [qm 51 0,jA 52 (qY 51),jA 53 (qF 6 52),ql 54 53,qm 55 8,qm 56 9,⟨none,(.mZ .str (.t 54) (.t 55) (.t 56)),none,[],false⟩] (
 qR [qm 57 0,qm 58 0,jA 59 (qY 58),jA 60 (qF 4 59),ql 61 60,qm 62 1,jA 63 (.bu 1 1 [.aq] [(0,(1,(.t 62)))]),jA 64 (qJ 1 24 61 63),jA 65 (qY 57),jA 66 (qF 4 65),jG 1 66 64] (
 .region [qm 67 0,qm 68 0,jA 69 (qY 68),jA 70 (qF 5 69),ql 71 70,jA 72 (.bu 1 1 [.aq] [(0,(1,(.c .aq)))]),jA 73 (qJ 1 24 71 72),jA 74 (qY 67),jA 75 (qF 5 74),jG 1 75 73])))) .skip)) (
 .seq (
 .region [qm 76 9,qm 4 76]) .ret)))))))⟩
theorem c49:aL Tryz.prog GL [] Tryz.f49=some l49:=by kernel_rfl
def l50:bh:=⟨10,[(.tmp 2)],
 (
 qR [jA 1 (qO 0),jA 2 (qC 0)] (
 .seq (
 qR [jA 3 (qN 3 1),jA 4 (qG 18 3),jA 5 (qT 4)] (.cond (.t 5) (
 .seq (
 .region [jA 2 (qC 0)]) .ret) .skip)) (
 .seq (
 .region [jA 6 (qF 2 1),ql 7 6,jA 8 (qS 7),jA 9 (.bin .mul (.c (.int .i64 2)) (.t 8)),qm 2 9]) .ret)))⟩
theorem c50:aL Tryz.prog GL [] Tryz.f50=some l50:=by kernel_rfl
def l51:bh:=⟨90,[],
 (
 qR [jA 3 (qC 0)] (.block 0 (.loop (
 .seq (
 qR [qm 10 3,ql 11 1,jA 12 (qY 11),jA 13 (qF 7 12),ql 14 13,jA 15 (qS 14),jA 16 (qB 10 15)] (.cond (.t 16) .skip (.exit 0))) (
 .seq (.block 1 (
 qR [ql 19 1,jA 20 (qY 19),jA 21 (qF 0 20),jA 22 (qF 0 21),ql 23 22,jA 24 (.cH 1 8 [(.int .i64 0)] (.t 23) (.t 23)),qm 4 24] (
 qR [ql 25 1,jA 26 (qY 25),jA 27 (qF 0 26),jA 28 (qF 0 27),ql 29 28,jA 30 (.cH 1 8 [(.int .i64 0)] (.t 29) (.t 29)),qm 5 30] (
 .seq (
 qR [jB 31 (qL 1),jB 32 (qL 1),jB 33 (qY 32),jB 34 (qF 7 33),jB 35 (qL 34),jB 36 (qM 3),jB 37 (qI 2 35 36),jB 38 (qF 0 37),jB 39 (qL 38),jB 42 (qC 0),jB 40 (.call (.c (.fn (.func 52) [] [])) [(.t 31),(.t 39)]),jB 41 (qS 40)] (.block 2 (.loop (
 qR [jA 43 (qB 42 41)] (
 .seq (.cond (.t 43) .skip (.exit 2)) (
 .seq (.block 3 (
 qR [qm 44 42,jA 45 (qI 3 40 42),jA 46 (qN 3 45),jA 7 (.alloc [(.int .i64 0), .aq, .aq]),qm 6 44,jG 3 7 46] (
 qR [jB 48 (qL 1),jB 49 (qY 48),jB 50 (qF 7 49),jB 51 (qL 50),jB 52 (qM 3),jB 53 (qI 2 51 52),jB 54 (qF 1 53),jB 55 (qL 54),jB 56 (qF 1 7),jB 57 (qN 2 56),jB 58 (.call (.c (.fn (.func 53) [] [])) [(.t 55),(.t 57)]),jB 47 (qM 58),jB 59 (qD 47 0),jB 60 (qD 47 1),jB 8 (qM 59),jB 9 (qM 60)] (
 qR [qm 61 4,qm 62 6,ql 63 1,jA 64 (qF 0 7),ql 65 64,qm 66 8,jA 67 (.build [(.int .i64 0), .aq] [(0,(1,(.t 65))),(1,(1,(.t 66)))]),jA 68 (.call (.c (.fn (.func 48) [] [])) [(.t 63),(.t 67)]),jA 69 (qI 1 61 62),jG 1 69 68] (
 qR [qm 70 5,qm 71 6,qm 72 9,jA 73 (qI 1 70 71),jG 1 73 72] (
 qR [jB 74 (qL 1),jB 75 (qY 74),jB 76 (qF 7 75),jB 77 (qL 76),jB 78 (qS 77),jB 79 (qL 1),jB 80 (qY 79),jB 81 (qF 3 80),jB 82 (qL 81),jB 83 (.bin .gtr (.t 78) (.t 82))] (.cond (.t 83) .ret .skip))))))) (
 .region [jA 84 (qA 42 1),qm 42 84]))))))) (
 qR [qm 85 0,qm 86 4,qm 87 5,jA 88 (.call (.t 85) [(.t 86),(.t 87)]),jA 89 (qT 88)] (.cond (.t 89) .ret .skip)))))) (
 .region [qm 17 3,jA 18 (qA 17 1),qm 3 18]))))))⟩
theorem c51:aL Tryz.prog GL [] Tryz.f51=some l51:=by kernel_rfl
def l52:bh:=⟨67,[(.tmp 4)],
 (
 qR [jA 4 (qX)] (
 .seq (
 qR [qm 9 0,jA 10 (qY 9),jA 11 (qF 5 10),ql 12 11,qm 13 1,jA 14 (qI 1 12 13),ql 15 14,jA 16 (.eq false .Li (.t 15) (.c .aq))] (.cond (.t 16) (
 qR [qm 17 0,jA 18 (qY 17),jA 19 (qF 0 18),jA 20 (qF 0 19),ql 21 20,jA 22 (.cH 3 56 [(.int .i64 0), .aq, .aq] (.t 21) (.t 21)),qm 5 22] (
 .seq (
 qR [qm 23 5,jA 24 (qS 23),jA 25 (qC 0)] (.block 0 (.loop (
 qR [jA 26 (qB 25 24)] (
 .seq (.cond (.t 26) .skip (.exit 0)) (
 .seq (.block 1 (
 qR [qm 27 25,qm 6 27] (
 qR [jB 29 (qM 0),jB 30 (qY 29),jB 31 (qF 0 30),jB 32 (qN 3 31),jB 33 (qM 0),jB 34 (qY 33),jB 35 (qF 4 34),jB 36 (qL 35),jB 37 (qM 1),jB 38 (qI 1 36 37),jB 39 (qL 38),jB 40 (qM 6),⟨(some 8),(.alloc [.aq, .aq]),none,[(32,(none,(.load (some 3) (.t 31)))),(36,(none,(.load none (.t 35)))),(39,(none,(.load none (.t 38))))],true⟩,jB 41 (.call (.c (.fn (.func 75) [] [])) [(.t 32),(.t 39),(.t 40)]),jB 28 (qM 41),jB 42 (qD 28 0),jB 43 (qD 28 1),jB 7 (qM 42),jH 2 8 43] (
 .region [jB 44 (qM 5),jB 45 (qM 6),jB 46 (qM 0),jB 47 (qM 7),jB 49 (qN 2 8),⟨(some 48),(.call (.c (.fn (.func 49) [] [])) [(.t 46),(.t 47)]),none,[(49,(none,(.load (some 2) (.t 8))))],true⟩,jB 50 (.build [(.int .i64 0), .aq, .aq] [(0,(1,(.t 48))),(1,(2,(.t 49)))]),jB 51 (qI 3 44 45),jH 3 51 50])))) (
 .region [jA 52 (qA 25 1),qm 25 52]))))))) (
 .region [qm 53 0,jA 54 (qY 53),jA 55 (qF 5 54),ql 56 55,qm 57 1,qm 58 5,jA 59 (qI 1 56 57),jG 1 59 58]))) .skip)) (
 .seq (
 .region [qm 60 0,jA 61 (qY 60),jA 62 (qF 5 61),ql 63 62,qm 64 1,jA 65 (qI 1 63 64),ql 66 65,qm 4 66]) .ret)))⟩
theorem c52:aL Tryz.prog GL [] Tryz.f52=some l52:=by kernel_rfl
def l53:bh:=⟨85,[(.tmp 4),(.tmp 5)],
 (
 qR [jA 3 (qO 1),jA 4 (qX),jA 5 (qC 0)] (
 qR [qm 17 0,jA 18 (qS 17),qm 6 18] (
 .seq (
 qR [qm 19 0,qm 20 6,jA 21 (.call (.c (.fn (.func 76) [] [])) [(.t 19),(.t 20)]),jA 22 (qT 21)] (.cond (.t 22) (
 .seq (
 .region [jA 4 (qX),jA 5 (qC 0)]) .ret) .skip)) (
 qR [jA 23 (qN 2 3),qm 24 6,jA 25 (.call (.c (.fn (.func 77) [] [])) [(.t 23),(.t 24)]),jA 7 (.alloc [.cm]),jG 1 7 25] (
 qR [jA 26 (.uk (.func 78) [] [(.t 7)]),qm 8 26] (
 qR [jA 27 (.uk (.func 79) [] [(.t 7)]),qm 9 27] (
 qR [qm 28 6,jA 29 (.cH 1 8 [(.int .i64 0)] (.c (.int .i64 0)) (.t 28)),qm 10 29] (
 .seq (
 qR [qm 30 0,jA 31 (qS 30),jA 32 (qC 0)] (.block 0 (.loop (
 qR [jA 33 (qB 32 31)] (
 .seq (.cond (.t 33) .skip (.exit 0)) (
 .seq (.block 1 (
 qR [jA 34 (qI 1 30 32),ql 35 34,qm 12 35] (
 qR [qm 36 8,qm 37 12,jA 38 (.call (.t 36) [(.t 37)]),jA 39 (qT 38)] (.cond (.t 39) (
 .region [qm 40 10,qm 41 12,jA 42 (.bu 1 1 [(.int .i64 0)] [(0,(1,(.t 41)))]),jA 43 (qJ 1 8 40 42),qm 10 43]) .skip)))) (
 .region [jA 44 (qA 32 1),qm 32 44]))))))) (
 .seq (
 qR [qm 45 0,jA 46 (qS 45),jA 47 (qC 0)] (.block 2 (.loop (
 qR [jA 48 (qB 47 46)] (
 .seq (.cond (.t 48) .skip (.exit 2)) (
 .seq (.block 3 (
 qR [jA 49 (qI 1 45 47),ql 50 49,qm 14 50] (
 qR [qm 51 8,qm 52 14,jA 53 (.call (.t 51) [(.t 52)])] (.cond (.t 53) (
 .region [qm 54 10,qm 55 14,jA 56 (.bu 1 1 [(.int .i64 0)] [(0,(1,(.t 55)))]),jA 57 (qJ 1 8 54 56),qm 10 57]) .skip)))) (
 .region [jA 58 (qA 47 1),qm 47 58]))))))) (
 qR [qm 59 0,qm 60 8,jA 61 (.call (.c (.fn (.func 80) [] [])) [(.t 59),(.t 60)]),qm 62 0,qm 63 9,jA 64 (.call (.c (.fn (.func 80) [] [])) [(.t 62),(.t 63)]),qm 15 61,qm 16 64] (
 .seq (.block 4 (
 qR [qm 66 16,qm 67 15,jA 68 (qB 66 67),qm 65 68] (.cond (.t 65) (
 .seq (
 .region [qm 69 10,qm 70 16,jA 71 (.bin .mul (.c (.int .i64 2)) (.t 70)),jA 72 (qA 71 2),qm 4 69,qm 5 72]) .ret) (
 qR [qm 74 15,qm 75 16,jA 76 (qB 74 75),qm 73 76] (.cond (.t 73) (
 .seq (
 .region [qm 77 10,qm 78 15,jA 79 (.bin .mul (.c (.int .i64 2)) (.t 78)),jA 80 (qA 79 1),qm 4 77,qm 5 80]) .ret) .skip))))) (
 .seq (
 .region [qm 81 10,qm 82 6,jA 83 (.bin .mul (.c (.int .i64 2)) (.t 82)),jA 84 (qA 83 1),qm 4 81,qm 5 84]) .ret))))))))))))⟩
theorem c53:aL Tryz.prog GL [] Tryz.f53=some l53:=by kernel_rfl
def l54:bh:=⟨26,[(.tmp 4)],
 (
 qR [jA 2 (qO 0),jA 3 (qO 1),jA 4 (qK false)] (
 .seq (
 .region [jA 5 (qF 0 2),ql 6 5,jA 7 (qF 0 3),ql 8 7,jA 9 (qB 6 8),qm 10 9,jC 11 (qF 0 2) 10,jC 12 (qL 11) 10,jC 13 (qF 0 3) 10,jC 14 (qL 13) 10,jC 15 (.bin .eql (.t 12) (.t 14)) 10,jC 16 (qM 15) 10,jD 17 (qF 1 2) 16,jD 18 (qL 17) 16,jD 19 (qT 18) 16,jC 20 (qV 16 19) 10,jC 21 (qM 20) 10,jD 22 (qF 1 3) 21,jD 23 (qL 22) 21,jC 24 (qV 21 23) 10,jA 25 (qP 10 24),qm 4 25]) .ret))⟩
theorem c54:aL Tryz.prog GL [] Tryz.f54=some l54:=by kernel_rfl
def l55:bh:=⟨28,[(.tmp 4)],
 (
 qR [jA 2 (qO 0),jA 4 (qK false)] (
 .seq (
 qR [jA 6 (qN 3 2),jA 7 (qG 25 6),jA 8 (qT 7),qm 9 8,jC 10 (qM 1) 9,jC 11 (qS 10) 9,jC 12 (qF 2 2) 9,jC 13 (qL 12) 9,jC 14 (qS 13) 9,jC 15 (.bin .gtr (.t 11) (.t 14)) 9,jA 16 (qP 9 15)] (.cond (.t 16) (
 .seq (
 .region [jA 4 (qK false)]) .ret) .skip)) (
 .seq (
 qR [jA 5 (qC 0)] (.block 0 (.loop (
 .seq (
 qR [qm 17 5,qm 18 1,jA 19 (qS 18),jA 20 (qB 17 19)] (.cond (.t 20) .skip (.exit 0))) (
 .seq (.block 1 (
 qR [jA 23 (qN 3 2),qm 24 1,qm 25 5,jA 26 (.call (.c (.fn (.func 81) [] [])) [(.t 23),(.t 24),(.t 25)]),jA 27 (qT 26)] (.cond (.t 27) (
 .seq (
 .region [jA 4 (qK false)]) .ret) .skip))) (
 .region [qm 21 5,jA 22 (qA 21 1),qm 5 22])))))) (
 .seq (
 .region [jA 4 (qK true)]) .ret))))⟩
theorem c55:aL Tryz.prog GL [] Tryz.f55=some l55:=by kernel_rfl
def l56:bh:=⟨74,[(.tmp 8)],
 (
 qR [jA 4 (qO 0),jA 8 (qX)] (
 qR [jA 15 (qF 2 4),ql 16 15,jA 17 (qS 16),jA 18 (.cH 1 1 [(.bool false)] (.t 17) (.t 17)),qm 9 18] (
 .seq (
 qR [jA 10 (qC 0)] (.block 0 (.loop (
 .seq (
 qR [qm 19 10,qm 20 1,jA 21 (qS 20),jA 22 (qB 19 21)] (.cond (.t 22) .skip (.exit 0))) (
 .seq (.block 1 (
 qR [jB 25 (qF 2 4),jB 26 (qL 25),jB 27 (qM 1),jB 28 (qM 10),jB 29 (qI 1 27 28),jB 30 (qL 29),jB 31 (qI 1 26 30),jB 32 (qL 31),jB 33 (qM 2),jB 34 (qI 1 32 33),jB 35 (qL 34),jB 11 (qM 35)] (
 qR [jA 12 (qC 0)] (.block 2 (.loop (
 .seq (
 qR [qm 36 12,qm 37 11,jA 38 (qS 37),jA 39 (qB 36 38)] (.cond (.t 39) .skip (.exit 2))) (
 .seq (.block 3 (
 qR [qm 42 11,qm 43 12,jA 44 (qI 2 42 43),jA 45 (qF 1 44),ql 46 45,qm 47 46,jC 48 (qM 3) 47,jC 49 (qT 48) 47,jA 50 (qP 47 49)] (.cond (.t 50) (
 .region [qm 51 9,qm 52 11,qm 53 12,jA 54 (qI 2 52 53),jA 55 (qF 0 54),ql 56 55,jA 57 (qI 1 51 56),⟨none,(.store 1 (.t 57) (.c (.bool true))),none,[],false⟩]) .skip))) (
 .region [qm 40 12,jA 41 (qA 40 1),qm 12 41])))))))) (
 .region [qm 23 10,jA 24 (qA 23 1),qm 10 24])))))) (
 qR [jA 58 (.bu 1 0 [(.int .i64 0)] []),qm 13 58] (
 .seq (
 qR [jA 14 (qC 0)] (.block 4 (.loop (
 .seq (
 qR [qm 59 14,qm 60 9,jA 61 (qS 60),jA 62 (qB 59 61)] (.cond (.t 62) .skip (.exit 4))) (
 .seq (.block 5 (
 qR [qm 65 9,qm 66 14,jA 67 (qI 1 65 66),ql 68 67] (.cond (.t 68) (
 .region [qm 69 13,qm 70 14,jA 71 (.bu 1 1 [(.int .i64 0)] [(0,(1,(.t 70)))]),jA 72 (qJ 1 8 69 71),qm 13 72]) .skip))) (
 .region [qm 63 14,jA 64 (qA 63 1),qm 14 64])))))) (
 .seq (
 .region [qm 73 13,qm 8 73]) .ret))))))⟩
theorem c56:aL Tryz.prog GL [] Tryz.f56=some l56:=by kernel_rfl
def l57:bh:=⟨79,[(.tmp 4)],
 (
 qR [jA 4 (qX)] (
 qR [jA 10 (.bu 1 0 [(.int .i64 0)] []),qm 5 10] (
 .seq (
 qR [jA 6 (qC 0)] (.block 0 (.loop (
 .seq (
 qR [qm 11 6,qm 12 0,qm 13 1,jA 14 (qI 3 12 13),jA 15 (qF 2 14),ql 16 15,jA 17 (qS 16),jA 18 (qB 11 17)] (.cond (.t 18) .skip (.exit 0))) (
 .seq (.block 1 (
 qR [qm 21 0,qm 22 1,jA 23 (qI 3 21 22),jA 24 (qF 2 23),ql 25 24,qm 26 6,jA 27 (qI 1 25 26),ql 28 27,qm 7 28] (
 qR [qm 29 1,jA 30 (qH 29 0),qm 31 30,jC 32 (qM 0) 31,jC 33 (qM 0) 31,jC 34 (qM 1) 31,jC 35 (qI 3 33 34) 31,jC 36 (qF 1 35) 31,jC 37 (qL 36) 31,jC 38 (qI 3 32 37) 31,jC 39 (qF 2 38) 31,jC 40 (qL 39) 31,jC 41 (qM 7) 31,jC 42 (.call (.c (.fn (.func 82) [] [])) [(.t 40),(.t 41)]) 31,jA 43 (qP 31 42),qm 8 43] (
 .seq (
 qR [jA 9 (qC 1)] (.block 2 (.loop (
 .seq (
 qR [qm 44 9,qm 45 1,jA 46 (qB 44 45),qm 47 46,jD 48 (qM 8) 47,jA 49 (qV 47 48)] (.cond (.t 49) .skip (.exit 2))) (
 .seq (.block 3 (
 .region [jB 52 (qM 0),jB 53 (qM 9),jB 54 (qI 3 52 53),jB 55 (qF 1 54),jB 56 (qL 55),jB 57 (qM 0),jB 58 (qM 1),jB 59 (qI 3 57 58),jB 60 (qF 1 59),jB 61 (qL 60),jB 62 (.bin .neq (.t 56) (.t 61)),jB 63 (qM 62),jF 64 (qM 0) 63,jF 65 (qM 9) 63,jF 66 (qI 3 64 65) 63,jF 67 (qF 2 66) 63,jF 68 (qL 67) 63,jF 69 (qM 7) 63,jF 70 (.call (.c (.fn (.func 82) [] [])) [(.t 68),(.t 69)]) 63,jF 71 (qT 70) 63,jB 72 (qP 63 71),jB 8 (qM 72)])) (
 .region [qm 50 9,jA 51 (qA 50 1),qm 9 51])))))) (
 qR [qm 73 8] (.cond (.t 73) (
 .region [qm 74 5,qm 75 7,jA 76 (.bu 1 1 [(.int .i64 0)] [(0,(1,(.t 75)))]),jA 77 (qJ 1 8 74 76),qm 5 77]) .skip)))))) (
 .region [qm 19 6,jA 20 (qA 19 1),qm 6 20])))))) (
 .seq (
 .region [qm 78 5,qm 4 78]) .ret))))⟩
theorem c57:aL Tryz.prog GL [] Tryz.f57=some l57:=by kernel_rfl
def l58:bh:=⟨56,[(.tmp 2),(.tmp 3)],
 (
 qR [jA 2 (qX),jA 3 (qX)] (
 qR [jA 8 (.bu 1 0 [(.int .i64 0)] []),qm 4 8] (
 .seq (
 qR [jA 5 (qC 0)] (.block 0 (.loop (
 .seq (
 qR [qm 9 5,qm 10 0,jA 11 (qS 10),jA 12 (qB 9 11)] (.cond (.t 12) .skip (.exit 0))) (
 .seq (.block 1 (
 .seq (
 qR [jB 15 (qM 0),jB 16 (qM 5),jB 19 (qM 0),jB 20 (qM 5),jB 21 (qI 3 19 20),jB 22 (qF 2 21),jB 23 (qL 22),jB 24 (qS 23),⟨(some 17),(.call (.c (.fn (.func 83) [] [])) [(.t 15),(.t 16)]),none,[(23,(none,(.load none (.t 22))))],true⟩,jB 18 (qS 17),jB 25 (qB 18 24)] (.cond (.t 25) (.exit 1) .skip)) (
 qR [qm 26 4,qm 27 0,qm 28 5,jA 29 (qI 3 27 28),jA 30 (qF 0 29),ql 31 30,jA 32 (.bu 1 1 [(.int .i64 0)] [(0,(1,(.t 31)))]),jA 33 (qJ 1 8 26 32),qm 4 33] (
 qR [qm 34 0,jA 35 (qS 34),jA 36 (.cH 1 1 [(.bool false)] (.t 35) (.t 35)),qm 6 36] (
 .seq (
 qR [jA 7 (qC 0)] (.block 2 (.loop (
 .seq (
 qR [qm 37 7,qm 38 0,jA 39 (qS 38),jA 40 (qB 37 39)] (.cond (.t 40) .skip (.exit 2))) (
 .seq (.block 3 (
 .region [qm 43 6,qm 44 7,qm 45 0,qm 46 7,qm 47 5,jA 48 (.call (.c (.fn (.func 84) [] [])) [(.t 45),(.t 46),(.t 47)]),jA 49 (qT 48),jA 50 (qI 1 43 44),jG 1 50 49])) (
 .region [qm 41 7,jA 42 (qA 41 1),qm 7 42])))))) (
 .region [qm 51 0,qm 52 6,jA 53 (.call (.c (.fn (.func 59) [] [])) [(.t 51),(.t 52)]),qm 0 53])))))) (
 .region [qm 13 5,jA 14 (qA 13 1),qm 5 14])))))) (
 .seq (
 .region [qm 54 0,qm 55 4,qm 2 54,qm 3 55]) .ret))))⟩
theorem c58:aL Tryz.prog GL [] Tryz.f58=some l58:=by kernel_rfl
def l59:bh:=⟨47,[(.tmp 4)],
 (
 qR [jA 4 (qX)] (
 qR [jA 9 (.bu 3 0 [(.int .i64 0),(.int .i64 0), .aq] []),qm 5 9] (
 qR [qm 10 0,jA 11 (qS 10),jA 12 (.cH 1 8 [(.int .i64 0)] (.t 11) (.t 11)),qm 6 12] (
 .seq (
 qR [jA 7 (qC 0)] (.block 0 (.loop (
 .seq (
 qR [qm 13 7,qm 14 0,jA 15 (qS 14),jA 16 (qB 13 15)] (.cond (.t 16) .skip (.exit 0))) (
 .seq (.block 1 (
 .seq (
 qR [qm 19 1,qm 20 7,jA 21 (qI 1 19 20),ql 22 21,jA 23 (qT 22)] (.cond (.t 23) (.exit 1) .skip)) (
 qR [qm 24 0,qm 25 7,jA 26 (qI 3 24 25),jA 27 (qN 3 26),jA 8 (.alloc [(.int .i64 0),(.int .i64 0), .aq]),jG 3 8 27] (
 .seq (
 qR [jA 28 (qF 1 8),ql 29 28,jA 30 (.bin .geq (.t 29) (.c (.int .i64 0)))] (.cond (.t 30) (
 .region [qm 31 6,jA 32 (qF 1 8),ql 33 32,jA 34 (qI 1 31 33),ql 35 34,jA 36 (qF 1 8),jG 1 36 35]) .skip)) (
 qR [qm 37 6,qm 38 7,qm 39 5,jA 40 (qS 39),jA 41 (qI 1 37 38),jG 1 41 40] (
 .region [qm 42 5,jA 43 (qN 3 8),jA 44 (.bu 3 1 [(.int .i64 0),(.int .i64 0), .aq] [(0,(3,(.t 43)))]),jA 45 (qJ 3 40 42 44),qm 5 45])))))) (
 .region [qm 17 7,jA 18 (qA 17 1),qm 7 18])))))) (
 .seq (
 .region [qm 46 5,qm 4 46]) .ret)))))⟩
theorem c59:aL Tryz.prog GL [] Tryz.f59=some l59:=by kernel_rfl
def l60:bh:=⟨62,[(.tmp 4),(.tmp 5)],
 (
 qR [jA 4 (qX),jA 5 (qX)] (
 qR [qm 11 0,jA 12 (qG 85 11),qm 6 12] (
 qR [jA 13 (.bu 1 0 [(.int .i64 0)] []),qm 7 13] (
 .seq (
 qR [jA 8 (qC 0)] (.block 0 (.loop (
 .seq (
 qR [qm 14 8,qm 15 6,jA 16 (qS 15),jA 17 (qB 14 16)] (.cond (.t 17) .skip (.exit 0))) (
 .seq (.block 1 (
 qR [jB 20 (qM 1),jB 22 (qM 6),jB 23 (qM 8),jB 24 (qI 1 22 23),jB 25 (qL 24),⟨(some 21),(.call (.c (.fn (.func 85) [] [])) [(.t 20)]),none,[(25,(none,(.load none (.t 24))))],true⟩,jB 26 (.call (.c (.fn (.func 82) [] [])) [(.t 21),(.t 25)]),jB 27 (qT 26)] (.cond (.t 27) (
 .region [qm 28 7,qm 29 6,qm 30 8,jA 31 (qI 1 29 30),ql 32 31,jA 33 (.bu 1 1 [(.int .i64 0)] [(0,(1,(.t 32)))]),jA 34 (qJ 1 8 28 33),qm 7 34]) .skip))) (
 .region [qm 18 8,jA 19 (qA 18 1),qm 8 19])))))) (
 qR [jA 9 (qC 1)] (
 .seq (
 qR [jA 10 (qC 0)] (.block 2 (.loop (
 .seq (
 qR [qm 35 10,qm 36 1,jA 37 (qS 36),jA 38 (qB 35 37)] (.cond (.t 38) .skip (.exit 2))) (
 .seq (.block 3 (
 .seq (
 qR [qm 41 1,qm 42 10,jA 43 (qI 3 41 42),jA 44 (qF 0 43),ql 45 44,jA 46 (qU 45 0)] (.cond (.t 46) (.exit 3) .skip)) (
 .seq (.block 4 (.loop (
 .seq (
 qR [qm 47 6,qm 48 9,jA 49 (.call (.c (.fn (.func 82) [] [])) [(.t 47),(.t 48)])] (.cond (.t 49) .skip (.exit 4))) (.block 5 (
 .region [qm 50 9,jA 51 (qA 50 1),qm 9 51]))))) (
 qR [qm 52 1,qm 53 10,qm 54 9,jA 55 (qI 3 52 53),jA 56 (qF 0 55),jG 1 56 54] (
 .region [qm 57 9,jA 58 (qA 57 1),qm 9 58]))))) (
 .region [qm 39 10,jA 40 (qA 39 1),qm 10 40])))))) (
 .seq (
 .region [qm 59 1,qm 60 7,jA 61 (qG 61 60),qm 4 59,qm 5 61]) .ret)))))))⟩
theorem c60:aL Tryz.prog GL [] Tryz.f60=some l60:=by kernel_rfl
def l61:bh:=⟨55,[(.tmp 2)],
 (
 qR [jA 2 (qX)] (
 qR [jA 6 (.bu 1 0 [(.int .i64 0)] []),qm 3 6] (
 .seq (
 qR [jA 4 (qC 0)] (.block 0 (.loop (
 .seq (
 qR [qm 7 4,qm 8 0,jA 9 (qS 8),jA 10 (qB 7 9)] (.cond (.t 10) .skip (.exit 0))) (
 .seq (.block 1 (
 qR [qm 13 3,jA 14 (qS 13),qm 5 14] (
 qR [qm 15 3,qm 16 0,qm 17 4,jA 18 (qI 1 16 17),ql 19 18,jA 20 (.bu 1 1 [(.int .i64 0)] [(0,(1,(.t 19)))]),jA 21 (qJ 1 8 15 20),qm 3 21] (.block 2 (.loop (
 .seq (
 qR [jB 22 (qM 5),jB 23 (qU 22 0),jB 24 (qM 23),jE 25 (qM 3) 24,jE 26 (qM 5) 24,jE 27 (.bin .sub (.t 26) (.c (.int .i64 1))) 24,jE 28 (qI 1 25 27) 24,jE 29 (qL 28) 24,jE 30 (qM 3) 24,jE 31 (qM 5) 24,jE 32 (qI 1 30 31) 24,jE 33 (qL 32) 24,jE 34 (.bin .gtr (.t 29) (.t 33)) 24,jB 35 (qV 24 34)] (.cond (.t 35) .skip (.exit 2))) (.block 3 (
 qR [jB 36 (qM 3),jB 37 (qM 5),jB 38 (.bin .sub (.t 37) (.c (.int .i64 1))),jB 39 (qM 3),jB 40 (qM 5),jB 41 (qM 3),jB 42 (qM 5),jB 43 (qI 1 41 42),jB 44 (qL 43),jB 45 (qM 3),jB 46 (qM 5),jB 47 (.bin .sub (.t 46) (.c (.int .i64 1))),jB 48 (qI 1 45 47),jB 49 (qL 48),jB 50 (qI 1 36 38),jH 1 50 44,jB 51 (qI 1 39 40),jH 1 51 49] (
 .region [qm 52 5,jA 53 (.bin .sub (.t 52) (.c (.int .i64 1))),qm 5 53]))))))))) (
 .region [qm 11 4,jA 12 (qA 11 1),qm 4 12])))))) (
 .seq (
 .region [qm 54 3,qm 2 54]) .ret))))⟩
theorem c61:aL Tryz.prog GL [] Tryz.f61=some l61:=by kernel_rfl
def l62:bh:=⟨55,[(.tmp 4)],
 (
 qR [jA 4 (qK false)] (
 .seq (
 qR [qm 7 1,jA 8 (qW 7 0),qm 9 8,jC 10 (qM 1) 9,jC 11 (qU 10 6000) 9,jA 12 (qP 9 11),qm 13 12,jC 14 (qM 0) 13,jC 15 (qS 14) 13,jC 16 (qM 1) 13,jC 17 (.bin .neq (.t 15) (.t 16)) 13,jA 18 (qP 13 17)] (.cond (.t 18) (
 .seq (
 .region [jA 4 (qK false)]) .ret) .skip)) (
 qR [qm 19 1,jA 20 (qA 19 1),jA 21 (.cH 1 1 [(.bool false)] (.t 20) (.t 20)),qm 5 21] (
 .seq (
 qR [jA 6 (qC 0)] (.block 0 (.loop (
 .seq (
 qR [qm 22 6,qm 23 1,jA 24 (qB 22 23)] (.cond (.t 24) .skip (.exit 0))) (
 .seq (.block 1 (
 .seq (
 qR [qm 27 0,qm 28 6,jA 29 (qI 1 27 28),ql 30 29,jA 31 (qW 30 1),qm 32 31,jC 33 (qM 0) 32,jC 34 (qM 6) 32,jC 35 (qI 1 33 34) 32,jC 36 (qL 35) 32,jC 37 (qM 1) 32,jC 38 (.bin .gtr (.t 36) (.t 37)) 32,jA 39 (qP 32 38),qm 40 39,jC 41 (qM 5) 40,jC 42 (qM 0) 40,jC 43 (qM 6) 40,jC 44 (qI 1 42 43) 40,jC 45 (qL 44) 40,jC 46 (qI 1 41 45) 40,jC 47 (qL 46) 40,jA 48 (qP 40 47)] (.cond (.t 48) (
 .seq (
 .region [jA 4 (qK false)]) .ret) .skip)) (
 .region [qm 49 5,qm 50 0,qm 51 6,jA 52 (qI 1 50 51),ql 53 52,jA 54 (qI 1 49 53),⟨none,(.store 1 (.t 54) (.c (.bool true))),none,[],false⟩]))) (
 .region [qm 25 6,jA 26 (qA 25 1),qm 6 26])))))) (
 .seq (
 .region [jA 4 (qK true)]) .ret)))))⟩
theorem c62:aL Tryz.prog GL [] Tryz.f62=some l62:=by kernel_rfl
def l63:bh:=⟨18,[(.tmp 4)],
 (
 qR [jA 4 (qK false)] (
 .seq (
 qR [jA 5 (qC 0)] (.block 0 (.loop (
 .seq (
 qR [qm 6 5,qm 7 0,jA 8 (qS 7),jA 9 (qB 6 8)] (.cond (.t 9) .skip (.exit 0))) (
 .seq (.block 1 (
 qR [qm 12 0,qm 13 5,jA 14 (qI 1 12 13),ql 15 14,qm 16 1,jA 17 (.bin .eql (.t 15) (.t 16))] (.cond (.t 17) (
 .seq (
 .region [jA 4 (qK true)]) .ret) .skip))) (
 .region [qm 10 5,jA 11 (qA 10 1),qm 5 11])))))) (
 .seq (
 .region [jA 4 (qK false)]) .ret)))⟩
theorem c63:aL Tryz.prog GL [] Tryz.f63=some l63:=by kernel_rfl
def l64:bh:=⟨26,[(.tmp 4)],
 (
 qR [jA 4 (qK false)] (
 .seq (
 qR [qm 6 0,jA 7 (qS 6),qm 8 1,jA 9 (qS 8),jA 10 (.bin .neq (.t 7) (.t 9))] (.cond (.t 10) (
 .seq (
 .region [jA 4 (qK false)]) .ret) .skip)) (
 .seq (
 qR [jA 5 (qC 0)] (.block 0 (.loop (
 .seq (
 qR [qm 11 5,qm 12 0,jA 13 (qS 12),jA 14 (qB 11 13)] (.cond (.t 14) .skip (.exit 0))) (
 .seq (.block 1 (
 qR [jB 17 (qM 0),jB 18 (qM 5),jB 19 (qI 1 17 18),jB 20 (qL 19),jB 21 (qM 1),jB 22 (qM 5),jB 23 (qI 1 21 22),jB 24 (qL 23),jB 25 (.bin .neq (.t 20) (.t 24))] (.cond (.t 25) (
 .seq (
 .region [jA 4 (qK false)]) .ret) .skip))) (
 .region [qm 15 5,jA 16 (qA 15 1),qm 5 16])))))) (
 .seq (
 .region [jA 4 (qK true)]) .ret))))⟩
theorem c64:aL Tryz.prog GL [] Tryz.f64=some l64:=by kernel_rfl
def l65:bh:=⟨55,[(.tmp 4)],
 (
 qR [jA 4 (qK false)] (
 .seq (
 qR [qm 6 0,jA 7 (qS 6),qm 8 1,jA 9 (qS 8),jA 10 (.bin .neq (.t 7) (.t 9))] (.cond (.t 10) (
 .seq (
 .region [jA 4 (qK false)]) .ret) .skip)) (
 .seq (
 qR [jA 5 (qC 0)] (.block 0 (.loop (
 .seq (
 qR [qm 11 5,qm 12 0,jA 13 (qS 12),jA 14 (qB 11 13)] (.cond (.t 14) .skip (.exit 0))) (
 .seq (.block 1 (
 qR [jB 17 (qM 0),jB 18 (qM 5),jB 19 (qI 3 17 18),jB 20 (qF 0 19),jB 21 (qL 20),jB 22 (qM 1),jB 23 (qM 5),jB 24 (qI 3 22 23),jB 25 (qF 0 24),jB 26 (qL 25),jB 27 (.bin .neq (.t 21) (.t 26)),jB 28 (qM 27),jF 29 (qM 0) 28,jF 30 (qM 5) 28,jF 31 (qI 3 29 30) 28,jF 32 (qF 1 31) 28,jF 33 (qL 32) 28,jF 34 (qM 1) 28,jF 35 (qM 5) 28,jF 36 (qI 3 34 35) 28,jF 37 (qF 1 36) 28,jF 38 (qL 37) 28,jF 39 (.bin .neq (.t 33) (.t 38)) 28,jB 40 (qP 28 39),jB 41 (qM 40),jF 42 (qM 0) 41,jF 43 (qM 5) 41,jF 44 (qI 3 42 43) 41,jF 45 (qF 2 44) 41,jF 46 (qL 45) 41,jF 47 (qM 1) 41,jF 48 (qM 5) 41,jF 49 (qI 3 47 48) 41,jF 50 (qF 2 49) 41,jF 51 (qL 50) 41,jF 52 (.call (.c (.fn (.func 64) [] [])) [(.t 46),(.t 51)]) 41,jF 53 (qT 52) 41,jB 54 (qP 41 53)] (.cond (.t 54) (
 .seq (
 .region [jA 4 (qK false)]) .ret) .skip))) (
 .region [qm 15 5,jA 16 (qA 15 1),qm 5 16])))))) (
 .seq (
 .region [jA 4 (qK true)]) .ret))))⟩
theorem c65:aL Tryz.prog GL [] Tryz.f65=some l65:=by kernel_rfl
def l66:bh:=⟨53,[(.tmp 2)],
 (
 qR [jA 1 (qO 0),jA 2 (qK false)] (
 .seq (
 qR [jA 7 (qF 0 1),ql 8 7,jA 9 (qS 8),jA 10 (qU 9 60),qm 11 10,jC 12 (qF 1 1) 11,jC 13 (qL 12) 11,jC 14 (qS 13) 11,jC 15 (qW 14 1) 11,jA 16 (qP 11 15),qm 17 16,jC 18 (qF 1 1) 17,jC 19 (qL 18) 17,jC 20 (qS 19) 17,jC 21 (qU 20 40) 17,jA 22 (qP 17 21)] (.cond (.t 22) (
 .seq (
 .region [jA 2 (qK false)]) .ret) .skip)) (
 .seq (
 qR [jA 3 (qC 0)] (.block 0 (.loop (
 .seq (
 qR [qm 23 3,jA 24 (qF 0 1),ql 25 24,jA 26 (qS 25),jA 27 (qB 23 26)] (.cond (.t 27) .skip (.exit 0))) (
 .seq (.block 1 (
 qR [jA 30 (qF 0 1),ql 31 30,qm 32 3,jA 33 (qI 1 31 32),ql 34 33,jA 35 (qG 86 34),qm 4 35] (
 qR [qm 36 4,jA 37 (qT 36)] (.cond (.t 37) (
 .seq (
 .region [jA 2 (qK false)]) .ret) .skip)))) (
 .region [qm 28 3,jA 29 (qA 28 1),qm 3 29])))))) (
 .seq (
 qR [jA 5 (qC 0)] (.block 2 (.loop (
 .seq (
 qR [qm 38 5,jA 39 (qF 1 1),ql 40 39,jA 41 (qS 40),jA 42 (qB 38 41)] (.cond (.t 42) .skip (.exit 2))) (
 .seq (.block 3 (
 qR [jA 45 (qF 1 1),ql 46 45,qm 47 5,jA 48 (qI 1 46 47),ql 49 48,jA 50 (qG 86 49),qm 6 50] (
 qR [qm 51 6,jA 52 (qT 51)] (.cond (.t 52) (
 .seq (
 .region [jA 2 (qK false)]) .ret) .skip)))) (
 .region [qm 43 5,jA 44 (qA 43 1),qm 5 44])))))) (
 .seq (
 .region [jA 2 (qK true)]) .ret)))))⟩
theorem c66:aL Tryz.prog GL [] Tryz.f66=some l66:=by kernel_rfl
def l67:bh:=⟨20,[(.tmp 4)],
 (
 qR [jA 4 (qC 0)] (
 qR [qm 7 0,jA 8 (qG 87 7),qm 5 8] (
 qR [qm 9 1,jA 10 (qG 87 9),qm 6 10] (
 .seq (
 qR [qm 11 5] (.cond (.t 11) (
 .seq (
 qR [qm 12 6] (.cond (.t 12) (
 .seq (
 .region [jA 4 (qC 0)]) .ret) .skip)) (
 .seq (
 .region [jA 4 (.mv (.c (.int .i64 (-1))))]) .ret)) .skip)) (
 .seq (
 qR [qm 13 6] (.cond (.t 13) (
 .seq (
 .region [jA 4 (qC 1)]) .ret) .skip)) (
 .seq (
 qR [qm 14 0,qm 15 1,jA 16 (qB 14 15)] (.cond (.t 16) (
 .seq (
 .region [jA 4 (.mv (.c (.int .i64 (-1))))]) .ret) .skip)) (
 .seq (
 qR [qm 17 0,qm 18 1,jA 19 (.bin .gtr (.t 17) (.t 18))] (.cond (.t 19) (
 .seq (
 .region [jA 4 (qC 1)]) .ret) .skip)) (
 .seq (
 .region [jA 4 (qC 0)]) .ret))))))))⟩
theorem c67:aL Tryz.prog GL [] Tryz.f67=some l67:=by kernel_rfl
def l74:bh:=⟨24,[(.tmp 2)],
 (
 qR [jA 2 (.mv (.c (.str ⟨#[]⟩)))] (
 qR [qm 7 0,jA 8 (qS 7),jA 9 (.bin .mul (.c (.int .i64 2)) (.t 8)),jA 10 (.cH 1 1 [(.int .u8 0)] (.c (.int .i64 0)) (.t 9)),jA 3 (.alloc [.aq]),jG 1 3 10] (
 qR [jA 11 (.uk (.func 90) [] [(.t 3)]),qm 4 11] (
 .seq (
 qR [qm 12 0,jA 13 (qS 12),jA 14 (qC 0)] (.block 0 (.loop (
 qR [jA 15 (qB 14 13)] (
 .seq (.cond (.t 15) .skip (.exit 0)) (
 .seq (.block 1 (
 qR [jA 16 (qI 1 12 14),ql 17 16,qm 6 17] (
 .region [qm 18 4,qm 19 6,jA 20 (.call (.t 18) [(.t 19)])]))) (
 .region [jA 21 (qA 14 1),qm 14 21]))))))) (
 .seq (
 .region [ql 22 3,jA 23 (.mA (.t 22)),qm 2 23]) .ret)))))⟩
theorem c74:aL Tryz.prog GL [] Tryz.f74=some l74:=by kernel_rfl
def l75:bh:=⟨108,[(.tmp 6),(.cell 7 (some 2))],
 (
 qR [jA 3 (qO 0),jA 6 (qX),jA 7 (.alloc [.aq, .aq])] (
 .seq (
 qR [jA 14 (qN 3 3),qm 15 1,jA 16 (.call (.c (.fn (.func 91) [] [])) [(.t 14),(.t 15)]),jA 17 (qT 16),qm 18 17,jC 19 (qM 2) 18,jC 20 (qW 19 0) 18,jA 21 (qP 18 20),qm 22 21,jC 23 (qM 2) 22,jC 24 (qF 0 3) 22,jC 25 (qL 24) 22,jC 26 (.bin .geq (.t 23) (.t 25)) 22,jA 27 (qP 22 26)] (.cond (.t 27) (
 .seq (
 .region [jA 28 (.build [.aq, .aq] []),jA 6 (qX),jG 2 7 28]) .ret) .skip)) (
 qR [jA 29 (qN 3 3),qm 30 1,qm 31 2,jA 32 (.call (.c (.fn (.func 92) [] [])) [(.t 29),(.t 30),(.t 31)]),qm 8 32] (
 qR [qm 33 8,jA 34 (qG 93 33)] (
 qR [qm 35 8,jA 36 (qG 94 35)] (
 qR [qm 37 8,jA 38 (qG 95 37)] (
 qR [jA 9 (qX)] (
 qR [jA 10 (.alloc [.aq, .aq])] (
 qR [qm 39 8,jA 40 (qS 39),jA 41 (.cH 1 8 [(.int .i64 0)] (.t 40) (.t 40)),qm 11 41] (
 .seq (
 qR [qm 42 8,jA 43 (qS 42),jA 44 (qC 0)] (.block 0 (.loop (
 qR [jA 45 (qB 44 43)] (
 .seq (.cond (.t 45) .skip (.exit 0)) (
 .seq (.block 1 (
 qR [qm 46 44,jA 47 (qI 7 42 44),jA 48 (qN 7 47),jA 13 (.alloc [(.int .i64 0),(.int .i64 0), .aq, .cm,(.bool false),(.bool false),(.bool false)]),qm 12 46,jG 7 13 48] (
 .seq (
 qR [jA 49 (qF 6 13),ql 50 49] (.cond (.t 50) (
 .seq (
 qR [jA 51 (qF 4 13),ql 52 51] (.cond (.t 52) (
 .region [jA 53 (qF 1 10),ql 54 53,jA 55 (qF 0 13),jA 56 (qF 0 55),ql 57 56,jA 58 (.bu 1 1 [(.int .i64 0)] [(0,(1,(.t 57)))]),jA 59 (qJ 1 8 54 58),jA 60 (qF 1 10),jG 1 60 59]) .skip)) (.exit 1)) .skip)) (
 .seq (
 qR [jA 61 (qF 5 13),ql 62 61] (.cond (.t 62) (
 .region [jA 63 (qF 0 10),ql 64 63,jA 65 (qF 0 13),jA 66 (qF 0 65),ql 67 66,jA 68 (.bu 1 1 [(.int .i64 0)] [(0,(1,(.t 67)))]),jA 69 (qJ 1 8 64 68),jA 70 (qF 0 10),jG 1 70 69]) .skip)) (
 qR [qm 71 11,qm 72 12,qm 73 9,jA 74 (qS 73),jA 75 (qI 1 71 72),jG 1 75 74] (
 .seq (
 qR [jA 76 (qF 0 13),jA 77 (qF 1 76),ql 78 77,jA 79 (.bin .geq (.t 78) (.c (.int .i64 0)))] (.cond (.t 79) (
 .region [qm 80 11,jA 81 (qF 0 13),jA 82 (qF 1 81),ql 83 82,jA 84 (qI 1 80 83),ql 85 84,jA 86 (qF 0 13),jA 87 (qF 1 86),jG 1 87 85]) .skip)) (
 qR [jA 88 (qF 3 13),ql 89 88,jA 90 (qG 97 89),jA 91 (qG 96 90),jA 92 (qF 0 13),jA 93 (qF 2 92),jG 1 93 91] (
 .region [qm 94 9,jA 95 (qF 0 13),jA 96 (qN 3 95),jA 97 (.bu 3 1 [(.int .i64 0),(.int .i64 0), .aq] [(0,(3,(.t 96)))]),jA 98 (qJ 3 40 94 97),qm 9 98])))))))) (
 .region [jA 99 (qA 44 1),qm 44 99]))))))) (
 qR [jA 100 (qF 0 10),ql 101 100,jA 102 (qG 98 101)] (
 qR [jA 103 (qF 1 10),ql 104 103,jA 105 (qG 98 104)] (
 .seq (
 .region [jB 106 (qM 9),jB 107 (qN 2 10),jB 6 (qM 106),jH 2 7 107]) .ret)))))))))))))⟩
theorem c75:aL Tryz.prog GL [] Tryz.f75=some l75:=by kernel_rfl
def l76:bh:=⟨46,[(.tmp 4)],
 (
 qR [jA 4 (qK false)] (
 .seq (
 qR [qm 8 1,jA 9 (qW 8 0),qm 10 9,jC 11 (qM 1) 10,jC 12 (qU 11 6000) 10,jA 13 (qP 10 12),qm 14 13,jC 15 (qM 0) 14,jC 16 (qS 15) 14,jC 17 (qM 1) 14,jC 18 (.bin .neq (.t 16) (.t 17)) 14,jA 19 (qP 14 18)] (.cond (.t 19) (
 .seq (
 .region [jA 4 (qK false)]) .ret) .skip)) (
 qR [qm 20 1,jA 21 (qA 20 1),jA 22 (.cH 1 1 [(.bool false)] (.t 21) (.t 21)),qm 5 22] (
 .seq (
 qR [qm 23 0,jA 24 (qS 23),jA 25 (qC 0)] (.block 0 (.loop (
 qR [jA 26 (qB 25 24)] (
 .seq (.cond (.t 26) .skip (.exit 0)) (
 .seq (.block 1 (
 qR [jA 27 (qI 1 23 25),ql 28 27,qm 7 28] (
 .seq (
 qR [qm 29 7,jA 30 (qW 29 1),qm 31 30,jC 32 (qM 7) 31,jC 33 (qM 1) 31,jC 34 (.bin .gtr (.t 32) (.t 33)) 31,jA 35 (qP 31 34),qm 36 35,jC 37 (qM 5) 36,jC 38 (qM 7) 36,jC 39 (qI 1 37 38) 36,jC 40 (qL 39) 36,jA 41 (qP 36 40)] (.cond (.t 41) (
 .seq (
 .region [jA 4 (qK false)]) .ret) .skip)) (
 .region [qm 42 5,qm 43 7,jA 44 (qI 1 42 43),⟨none,(.store 1 (.t 44) (.c (.bool true))),none,[],false⟩])))) (
 .region [jA 45 (qA 25 1),qm 25 45]))))))) (
 .seq (
 .region [jA 4 (qK true)]) .ret)))))⟩
theorem c76:aL Tryz.prog GL [] Tryz.f76=some l76:=by kernel_rfl
def l77:bh:=⟨18,[(.tmp 4)],
 (
 qR [jA 2 (qO 0),jA 3 (qO 1),jA 4 (.mv (.c .cm))] (
 qR [jA 7 (.iT none),jA 5 (.alloc [.cm]),jG 1 5 7] (
 qR [jA 8 (.uk (.func 99) [] [(.t 3),(.t 5)]),qm 6 8] (
 qR [qm 9 6,jA 10 (qF 0 2),ql 11 10,jA 12 (.call (.t 9) [(.t 11),(.c (.int .i64 1))])] (
 qR [qm 13 6,jA 14 (qF 1 2),ql 15 14,jA 16 (.call (.t 13) [(.t 15),(.c (.int .i64 2))])] (
 .seq (
 .region [ql 17 5,qm 4 17]) .ret))))))⟩
theorem c77:aL Tryz.prog GL [] Tryz.f77=some l77:=by kernel_rfl
def l78:bh:=⟨8,[(.tmp 3)],
 (
 qR [jA 3 (qK false)] (
 .seq (
 .region [ql 4 1,qm 5 0,jA 6 (.gp (.int .i64) (.int .i64 0) false (.t 4) (.t 5)),jA 7 (qH 6 2),qm 3 7]) .ret))⟩
theorem c78:aL Tryz.prog GL [] Tryz.f78=some l78:=by kernel_rfl
def l79:bh:=⟨8,[(.tmp 3)],
 (
 qR [jA 3 (qK false)] (
 .seq (
 .region [ql 4 1,qm 5 0,jA 6 (.gp (.int .i64) (.int .i64 0) false (.t 4) (.t 5)),jA 7 (qH 6 1),qm 3 7]) .ret))⟩
theorem c79:aL Tryz.prog GL [] Tryz.f79=some l79:=by kernel_rfl
def l80:bh:=⟨21,[(.tmp 4)],
 (
 qR [jA 4 (qC 0)] (
 .seq (
 qR [qm 7 0,jA 8 (qS 7),jA 9 (qC 0)] (.block 0 (.loop (
 qR [jA 10 (qB 9 8)] (
 .seq (.cond (.t 10) .skip (.exit 0)) (
 .seq (.block 1 (
 qR [qm 11 9,jA 12 (qI 1 7 9),ql 13 12,qm 5 11,qm 6 13] (
 qR [qm 14 1,qm 15 6,jA 16 (.call (.t 14) [(.t 15)])] (.cond (.t 16) (
 .seq (
 .region [qm 17 5,qm 4 17]) .ret) .skip)))) (
 .region [jA 18 (qA 9 1),qm 9 18]))))))) (
 .seq (
 .region [qm 19 0,jA 20 (qS 19),qm 4 20]) .ret)))⟩
theorem c80:aL Tryz.prog GL [] Tryz.f80=some l80:=by kernel_rfl
def l81:bh:=⟨162,[(.tmp 6)],
 (
 qR [jA 3 (qO 0),jA 6 (qK false)] (
 qR [qm 11 1,qm 12 2,jA 13 (qI 3 11 12),jA 14 (qN 3 13),jA 7 (.alloc [(.int .i64 0),(.int .i64 0), .aq]),jG 3 7 14] (
 .seq (
 qR [jA 15 (qF 0 7),ql 16 15,jA 17 (qW 16 1),qm 18 17,jC 19 (qF 0 7) 18,jC 20 (qL 19) 18,jC 21 (qF 2 3) 18,jC 22 (qL 21) 18,jC 23 (qS 22) 18,jC 24 (.bin .mul (.c (.int .i64 2)) (.t 23)) 18,jC 25 (.bin .gtr (.t 20) (.t 24)) 18,jA 26 (qP 18 25),qm 27 26,jC 28 (qF 2 7) 27,jC 29 (qL 28) 27,jC 30 (qS 29) 27,jC 31 (qH 30 0) 27,jA 32 (qP 27 31),qm 33 32,jC 34 (qM 2) 33,jC 35 (qH 34 0) 33,jC 36 (qF 1 7) 33,jC 37 (qL 36) 33,jC 38 (.bin .eql (.t 37) (.c (.int .i64 (-1)))) 33,jC 39 (.eq true .bool (.t 35) (.t 38)) 33,jA 40 (qP 33 39),qm 41 40,jC 42 (qF 1 7) 41,jC 43 (qL 42) 41,jC 44 (qM 2) 41,jC 45 (.bin .geq (.t 43) (.t 44)) 41,jA 46 (qP 41 45),qm 47 46,jC 48 (qF 1 7) 47,jC 49 (qL 48) 47,jC 50 (.bin .lss (.t 49) (.c (.int .i64 (-1)))) 47,jA 51 (qP 47 50)] (.cond (.t 51) (
 .seq (
 .region [jA 6 (qK false)]) .ret) .skip)) (
 .seq (
 qR [jA 8 (qC 0)] (.block 0 (.loop (
 .seq (
 qR [qm 52 8,jA 53 (qF 2 7),ql 54 53,jA 55 (qS 54),jA 56 (qB 52 55)] (.cond (.t 56) .skip (.exit 0))) (
 .seq (.block 1 (
 qR [jB 59 (qF 2 7),jB 60 (qL 59),jB 61 (qM 8),jB 62 (qI 1 60 61),jB 63 (qL 62),jB 64 (qW 63 0),jB 65 (qM 64),jF 66 (qF 2 7) 65,jF 67 (qL 66) 65,jF 68 (qM 8) 65,jF 69 (qI 1 67 68) 65,jF 70 (qL 69) 65,jF 71 (qF 2 3) 65,jF 72 (qL 71) 65,jF 73 (qS 72) 65,jF 74 (.bin .geq (.t 70) (.t 73)) 65,jB 75 (qP 65 74),jB 76 (qM 75),jF 77 (qM 8) 76,jF 78 (qU 77 0) 76,jF 79 (qM 78) 76,jE 80 (qF 2 7) 79,jE 81 (qL 80) 79,jE 82 (qM 8) 79,jE 83 (.bin .sub (.t 82) (.c (.int .i64 1))) 79,jE 84 (qI 1 81 83) 79,jE 85 (qL 84) 79,jE 86 (qF 2 7) 79,jE 87 (qL 86) 79,jE 88 (qM 8) 79,jE 89 (qI 1 87 88) 79,jE 90 (qL 89) 79,jE 91 (.bin .geq (.t 85) (.t 90)) 79,jF 92 (qV 79 91) 76,jB 93 (qP 76 92),jB 94 (qM 93),jF 95 (qM 2) 94,jF 96 (qU 95 0) 94,jF 97 (qM 96) 94,jE 98 (qM 1) 97,jE 99 (qF 1 7) 97,jE 100 (qL 99) 97,jE 101 (qI 3 98 100) 97,jE 102 (qF 2 101) 97,jE 103 (qL 102) 97,jE 104 (qF 2 7) 97,jE 105 (qL 104) 97,jE 106 (qM 8) 97,jE 107 (qI 1 105 106) 97,jE 108 (qL 107) 97,jE 109 (.call (.c (.fn (.func 82) [] [])) [(.t 103),(.t 108)]) 97,jE 110 (qT 109) 97,jF 111 (qV 97 110) 94,jB 112 (qP 94 111)] (.cond (.t 112) (
 .seq (
 .region [jA 6 (qK false)]) .ret) .skip))) (
 .region [qm 57 8,jA 58 (qA 57 1),qm 8 58])))))) (
 .seq (
 qR [jA 9 (qC 0)] (.block 2 (.loop (
 .seq (
 qR [qm 113 9,qm 114 2,jA 115 (qB 113 114)] (.cond (.t 115) .skip (.exit 2))) (
 .seq (.block 3 (
 .seq (
 qR [jB 118 (qM 1),jB 119 (qM 9),jB 120 (qI 3 118 119),jB 121 (qF 0 120),jB 122 (qL 121),jB 123 (qF 0 7),jB 124 (qL 123),jB 125 (.bin .eql (.t 122) (.t 124))] (.cond (.t 125) (
 .seq (
 .region [jA 6 (qK false)]) .ret) .skip)) (
 qR [jA 10 (qC 0)] (.block 4 (.loop (
 .seq (
 qR [jB 126 (qM 10),jB 127 (qF 2 7),jB 128 (qL 127),jB 129 (qS 128),jB 130 (qB 126 129),jB 131 (qM 130),jE 132 (qM 1) 131,jE 133 (qM 9) 131,jE 134 (qI 3 132 133) 131,jE 135 (qF 1 134) 131,jE 136 (qL 135) 131,jE 137 (qF 1 7) 131,jE 138 (qL 137) 131,jE 139 (.bin .eql (.t 136) (.t 138)) 131,jB 140 (qV 131 139)] (.cond (.t 140) .skip (.exit 4))) (
 .seq (.block 5 (
 qR [jB 143 (qM 1),jB 144 (qM 9),jB 145 (qI 3 143 144),jB 146 (qF 2 145),jB 147 (qL 146),jB 148 (qF 2 7),jB 149 (qL 148),jB 150 (qM 10),jB 151 (qI 1 149 150),jB 152 (qL 151),jB 153 (.call (.c (.fn (.func 82) [] [])) [(.t 147),(.t 152)])] (.cond (.t 153) (
 .seq (
 .region [jA 6 (qK false)]) .ret) .skip))) (
 .region [qm 141 10,jA 142 (qA 141 1),qm 10 142])))))))) (
 .region [qm 116 9,jA 117 (qA 116 1),qm 9 117])))))) (
 .seq (
 .region [jB 154 (qM 1),jB 155 (qM 2),jB 158 (qF 2 7),jB 159 (qL 158),jB 160 (qS 159),⟨(some 156),(.call (.c (.fn (.func 83) [] [])) [(.t 154),(.t 155)]),none,[(159,(none,(.load none (.t 158))))],true⟩,jB 157 (qS 156),jB 161 (qB 157 160),jB 6 (qM 161)]) .ret))))))⟩
theorem c81:aL Tryz.prog GL [] Tryz.f81=some l81:=by kernel_rfl
def l82:bh:=⟨18,[(.tmp 4)],
 (
 qR [jA 4 (qK false)] (
 .seq (
 qR [jA 5 (qC 0)] (.block 0 (.loop (
 .seq (
 qR [qm 6 5,qm 7 0,jA 8 (qS 7),jA 9 (qB 6 8)] (.cond (.t 9) .skip (.exit 0))) (
 .seq (.block 1 (
 qR [qm 12 0,qm 13 5,jA 14 (qI 1 12 13),ql 15 14,qm 16 1,jA 17 (.bin .eql (.t 15) (.t 16))] (.cond (.t 17) (
 .seq (
 .region [jA 4 (qK true)]) .ret) .skip))) (
 .region [qm 10 5,jA 11 (qA 10 1),qm 5 11])))))) (
 .seq (
 .region [jA 4 (qK false)]) .ret)))⟩
theorem c82:aL Tryz.prog GL [] Tryz.f82=some l82:=by kernel_rfl
def l83:bh:=⟨29,[(.tmp 4)],
 (
 qR [jA 4 (qX)] (
 qR [jA 7 (.bu 1 0 [(.int .i64 0)] []),qm 5 7] (
 .seq (
 qR [jA 6 (qC 0)] (.block 0 (.loop (
 .seq (
 qR [qm 8 6,qm 9 0,jA 10 (qS 9),jA 11 (qB 8 10)] (.cond (.t 11) .skip (.exit 0))) (
 .seq (.block 1 (
 qR [qm 14 0,qm 15 6,jA 16 (qI 3 14 15),jA 17 (qF 1 16),ql 18 17,qm 19 1,jA 20 (.bin .eql (.t 18) (.t 19))] (.cond (.t 20) (
 .region [qm 21 5,qm 22 0,qm 23 6,jA 24 (qI 3 22 23),jA 25 (qF 2 24),ql 26 25,jA 27 (qJ 1 8 21 26),qm 5 27]) .skip))) (
 .region [qm 12 6,jA 13 (qA 12 1),qm 6 13])))))) (
 .seq (
 .region [qm 28 5,qm 4 28]) .ret))))⟩
theorem c83:aL Tryz.prog GL [] Tryz.f83=some l83:=by kernel_rfl
def l84:bh:=⟨22,[(.tmp 6)],
 (
 qR [jA 6 (qK false)] (
 .seq (
 qR [qm 7 0,qm 8 1,jA 9 (qI 3 7 8),jA 10 (qF 1 9),ql 11 10,qm 1 11] (.block 0 (.loop (
 .seq (
 qR [qm 12 1,jA 13 (.bin .geq (.t 12) (.c (.int .i64 0)))] (.cond (.t 13) .skip (.exit 0))) (
 .seq (.block 1 (
 qR [qm 19 1,qm 20 2,jA 21 (.bin .eql (.t 19) (.t 20))] (.cond (.t 21) (
 .seq (
 .region [jA 6 (qK true)]) .ret) .skip))) (
 .region [qm 14 0,qm 15 1,jA 16 (qI 3 14 15),jA 17 (qF 1 16),ql 18 17,qm 1 18])))))) (
 .seq (
 .region [jA 6 (qK false)]) .ret)))⟩
theorem c84:aL Tryz.prog GL [] Tryz.f84=some l84:=by kernel_rfl
def l85:bh:=⟨21,[(.tmp 2)],
 (
 qR [jA 2 (qX)] (
 qR [jA 5 (.bu 1 0 [(.int .i64 0)] []),qm 3 5] (
 .seq (
 qR [jA 4 (qC 0)] (.block 0 (.loop (
 .seq (
 qR [qm 6 4,qm 7 0,jA 8 (qS 7),jA 9 (qB 6 8)] (.cond (.t 9) .skip (.exit 0))) (
 .seq (.block 1 (
 .region [qm 12 3,qm 13 0,qm 14 4,jA 15 (qI 3 13 14),jA 16 (qF 0 15),ql 17 16,jA 18 (.bu 1 1 [(.int .i64 0)] [(0,(1,(.t 17)))]),jA 19 (qJ 1 8 12 18),qm 3 19])) (
 .region [qm 10 4,jA 11 (qA 10 1),qm 4 11])))))) (
 .seq (
 .region [qm 20 3,qm 2 20]) .ret))))⟩
theorem c85:aL Tryz.prog GL [] Tryz.f85=some l85:=by kernel_rfl
def l86:bh:=⟨9,[(.tmp 2)],
 (
 qR [jA 2 (qK false)] (
 .seq (
 .region [qm 3 0,jA 4 (.bin .geq (.t 3) (.c (.int .i64 0))),qm 5 4,jD 6 (qM 0) 5,jD 7 (qW 6 64) 5,jA 8 (qV 5 7),qm 2 8]) .ret))⟩
theorem c86:aL Tryz.prog GL [] Tryz.f86=some l86:=by kernel_rfl
def l87:bh:=⟨6,[(.tmp 2)],
 (
 qR [jA 2 (qK false)] (
 .seq (
 .region [qm 3 0,qm 4 0,jA 5 (.bin .neq (.t 3) (.t 4)),qm 2 5]) .ret))⟩
theorem c87:aL Tryz.prog GL [] Tryz.f87=some l87:=by kernel_rfl
def l90:bh:=⟨11,[],
 (
 .region [ql 3 1,qm 4 0,jA 5 (.k9 .u8 (.t 4)),qm 6 0,jA 7 (.bin .shr (.t 6) (.c (.int .u64 8))),jA 8 (.k9 .u8 (.t 7)),jA 9 (.bu 1 2 [(.int .u8 0)] [(0,(1,(.t 5))),(1,(1,(.t 8)))]),jA 10 (qJ 1 1 3 9),jG 1 1 10])⟩
theorem c90:aL Tryz.prog GL [] Tryz.f90=some l90:=by kernel_rfl
def l91:bh:=⟨22,[(.tmp 4)],
 (
 qR [jA 2 (qO 0),jA 4 (qK false)] (
 .seq (
 .region [jA 5 (qN 3 2),jA 6 (qG 18 5),qm 7 6,jD 8 (qM 1) 7,jD 9 (qS 8) 7,jD 10 (qF 2 2) 7,jD 11 (qL 10) 7,jD 12 (qS 11) 7,jD 13 (.bin .leq (.t 9) (.t 12)) 7,jA 14 (qV 7 13),qm 15 14,jD 16 (qF 2 2) 15,jD 17 (qL 16) 15,jD 18 (qS 17) 15,jD 19 (qM 1) 15,jD 20 (.call (.c (.fn (.func 102) [] [])) [(.t 18),(.t 19)]) 15,jA 21 (qV 15 20),qm 4 21]) .ret))⟩
theorem c91:aL Tryz.prog GL [] Tryz.f91=some l91:=by kernel_rfl
def l92:bh:=⟨53,[(.tmp 6)],
 (
 qR [jA 3 (qO 0),jA 6 (qX)] (
 qR [jA 7 (qX)] (
 .seq (
 qR [qm 14 1,jA 15 (qS 14),jA 16 (qC 0)] (.block 0 (.loop (
 qR [jA 17 (qB 16 15)] (
 .seq (.cond (.t 17) .skip (.exit 0)) (
 .seq (.block 1 (
 qR [jA 18 (qI 3 14 16),jA 19 (qN 3 18),jA 9 (.alloc [(.int .i64 0),(.int .i64 0), .aq]),jG 3 9 19] (
 qR [jA 20 (qN 3 3),jA 21 (qF 2 9),ql 22 21,qm 23 2,jA 24 (.call (.c (.fn (.func 103) [] [])) [(.t 20),(.t 22),(.t 23),(.c (.fn (.func 104) [] []))]),qm 10 24] (
 .region [qm 25 7,jA 26 (qN 3 9),qm 27 10,jA 28 (.build [(.int .i64 0),(.int .i64 0), .aq, .cm,(.bool false),(.bool false),(.bool false)] [(0,(3,(.t 26))),(3,(1,(.t 27))),(4,(1,(.c (.bool true))))]),jA 29 (.bu 7 1 [(.int .i64 0),(.int .i64 0), .aq, .cm,(.bool false),(.bool false),(.bool false)] [(0,(7,(.t 28)))]),jA 30 (qJ 7 56 25 29),qm 7 30])))) (
 .region [jA 31 (qA 16 1),qm 16 31]))))))) (
 .seq (
 qR [qm 32 1,jA 33 (qS 32),jA 34 (qC 0)] (.block 2 (.loop (
 qR [jA 35 (qB 34 33)] (
 .seq (.cond (.t 35) .skip (.exit 2)) (
 .seq (.block 3 (
 qR [qm 36 34,jA 37 (qI 3 32 34),jA 38 (qN 3 37),jA 12 (.alloc [(.int .i64 0),(.int .i64 0), .aq]),qm 11 36,jG 3 12 38] (
 qR [jA 39 (qN 3 3),jA 40 (qF 2 12),ql 41 40,qm 42 2,jA 43 (.call (.c (.fn (.func 103) [] [])) [(.t 39),(.t 41),(.t 42),(.c (.fn (.func 105) [] []))]),qm 13 43] (
 .region [qm 44 7,qm 45 11,jA 46 (.build [(.int .i64 0),(.int .i64 0), .aq] [(1,(1,(.t 45)))]),qm 47 13,jA 48 (.build [(.int .i64 0),(.int .i64 0), .aq, .cm,(.bool false),(.bool false),(.bool false)] [(0,(3,(.t 46))),(3,(1,(.t 47)))]),jA 49 (.bu 7 1 [(.int .i64 0),(.int .i64 0), .aq, .cm,(.bool false),(.bool false),(.bool false)] [(0,(7,(.t 48)))]),jA 50 (qJ 7 56 44 49),qm 7 50])))) (
 .region [jA 51 (qA 34 1),qm 34 51]))))))) (
 .seq (
 .region [qm 52 7,qm 6 52]) .ret)))))⟩
theorem c92:aL Tryz.prog GL [] Tryz.f92=some l92:=by kernel_rfl
def l93:bh:=⟨87,[],
 (
 qR [qm 7 0,jA 8 (qS 7),jA 9 (.cH 1 8 [.cm] (.t 8) (.t 8)),qm 2 9] (
 qR [qm 10 0,jA 11 (qS 10),jA 12 (qC 0)] (.block 0 (.loop (
 qR [jA 13 (qB 12 11)] (
 .seq (.cond (.t 13) .skip (.exit 0)) (
 .seq (.block 1 (
 qR [qm 14 12,qm 3 14] (
 qR [qm 15 0,qm 16 3,jA 17 (qI 7 15 16),qm 4 17] (
 qR [qm 18 2,qm 19 3,jA 20 (.iT none),jA 21 (qI 1 18 19),jG 1 21 20] (
 .seq (
 qR [qm 22 4,jA 23 (qY 22),jA 24 (qF 0 23),jA 25 (qF 1 24),ql 26 25,jA 27 (.bin .geq (.t 26) (.c (.int .i64 0)))] (.cond (.t 27) (
 qR [jA 28 (.iT none),qm 5 28] (
 .seq (
 qR [qm 29 4,jA 30 (qY 29),jA 31 (qF 3 30),ql 32 31,jA 33 (.oA (.t 32))] (.block 2 (.loop (
 qR [jA 34 (.kN (.t 33)),jA 35 (qD 34 0)] (
 .seq (.cond (.t 35) .skip (.exit 2)) (.block 3 (
 qR [jA 36 (.oB (.t 33)),jA 37 (qD 36 0),qm 6 37] (
 qR [qm 38 0,qm 39 4,jA 40 (qY 39),jA 41 (qF 0 40),jA 42 (qF 1 41),ql 43 42,jA 44 (qI 7 38 43),jA 45 (qF 3 44),ql 46 45,qm 47 6,jA 48 (.gp (.int .i64) (.bool false) false (.t 46) (.t 47)),qm 49 48,jD 50 (qM 2) 49,jD 51 (qM 4) 49,jD 52 (qY 51) 49,jD 53 (qF 0 52) 49,jD 54 (qF 1 53) 49,jD 55 (qL 54) 49,jD 56 (qI 1 50 55) 49,jD 57 (qL 56) 49,jD 58 (qM 6) 49,jD 59 (.gp (.int .i64) (.bool false) false (.t 57) (.t 58)) 49,jD 60 (qT 59) 49,jA 61 (qV 49 60)] (.cond (.t 61) (
 qR [qm 62 5,qm 63 6,⟨none,(.mZ (.int .i64) (.t 62) (.t 63) (.c (.bool true))),none,[],false⟩] (
 .region [qm 64 2,qm 65 4,jA 66 (qY 65),jA 67 (qF 0 66),jA 68 (qF 1 67),ql 69 68,jA 70 (qI 1 64 69),ql 71 70,qm 72 6,⟨none,(.mZ (.int .i64) (.t 71) (.t 72) (.c (.bool true))),none,[],false⟩])) .skip))))))))) (
 .region [qm 73 4,qm 74 5,jA 75 (qY 73),jA 76 (qF 3 75),jG 1 76 74]))) .skip)) (
 .region [qm 77 4,qm 78 4,jA 79 (qY 78),jA 80 (qF 3 79),ql 81 80,jA 82 (.kF (.t 81)),jA 83 (qH 82 0),jA 84 (qY 77),jA 85 (qF 6 84),jG 1 85 83])))))) (
 .region [jA 86 (qA 12 1),qm 12 86]))))))))⟩
theorem c93:aL Tryz.prog GL [] Tryz.f93=some l93:=by kernel_rfl
def l94:bh:=⟨92,[],
 (
 qR [qm 7 0,jA 8 (qS 7),jA 9 (.cH 1 8 [(.int .i64 0)] (.t 8) (.t 8)),qm 2 9] (
 .seq (
 qR [qm 10 0,jA 11 (qS 10),jA 12 (qC 0)] (.block 0 (.loop (
 qR [jA 13 (qB 12 11)] (
 .seq (.cond (.t 13) .skip (.exit 0)) (
 .seq (.block 1 (
 qR [jA 14 (qI 7 10 12),jA 15 (qN 7 14),jA 4 (.alloc [(.int .i64 0),(.int .i64 0), .aq, .cm,(.bool false),(.bool false),(.bool false)]),jG 7 4 15] (
 qR [jA 16 (qF 0 4),jA 17 (qF 1 16),ql 18 17,jA 19 (.bin .geq (.t 18) (.c (.int .i64 0)))] (.cond (.t 19) (
 .region [jB 20 (qM 2),jB 21 (qF 0 4),jB 22 (qF 1 21),jB 23 (qL 22),jB 24 (qI 1 20 23),jB 25 (qL 24),jB 26 (qF 3 4),jB 27 (qL 26),jB 28 (.kF (.t 27)),jB 29 (.bin .add (.t 25) (.t 28)),jB 30 (qI 1 20 23),jH 1 30 29]) .skip)))) (
 .region [jA 31 (qA 12 1),qm 12 31]))))))) (
 qR [qm 32 0,jA 33 (qS 32),jA 34 (qC 0)] (.block 2 (.loop (
 qR [jA 35 (qB 34 33)] (
 .seq (.cond (.t 35) .skip (.exit 2)) (
 .seq (.block 3 (
 qR [qm 36 34,qm 5 36] (
 qR [qm 37 0,qm 38 5,jA 39 (qI 7 37 38),qm 6 39] (
 .seq (
 qR [qm 40 6,jA 41 (qY 40),jA 42 (qF 0 41),jA 43 (qF 1 42),ql 44 43,jA 45 (.bin .geq (.t 44) (.c (.int .i64 0))),qm 46 45,jD 47 (qM 0) 46,jD 48 (qM 6) 46,jD 49 (qY 48) 46,jD 50 (qF 0 49) 46,jD 51 (qF 1 50) 46,jD 52 (qL 51) 46,jD 53 (qI 7 47 52) 46,jD 54 (qF 5 53) 46,jD 55 (qL 54) 46,jD 56 (qM 55) 46,jC 57 (qM 0) 56,jC 58 (qM 6) 56,jC 59 (qY 58) 56,jC 60 (qF 0 59) 56,jC 61 (qF 1 60) 56,jC 62 (qL 61) 56,jC 63 (qI 7 57 62) 56,jC 64 (qF 6 63) 56,jC 65 (qL 64) 56,jD 66 (qP 56 65) 46,jA 67 (qV 46 66)] (.cond (.t 67) (
 .region [qm 68 6,jA 69 (qY 68),jA 70 (qF 6 69),⟨none,(.store 1 (.t 70) (.c (.bool true))),none,[],false⟩]) .skip)) (
 .region [jB 71 (qM 6),jB 72 (qM 6),jB 73 (qY 72),jB 74 (qF 6 73),jB 75 (qL 74),jB 76 (qT 75),jB 77 (qM 76),jE 78 (qM 2) 77,jE 79 (qM 5) 77,jE 80 (qI 1 78 79) 77,jE 81 (qL 80) 77,jE 82 (qM 6) 77,jE 83 (qY 82) 77,jE 84 (qF 3 83) 77,jE 85 (qL 84) 77,jE 86 (.kF (.t 85)) 77,jE 87 (.bin .eql (.t 81) (.t 86)) 77,jB 88 (qV 77 87),jB 89 (qY 71),jB 90 (qF 5 89),jH 1 90 88]))))) (
 .region [jA 91 (qA 34 1),qm 34 91])))))))))⟩
theorem c94:aL Tryz.prog GL [] Tryz.f94=some l94:=by kernel_rfl
def l95:bh:=⟨50,[],
 (.scope (
 qR [jA 7 (.iT none),qm 2 7] (
 .seq (
 qR [qm 8 0,jA 9 (.call (.c (.fn (.func 106) [] [])) [(.t 8),(.c (.fn (.func 107) [] []))]),jA 10 (qS 9),jA 11 (qC 0)] (.block 0 (.loop (
 qR [jA 12 (qB 11 10)] (
 .seq (.cond (.t 12) .skip (.exit 0)) (
 .seq (.block 1 (
 qR [jA 13 (qI 7 9 11),jA 14 (qN 7 13),jA 4 (.alloc [(.int .i64 0),(.int .i64 0), .aq, .cm,(.bool false),(.bool false),(.bool false)]),jG 7 4 14] (
 .region [qm 15 2,jA 16 (qF 0 4),jA 17 (qF 0 16),ql 18 17,⟨none,(.mZ (.int .i64) (.t 15) (.t 18) (.c (.bool true))),none,[],false⟩]))) (
 .region [jA 19 (qA 11 1),qm 11 19]))))))) (
 qR [jA 5 (qC 0)] (
 .seq .skip (
 qR [qm 20 0,jA 21 (qS 20),jA 22 (qC 0)] (.block 2 (.loop (
 qR [jA 23 (qB 22 21)] (
 .seq (.cond (.t 23) .skip (.exit 2)) (
 .seq (.block 3 (
 qR [qm 24 22,qm 6 24] (
 .seq (
 qR [qm 25 0,qm 26 6,jA 27 (qI 7 25 26),jA 28 (qF 4 27),ql 29 28,qm 30 29,jC 31 (qM 0) 30,jC 32 (qM 6) 30,jC 33 (qI 7 31 32) 30,jC 34 (qF 6 33) 30,jC 35 (qL 34) 30,jA 36 (qP 30 35)] (.cond (.t 36) (.exit 3) .skip)) (.block 4 (.loop (.block 5 (
 qR [qm 37 5,jA 38 (qA 37 1),qm 5 38] (
 qR [qm 39 2,qm 40 5,jA 41 (.gp (.int .i64) (.bool false) false (.t 39) (.t 40)),jA 42 (qT 41)] (.cond (.t 42) (
 qR [qm 43 0,qm 44 6,qm 45 5,jA 46 (qI 7 43 44),jA 47 (qF 0 46),jA 48 (qF 0 47),jG 1 48 45] (.exit 3)) .skip))))))))) (
 .region [jA 49 (qA 22 1),qm 22 49]))))))))))))⟩
theorem c95:aL Tryz.prog GL [] Tryz.f95=some l95:=by kernel_rfl
def l96:bh:=⟨9,[(.tmp 2)],
 (
 qR [jA 2 (qX)] (
 qR [qm 4 0,jA 5 (qG 108 4),qm 3 5] (
 qR [qm 6 3,jA 7 (qG 98 6)] (
 .seq (
 .region [qm 8 3,qm 2 8]) .ret))))⟩
theorem c96:aL Tryz.prog GL [] Tryz.f96=some l96:=by kernel_rfl
def l97:bh:=⟨4,[(.tmp 2)],
 (
 qR [jA 1 (.box false (.t 0)),jA 2 (.mv (.c .js))] (
 .seq (
 .region [jA 3 (.uk (.func 109) [] [(.t 1)]),qm 2 3]) .ret))⟩
theorem c97:aL Tryz.prog GL [1] Tryz.f97=some l97:=by kernel_rfl
def l99:bh:=⟨25,[],
 (
 qR [qm 8 0,jA 9 (qS 8),jA 10 (qC 0)] (.block 0 (.loop (
 qR [jA 11 (qB 10 9)] (
 .seq (.cond (.t 11) .skip (.exit 0)) (
 .seq (.block 1 (
 qR [jA 12 (qI 1 8 10),ql 13 12,qm 7 13] (
 qR [qm 14 7,jA 15 (.bin .geq (.t 14) (.c (.int .i64 1))),qm 16 15,jD 17 (qM 7) 16,jD 18 (qL 2) 16,jD 19 (.bin .leq (.t 17) (.t 18)) 16,jA 20 (qV 16 19)] (.cond (.t 20) (
 .region [ql 21 3,qm 22 7,qm 23 1,⟨none,(.mZ (.int .i64) (.t 21) (.t 22) (.t 23)),none,[],false⟩]) .skip)))) (
 .region [jA 24 (qA 10 1),qm 10 24])))))))⟩
theorem c99:aL Tryz.prog GL [] Tryz.f99=some l99:=by kernel_rfl
def l102:bh:=⟨161,[(.tmp 4)],
 (
 qR [jA 4 (qK false)] (
 qR [jA 14 (.iT none),qm 5 14] (
 qR [qm 15 1,jA 16 (qS 15),jA 17 (.cH 1 8 [.cm] (.t 16) (.t 16)),qm 6 17] (
 qR [qm 18 1,jA 19 (qS 18),jA 20 (.cH 1 8 [.cm] (.t 19) (.t 19)),qm 7 20] (
 .seq (
 qR [qm 21 1,jA 22 (qS 21),jA 23 (qC 0)] (.block 0 (.loop (
 qR [jA 24 (qB 23 22)] (
 .seq (.cond (.t 24) .skip (.exit 0)) (
 .seq (.block 1 (
 qR [qm 25 23,jA 26 (qI 3 21 23),jA 27 (qN 3 26),jA 9 (.alloc [(.int .i64 0),(.int .i64 0), .aq]),qm 8 25,jG 3 9 27] (
 .seq (
 qR [qm 28 8,jA 29 (qH 28 0),qm 30 29,jD 31 (qF 1 9) 30,jD 32 (qL 31) 30,jD 33 (.bin .neq (.t 32) (.c (.int .i64 (-1)))) 30,jA 34 (qV 30 33),qm 35 34,jC 36 (qM 8) 35,jC 37 (qU 36 0) 35,jC 38 (qM 37) 35,jD 39 (qF 1 9) 38,jD 40 (qL 39) 38,jD 41 (qW 40 0) 38,jD 42 (qM 41) 38,jC 43 (qF 1 9) 42,jC 44 (qL 43) 42,jC 45 (qM 8) 42,jC 46 (.bin .geq (.t 44) (.t 45)) 42,jD 47 (qP 42 46) 38,jC 48 (qV 38 47) 35,jA 49 (qP 35 48)] (.cond (.t 49) (
 .seq (
 .region [jA 4 (qK false)]) .ret) .skip)) (
 .seq (
 qR [jA 50 (qF 0 9),ql 51 50,jA 52 (qW 51 1),qm 53 52,jC 54 (qF 0 9) 53,jC 55 (qL 54) 53,jC 56 (qM 0) 53,jC 57 (.bin .mul (.c (.int .i64 2)) (.t 56)) 53,jC 58 (.bin .gtr (.t 55) (.t 57)) 53,jA 59 (qP 53 58),qm 60 59,jC 61 (qM 5) 60,jC 62 (qF 0 9) 60,jC 63 (qL 62) 60,jC 64 (.gp (.int .i64) (.bool false) false (.t 61) (.t 63)) 60,jA 65 (qP 60 64),qm 66 65,jC 67 (qF 2 9) 66,jC 68 (qL 67) 66,jC 69 (qS 68) 66,jC 70 (qH 69 0) 66,jA 71 (qP 66 70)] (.cond (.t 71) (
 .seq (
 .region [jA 4 (qK false)]) .ret) .skip)) (
 qR [qm 72 5,jA 73 (qF 0 9),ql 74 73,⟨none,(.mZ (.int .i64) (.t 72) (.t 74) (.c (.bool true))),none,[],false⟩] (
 qR [qm 75 6,qm 76 8,jA 77 (.iT none),jA 78 (qI 1 75 76),jG 1 78 77] (
 qR [qm 79 7,qm 80 8,jA 81 (.iT none),jA 82 (qI 1 79 80),jG 1 82 81] (
 qR [jA 83 (qF 2 9),ql 84 83,jA 85 (qS 84),jA 86 (qC 0)] (.block 2 (.loop (
 qR [jA 87 (qB 86 85)] (
 .seq (.cond (.t 87) .skip (.exit 2)) (
 .seq (.block 3 (
 qR [qm 88 86,jA 89 (qI 1 84 86),ql 90 89,qm 10 88,qm 11 90] (
 .seq (
 qR [qm 91 11,jA 92 (qW 91 0),qm 93 92,jC 94 (qM 11) 93,jC 95 (qM 0) 93,jC 96 (.bin .geq (.t 94) (.t 95)) 93,jA 97 (qP 93 96),qm 98 97,jC 99 (qM 10) 98,jC 100 (qU 99 0) 98,jC 101 (qM 100) 98,jD 102 (qF 2 9) 101,jD 103 (qL 102) 101,jD 104 (qM 10) 101,jD 105 (.bin .sub (.t 104) (.c (.int .i64 1))) 101,jD 106 (qI 1 103 105) 101,jD 107 (qL 106) 101,jD 108 (qM 11) 101,jD 109 (.bin .geq (.t 107) (.t 108)) 101,jC 110 (qV 101 109) 98,jA 111 (qP 98 110)] (.cond (.t 111) (
 .seq (
 .region [jA 4 (qK false)]) .ret) .skip)) (
 qR [qm 112 6,qm 113 8,jA 114 (qI 1 112 113),ql 115 114,qm 116 11,⟨none,(.mZ (.int .i64) (.t 115) (.t 116) (.c (.bool true))),none,[],false⟩] (
 .seq (
 qR [qm 117 8,jA 118 (qH 117 0)] (.cond (.t 118) (.exit 3) .skip)) (
 .seq (
 qR [qm 119 6,jA 120 (qF 1 9),ql 121 120,jA 122 (qI 1 119 121),ql 123 122,qm 124 11,jA 125 (.gp (.int .i64) (.bool false) false (.t 123) (.t 124)),jA 126 (qT 125),qm 127 126,jC 128 (qM 7) 127,jC 129 (qF 1 9) 127,jC 130 (qL 129) 127,jC 131 (qI 1 128 130) 127,jC 132 (qL 131) 127,jC 133 (qM 11) 127,jC 134 (.gp (.int .i64) (.bool false) false (.t 132) (.t 133)) 127,jA 135 (qP 127 134)] (.cond (.t 135) (
 .seq (
 .region [jA 4 (qK false)]) .ret) .skip)) (
 .region [qm 136 7,jA 137 (qF 1 9),ql 138 137,jA 139 (qI 1 136 138),ql 140 139,qm 141 11,⟨none,(.mZ (.int .i64) (.t 140) (.t 141) (.c (.bool true))),none,[],false⟩]))))))) (
 .region [jA 142 (qA 86 1),qm 86 142])))))))))))))) (
 .region [jA 143 (qA 23 1),qm 23 143]))))))) (
 .seq (
 qR [qm 144 1,jA 145 (qS 144),jA 146 (qC 0)] (.block 4 (.loop (
 qR [jA 147 (qB 146 145)] (
 .seq (.cond (.t 147) .skip (.exit 4)) (
 .seq (.block 5 (
 qR [qm 148 146,jA 149 (qI 3 144 146),jA 150 (qN 3 149),jA 13 (.alloc [(.int .i64 0),(.int .i64 0), .aq]),qm 12 148,jG 3 13 150] (
 qR [jB 151 (qM 7),jB 152 (qM 12),jB 153 (qI 1 151 152),jB 154 (qL 153),jB 155 (.kF (.t 154)),jB 156 (qF 2 13),jB 157 (qL 156),jB 158 (qS 157),jB 159 (.bin .eql (.t 155) (.t 158))] (.cond (.t 159) (
 .seq (
 .region [jA 4 (qK false)]) .ret) .skip)))) (
 .region [jA 160 (qA 146 1),qm 146 160]))))))) (
 .seq (
 .region [jA 4 (qK true)]) .ret)))))))⟩
theorem c102:aL Tryz.prog GL [] Tryz.f102=some l102:=by kernel_rfl
def Yv:bh:=⟨42,[(.tmp 8)],
 (
 qR [jA 4 (qO 0),jA 8 (.mv (.c .cm))] (
 qR [jA 14 (.iT none),qm 9 14] (
 .seq (
 qR [qm 15 1,jA 16 (qS 15),jA 17 (qC 0)] (.block 0 (.loop (
 qR [jA 18 (qB 17 16)] (
 .seq (.cond (.t 18) .skip (.exit 0)) (
 .seq (.block 1 (
 qR [jA 19 (qI 1 15 17),ql 20 19,qm 11 20] (
 qR [jA 21 (qF 2 4),ql 22 21,qm 23 11,jA 24 (qI 1 22 23),ql 25 24,qm 26 2,jA 27 (qI 1 25 26),ql 28 27,qm 29 3,jA 30 (.call (.c (.fn (.func 113) [] [])) [(.t 28),(.t 29)]),jA 31 (qS 30),jA 32 (qC 0)] (.block 2 (.loop (
 qR [jA 33 (qB 32 31)] (
 .seq (.cond (.t 33) .skip (.exit 2)) (
 .seq (.block 3 (
 qR [jA 34 (qI 2 30 32),jA 35 (qN 2 34),jA 13 (.alloc [(.int .i64 0),(.bool false)]),jG 2 13 35] (
 .region [qm 36 9,jA 37 (qF 0 13),ql 38 37,⟨none,(.mZ (.int .i64) (.t 36) (.t 38) (.c (.bool true))),none,[],false⟩]))) (
 .region [jA 39 (qA 32 1),qm 32 39]))))))))) (
 .region [jA 40 (qA 17 1),qm 17 40]))))))) (
 .seq (
 .region [qm 41 9,qm 8 41]) .ret))))⟩
theorem c103:aL Tryz.prog GL [] Tryz.f103=some Yv:=by kernel_rfl
def Yu:bh:=⟨3,[(.tmp 2)],
 (
 qR [jA 1 (qO 0),jA 2 (qK false)] (
 .seq (
 .region [jA 2 (qK true)]) .ret))⟩
theorem c104:aL Tryz.prog GL [] Tryz.f104=some Yu:=by kernel_rfl
def Yt:bh:=⟨5,[(.tmp 2)],
 (
 qR [jA 1 (qO 0),jA 2 (qK false)] (
 .seq (
 .region [jA 3 (qF 1 1),ql 4 3,qm 2 4]) .ret))⟩
theorem c105:aL Tryz.prog GL [] Tryz.f105=some Yt:=by kernel_rfl
def Ys:bh:=⟨23,[(.tmp 4)],
 (
 qR [jA 4 (qX)] (
 qR [jA 5 (qX)] (
 .seq (
 qR [qm 8 0,jA 9 (qS 8),jA 10 (qC 0)] (.block 0 (.loop (
 qR [jA 11 (qB 10 9)] (
 .seq (.cond (.t 11) .skip (.exit 0)) (
 .seq (.block 1 (
 qR [jA 12 (qI 7 8 10),jA 13 (qN 7 12),jA 7 (.alloc [(.int .i64 0),(.int .i64 0), .aq, .cm,(.bool false),(.bool false),(.bool false)]),jG 7 7 13] (
 qR [qm 14 1,jA 15 (qN 7 7),jA 16 (.call (.t 14) [(.t 15)])] (.cond (.t 16) (
 .region [qm 17 5,jA 18 (qN 7 7),jA 19 (.bu 7 1 [(.int .i64 0),(.int .i64 0), .aq, .cm,(.bool false),(.bool false),(.bool false)] [(0,(7,(.t 18)))]),jA 20 (qJ 7 56 17 19),qm 5 20]) .skip)))) (
 .region [jA 21 (qA 10 1),qm 10 21]))))))) (
 .seq (
 .region [qm 22 5,qm 4 22]) .ret))))⟩
theorem c106:aL Tryz.prog GL [] Tryz.f106=some Ys:=by kernel_rfl
def Yr:bh:=⟨5,[(.tmp 2)],
 (
 qR [jA 1 (.box false (.t 0)),jA 2 (qK false)] (
 .seq (
 .region [jA 3 (qF 4 1),ql 4 3,qm 2 4]) .ret))⟩
theorem c107:aL Tryz.prog GL [1] Tryz.f107=some Yr:=by kernel_rfl
def Yq:bh:=⟨5,[(.tmp 2)],
 (
 qR [jA 2 (qX)] (
 .seq (
 .region [qm 3 0,jA 4 (.call (.c (.fn (.func 114) [] [])) [(.c .aq),(.t 3)]),qm 2 4]) .ret))⟩
theorem c108:aL Tryz.prog GL [] Tryz.f108=some Yq:=by kernel_rfl
def Yp:bh:=⟨14,[],
 (
 qR [ql 4 1,jA 5 (.oA (.t 4))] (.block 0 (.loop (
 qR [jA 6 (.kN (.t 5)),jA 7 (qD 6 0)] (
 .seq (.cond (.t 7) .skip (.exit 0)) (.block 1 (
 qR [jA 8 (.oB (.t 5)),jA 9 (qD 8 0),qm 3 9] (
 qR [qm 10 0,qm 11 3,jA 12 (.call (.t 10) [(.t 11)]),jA 13 (qT 12)] (.cond (.t 13) .ret .skip)))))))))⟩
theorem c109:aL Tryz.prog GL [] Tryz.f109=some Yp:=by kernel_rfl
def Yo:bh:=⟨23,[(.tmp 4)],
 (
 qR [jA 4 (qX)] (
 qR [jA 5 (qX)] (
 .seq (
 qR [qm 8 0,jA 9 (qS 8),jA 10 (qC 0)] (.block 0 (.loop (
 qR [jA 11 (qB 10 9)] (
 .seq (.cond (.t 11) .skip (.exit 0)) (
 .seq (.block 1 (
 qR [jA 12 (qI 2 8 10),jA 13 (qN 2 12),jA 7 (.alloc [(.int .i64 0),(.bool false)]),jG 2 7 13] (
 qR [qm 14 1,jA 15 (qN 2 7),jA 16 (.call (.t 14) [(.t 15)])] (.cond (.t 16) (
 .region [qm 17 5,jA 18 (qN 2 7),jA 19 (.bu 2 1 [(.int .i64 0),(.bool false)] [(0,(2,(.t 18)))]),jA 20 (qJ 2 16 17 19),qm 5 20]) .skip)))) (
 .region [jA 21 (qA 10 1),qm 10 21]))))))) (
 .seq (
 .region [qm 22 5,qm 4 22]) .ret))))⟩
theorem c113:aL Tryz.prog GL [] Tryz.f113=some Yo:=by kernel_rfl
def Yn:bh:=⟨13,[(.tmp 4)],
 (
 qR [jA 2 (.box false (.t 0)),jA 4 (qX)] (
 .seq (
 qR [qm 6 1] (.block 0 (.rangeFunc (.t 6) [7] (
 .region [qm 5 7]) (.block 1 (
 .region [ql 8 2,qm 9 5,jA 10 (.bu 1 1 [(.int .i64 0)] [(0,(1,(.t 9)))]),jA 11 (qJ 1 8 8 10),jG 1 2 11]))))) (
 .seq (
 .region [ql 12 2,qm 4 12]) .ret)))⟩
theorem c114:aL Tryz.prog GL [2] Tryz.f114=some Yn:=by kernel_rfl
end Go.Proofs.YtkbiecjdcjfhaaaGreat
