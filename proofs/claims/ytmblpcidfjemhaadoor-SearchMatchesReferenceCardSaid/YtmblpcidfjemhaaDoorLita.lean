/- Plain forms of functions, by program. -/
import Derived.Test.YtmblpcidfjemhaaDoorProg
import Derived.Test.YtmblpcidfjemhaaDoorPvComp
import Derived.Test.YtmblpcidfjemhaaDoorGl
import Derived.KernelRfl
set_option linter.unusedSimpArgs false
set_option linter.unusedVariables false
namespace Go.Proofs.YtmblpcidfjemhaaDoor
open Go Go.Pv
set_option maxRecDepth 100000
def l3:LFunc:=⟨91,[(.tmp 6)],
 (
 .seq (
 .region [jA 3 (qO 0),jA 4 (qO 1),jA 6 (qK false)]) (
 .seq (
 .region [jA 18 (.call (.c (.fn (.func 4) [] [])) []),qm 7 18]) (
 .seq (
 .seq (
 .region [jA 19 (qN 3 3),jA 20 (qG 5 19),jA 21 (.un .not (.t 20)),qm 22 21,jC 23 (qN 3 4) 22,jC 24 (qG 5 23) 22,jC 25 (.un .not (.t 24)) 22,jA 26 (qP 22 25)]) (.cond (.t 26) (
 .seq (
 .region [qm 27 7,qm 6 27]) .ret) .skip)) (
 .seq (
 .region [jA 29 (qN 3 3),jA 30 (qG 6 29),qm 28 30,jA 31 (.ext (.t 28) 0),jA 32 (.ext (.t 28) 1),jA 8 (.alloc [.nils, .nils]),jG 2 8 31,qm 9 32]) (
 .seq (
 .region [jA 34 (qN 3 3),jA 35 (qG 7 34),qm 33 35,jA 36 (.ext (.t 33) 0),jA 37 (.ext (.t 33) 1),jA 10 (.alloc [.nils, .nils]),jG 2 10 36,qm 11 37]) (
 .seq (
 .region [jA 39 (qN 3 3),jA 40 (qN 3 4),qm 41 2,jA 42 (.convInt .i64 (.t 41)),jA 43 (.bin .rem (.t 42) (.c (.int .i64 101))),jA 44 (.call (.c (.fn (.func 8) [] [])) [(.t 39),(.t 40),(.t 43)]),qm 38 44,jA 45 (.ext (.t 38) 0),jA 46 (.ext (.t 38) 1),jA 47 (.ext (.t 38) 2),jA 12 (.alloc [.nils, .nils]),jG 2 12 45,qm 13 46,qm 14 47]) (
 .seq (
 .region [jA 49 (qN 3 3),jA 50 (qN 3 4),qm 51 2,jA 52 (.convInt .i64 (.t 51)),jA 53 (.bin .rem (.t 52) (.c (.int .i64 101))),jA 54 (.call (.c (.fn (.func 9) [] [])) [(.t 49),(.t 50),(.t 53)]),qm 48 54,jA 55 (.ext (.t 48) 0),jA 56 (.ext (.t 48) 1),jA 57 (.ext (.t 48) 2),jA 15 (.alloc [.nils, .nils]),jG 2 15 55,qm 16 56,qm 17 57]) (
 .seq (
 .region [jB 58 (qM 7),jB 59 (qM 58),jE 60 (qM 9) 59,jE 61 (qM 11) 59,jE 62 (.eq false .bool (.t 60) (.t 61)) 59,jB 63 (.pick (.t 59) (.t 62) (.c (.bool false))),jB 64 (qM 63),jE 65 (qN 2 8) 64,jE 66 (qN 2 10) 64,jE 67 (.call (.c (.fn (.func 10) [] [])) [(.t 65),(.t 66)]) 64,jB 68 (.pick (.t 64) (.t 67) (.c (.bool false))),jB 69 (qM 68),jE 70 (qN 3 3) 69,jE 72 (qN 3 3) 69,⟨(some 71),(.call (.c (.fn (.func 12) [] [])) [(.t 70)]),(some (69,true)),[(72,((some (69,true)),(.load (some 3) (.t 3))))],true⟩,jE 73 (qG 13 72) 69,jE 74 (.call (.c (.fn (.func 11) [] [])) [(.t 71),(.t 73)]) 69,jB 75 (.pick (.t 69) (.t 74) (.c (.bool false))),jB 76 (qM 75),jE 77 (qM 13) 76,jE 78 (qM 16) 76,jE 79 (.eq false .bool (.t 77) (.t 78)) 76,jB 80 (.pick (.t 76) (.t 79) (.c (.bool false))),jB 81 (qM 80),jE 82 (qM 14) 81,jE 83 (qM 17) 81,jE 84 (.bin .eql (.t 82) (.t 83)) 81,jB 85 (.pick (.t 81) (.t 84) (.c (.bool false))),jB 86 (qM 85),jE 87 (qN 2 12) 86,jE 88 (qN 2 15) 86,jE 89 (.call (.c (.fn (.func 10) [] [])) [(.t 87),(.t 88)]) 86,jB 90 (.pick (.t 86) (.t 89) (.c (.bool false))),jB 6 (qM 90)]) .ret))))))))⟩
theorem c3:compFunc Tryd.prog GL [] Tryd.f3=some l3:=by kernel_rfl
def l5:LFunc:=⟨54,[(.tmp 2)],
 (
 .seq (
 .region [jA 1 (qO 0),jA 2 (qK false)]) (
 .seq (
 .seq (
 .region [jA 5 (qF 0 1),ql 6 5,jA 7 (.bin .gtr (.t 6) (.c (.int .i64 20))),qm 8 7,jC 9 (qF 1 1) 8,jC 10 (qL 9) 8,jC 11 (qS 10) 8,jC 12 (.bin .gtr (.t 11) (.c (.int .i64 20))) 8,jA 13 (qP 8 12),qm 14 13,jC 15 (qF 2 1) 14,jC 16 (qL 15) 14,jC 17 (qS 16) 14,jC 18 (.bin .gtr (.t 17) (.c (.int .i64 10))) 14,jA 19 (qP 14 18)]) (.cond (.t 19) (
 .seq (
 .region [jA 2 (qK false)]) .ret) .skip)) (
 .seq (
 .seq (
 .region [jA 3 (qC 0)]) (.block 0 (.loop (
 .seq (
 .seq (
 .region [qm 20 3,jA 21 (qF 2 1),ql 22 21,jA 23 (qS 22),jA 24 (qB 20 23)]) (.cond (.t 24) .skip (.exit 0))) (
 .seq (.block 1 (
 .seq (
 .seq (
 .region [jA 27 (qF 2 1),ql 28 27,qm 29 3,jA 30 (qI 1 28 29),ql 31 30,jA 32 (qS 31),jA 33 (.bin .gtr (.t 32) (.c (.int .i64 20)))]) (.cond (.t 33) (
 .seq (
 .region [jA 2 (qK false)]) .ret) .skip)) (
 .seq (
 .region [jA 4 (qC 0)]) (.block 2 (.loop (
 .seq (
 .seq (
 .region [qm 34 4,jA 35 (qF 2 1),ql 36 35,qm 37 3,jA 38 (qI 1 36 37),ql 39 38,jA 40 (qS 39),jA 41 (qB 34 40)]) (.cond (.t 41) .skip (.exit 2))) (
 .seq (.block 3 (
 .seq (
 .region [jA 44 (qF 2 1),ql 45 44,qm 46 3,jA 47 (qI 1 45 46),ql 48 47,qm 49 4,jA 50 (qI 1 48 49),ql 51 50,jA 52 (qS 51),jA 53 (.bin .gtr (.t 52) (.c (.int .i64 20)))]) (.cond (.t 53) (
 .seq (
 .region [jA 2 (qK false)]) .ret) .skip))) (
 .region [qm 42 4,jA 43 (qA 42 1),qm 4 43])))))))) (
 .region [qm 25 3,jA 26 (qA 25 1),qm 3 26])))))) (
 .seq (
 .region [jA 2 (qK true)]) .ret))))⟩
theorem c5:compFunc Tryd.prog GL [] Tryd.f5=some l5:=by kernel_rfl
def l6:LFunc:=⟨82,[(.cell 2 (some 2)),(.tmp 3)],
 (
 .seq (
 .region [jA 1 (qO 0),jA 2 (.alloc [.nils, .nils]),jA 3 (qK false)]) (.scope (
 .seq (
 .seq (
 .region [jA 12 (qN 3 1),jA 13 (qG 16 12),jA 14 (.un .not (.t 13))]) (.cond (.t 14) (
 .seq (
 .region [jA 15 (.build [.nils, .nils] []),jG 2 2 15,jA 3 (qK false)]) .ret) .skip)) (
 .seq (
 .region [jA 16 (qN 3 1),jA 17 (qG 19 16),jA 4 (.alloc [.nils]),jG 1 4 17]) (
 .seq (
 .region [jA 18 (.mkfn (.func 20) [] [(.t 1)]),jA 5 (.alloc [.nilf]),jG 1 5 18]) (
 .seq (
 .region [jA 6 (.alloc [.nils, .nils])]) (
 .seq .skip (
 .seq (
 .seq (
 .region [jA 19 (qN 3 1),jA 20 (qF 1 1),ql 21 20,jA 22 (.call (.c (.fn (.func 21) [] [])) [(.t 19),(.t 21)])]) (.block 0 (.rangeFunc (.t 22) [23] (
 .region [jA 7 (.alloc [(.int .i64 0),(.int .i64 0),(.int .i64 0)]),jG 3 7 23]) (.block 1 (
 .seq (
 .region [jA 24 (qF 2 1),ql 25 24,jA 26 (qF 0 7),ql 27 26,jA 28 (qI 1 25 27),ql 29 28,jA 30 (qS 29),jA 31 (qC 0)]) (.block 2 (.loop (
 .seq (
 .region [jA 32 (qB 31 30)]) (
 .seq (.cond (.t 32) .skip (.exit 2)) (
 .seq (.block 3 (
 .seq (
 .region [qm 33 31,jA 34 (qI 1 29 31),ql 35 34,qm 8 33,qm 9 35]) (
 .seq (
 .region [qm 36 9,jA 37 (qS 36),jA 38 (qC 0)]) (.block 4 (.loop (
 .seq (
 .region [jA 39 (qB 38 37)]) (
 .seq (.cond (.t 39) .skip (.exit 4)) (
 .seq (.block 5 (
 .seq (
 .region [jA 40 (qI 2 36 38),jA 41 (qN 2 40),jA 11 (.alloc [(.int .i64 0),(.bool false)]),jG 2 11 41]) (
 .seq (
 .region [jB 42 (qF 1 11),jB 43 (qL 42),jB 44 (qM 43),jE 45 (qL 4) 44,jE 46 (qF 0 11) 44,jE 47 (qL 46) 44,jE 48 (qI 1 45 47) 44,jE 49 (qL 48) 44,jE 50 (qL 4) 44,jE 51 (qF 0 7) 44,jE 52 (qL 51) 44,jE 53 (qI 1 50 52) 44,jE 54 (qL 53) 44,jE 55 (.bin .eql (.t 49) (.t 54)) 44,jB 56 (.pick (.t 44) (.t 55) (.c (.bool false)))]) (.cond (.t 56) (
 .seq (
 .region [ql 57 5,jA 58 (qF 1 1),ql 59 58,jA 60 (qF 0 7),ql 61 60,jA 62 (.call (.t 57) [(.t 59),(.t 61)]),jA 63 (qF 0 6),jG 1 63 62]) (
 .seq (
 .region [qm 64 8,jA 65 (.bslice 1 1 [(.int .i64 0)] [(0,(1,(.t 64)))]),ql 66 5,jA 67 (qF 0 11),ql 68 67,jA 69 (.bslice 1 1 [(.int .i64 0)] [(0,(1,(.t 68)))]),jA 70 (qF 0 7),ql 71 70,jA 72 (.call (.t 66) [(.t 69),(.t 71)]),jA 73 (.append 1 8 (.t 65) (.t 72)),jA 74 (qF 1 6),jG 1 74 73]) (.exit 0))) .skip)))) (
 .region [jA 75 (qA 38 1),qm 38 75]))))))))) (
 .region [jA 76 (qA 31 1),qm 31 76]))))))))))) (
 .seq (
 .region [jB 77 (qN 2 6),jB 78 (qF 1 6),jB 79 (qL 78),jB 80 (qS 79),jB 81 (.bin .gtr (.t 80) (.c (.int .i64 0))),⟨none,(.store 2 (.t 2) (.t 77)),none,[(79,(none,(.load none (.t 78))))],true⟩,jB 3 (qM 81)]) .ret)))))))))⟩
theorem c6:compFunc Tryd.prog GL [] Tryd.f6=some l6:=by kernel_rfl
def l7:LFunc:=⟨14,[(.cell 2 (some 2)),(.tmp 3)],
 (
 .seq (
 .region [jA 1 (qO 0),jA 2 (.alloc [.nils, .nils]),jA 3 (qK false)]) (
 .seq (
 .seq (
 .region [jA 4 (qN 3 1),jA 5 (qG 23 4),jA 6 (.un .not (.t 5))]) (.cond (.t 6) (
 .seq (
 .region [jA 7 (.build [.nils, .nils] []),jG 2 2 7,jA 3 (qK false)]) .ret) .skip)) (
 .seq (
 .region [jA 8 (qN 3 1),jA 9 (qF 1 1),ql 10 9,jA 11 (.call (.c (.fn (.func 24) [] [])) [(.t 8),(.t 10)]),jA 12 (.ext (.t 11) 0),jA 13 (.ext (.t 11) 1),jG 2 2 12,qm 3 13]) .ret)))⟩
theorem c7:compFunc Tryd.prog GL [] Tryd.f7=some l7:=by kernel_rfl
def l8:LFunc:=⟨31,[(.cell 6 (some 2)),(.tmp 7),(.tmp 8)],
 (
 .seq (
 .region [jA 3 (qO 0),jA 4 (qO 1),jA 6 (.alloc [.nils, .nils]),jA 7 (qK false),jA 8 (qC 0)]) (
 .seq (
 .region [jA 14 (qN 3 3),jA 15 (qN 3 4),qm 16 2,jA 17 (.call (.c (.fn (.func 25) [] [])) [(.t 14),(.t 15),(.t 16)]),qm 13 17,jA 18 (.ext (.t 13) 0),jA 19 (.ext (.t 13) 1),jA 9 (.alloc [(.int .i64 0), .nils, .nils]),jG 3 9 18,qm 10 19]) (
 .seq (
 .seq (
 .region [qm 20 10,jA 21 (.bin .neq (.t 20) (.c (.int .i64 0)))]) (.cond (.t 21) (
 .seq (
 .region [jA 22 (.build [.nils, .nils] []),qm 23 10,jG 2 6 22,jA 7 (qK false),qm 8 23]) .ret) .skip)) (
 .seq (
 .region [jA 25 (qN 3 9),jA 26 (qG 6 25),qm 24 26,jA 27 (.ext (.t 24) 0),jA 28 (.ext (.t 24) 1),jA 11 (.alloc [.nils, .nils]),jG 2 11 27,qm 12 28]) (
 .seq (
 .region [jA 29 (qN 2 11),qm 30 12,jG 2 6 29,qm 7 30,jA 8 (qC 0)]) .ret)))))⟩
theorem c8:compFunc Tryd.prog GL [] Tryd.f8=some l8:=by kernel_rfl
def l9:LFunc:=⟨33,[(.cell 6 (some 2)),(.tmp 7),(.tmp 8)],
 (
 .seq (
 .region [jA 3 (qO 0),jA 4 (qO 1),jA 6 (.alloc [.nils, .nils]),jA 7 (qK false),jA 8 (qC 0)]) (
 .seq (
 .region [jA 14 (qN 3 3),jA 15 (qN 3 4),qm 16 2,jA 17 (.call (.c (.fn (.func 26) [] [])) [(.t 14),(.t 15),(.t 16)]),qm 13 17,jA 18 (.ext (.t 13) 0),jA 19 (.ext (.t 13) 1),jA 9 (.alloc [(.int .i64 0), .nils, .nils]),jG 3 9 18,qm 10 19]) (
 .seq (
 .seq (
 .region [qm 20 10,jA 21 (.bin .neq (.t 20) (.c (.int .i64 0)))]) (.cond (.t 21) (
 .seq (
 .region [jA 22 (.build [.nils, .nils] []),qm 23 10,jG 2 6 22,jA 7 (qK false),qm 8 23]) .ret) .skip)) (
 .seq (
 .region [jA 25 (qN 3 9),jA 26 (qF 1 9),ql 27 26,jA 28 (.call (.c (.fn (.func 24) [] [])) [(.t 25),(.t 27)]),qm 24 28,jA 29 (.ext (.t 24) 0),jA 30 (.ext (.t 24) 1),jA 11 (.alloc [.nils, .nils]),jG 2 11 29,qm 12 30]) (
 .seq (
 .region [jA 31 (qN 2 11),qm 32 12,jG 2 6 31,qm 7 32,jA 8 (qC 0)]) .ret)))))⟩
theorem c9:compFunc Tryd.prog GL [] Tryd.f9=some l9:=by kernel_rfl
def l10:LFunc:=⟨17,[(.tmp 4)],
 (
 .seq (
 .region [jA 2 (qO 0),jA 3 (qO 1),jA 4 (qK false)]) (
 .seq (
 .region [jA 5 (qF 0 2),ql 6 5,jA 7 (qF 0 3),ql 8 7,jA 9 (.call (.c (.fn (.func 27) [] [])) [(.t 6),(.t 8)]),qm 10 9,jD 11 (qF 1 2) 10,jD 12 (qL 11) 10,jD 13 (qF 1 3) 10,jD 14 (qL 13) 10,jD 15 (.call (.c (.fn (.func 27) [] [])) [(.t 12),(.t 14)]) 10,jA 16 (.pick (.t 10) (.t 15) (.c (.bool false))),qm 4 16]) .ret))⟩
theorem c10:compFunc Tryd.prog GL [] Tryd.f10=some l10:=by kernel_rfl
def l11:LFunc:=⟨26,[(.tmp 4)],
 (
 .seq (
 .region [jA 4 (qK false)]) (
 .seq (
 .seq (
 .region [qm 6 0,jA 7 (qS 6),qm 8 1,jA 9 (qS 8),jA 10 (.bin .neq (.t 7) (.t 9))]) (.cond (.t 10) (
 .seq (
 .region [jA 4 (qK false)]) .ret) .skip)) (
 .seq (
 .seq (
 .region [jA 5 (qC 0)]) (.block 0 (.loop (
 .seq (
 .seq (
 .region [qm 11 5,qm 12 0,jA 13 (qS 12),jA 14 (qB 11 13)]) (.cond (.t 14) .skip (.exit 0))) (
 .seq (.block 1 (
 .seq (
 .region [jB 17 (qM 0),jB 18 (qM 5),jB 19 (qI 1 17 18),jB 20 (qL 19),jB 21 (qM 1),jB 22 (qM 5),jB 23 (qI 1 21 22),jB 24 (qL 23),jB 25 (.eq true .bool (.t 20) (.t 24))]) (.cond (.t 25) (
 .seq (
 .region [jA 4 (qK false)]) .ret) .skip))) (
 .region [qm 15 5,jA 16 (qA 15 1),qm 5 16])))))) (
 .seq (
 .region [jA 4 (qK true)]) .ret))))⟩
theorem c11:compFunc Tryd.prog GL [] Tryd.f11=some l11:=by kernel_rfl
def l12:LFunc:=⟨106,[(.tmp 2)],
 (
 .seq (
 .region [jA 1 (qO 0),jA 2 (.mv (.c .nils))]) (
 .seq (
 .seq (
 .region [jA 17 (qN 3 1),jA 18 (qG 16 17),jA 19 (.un .not (.t 18))]) (.cond (.t 19) (
 .seq (
 .region [jA 2 (.mv (.c .nils))]) .ret) .skip)) (
 .seq (
 .region [jA 20 (qN 3 1),jA 21 (qG 19 20),qm 3 21]) (
 .seq (
 .region [jA 22 (qF 2 1),ql 23 22,jA 24 (qS 23),jA 25 (.mkslice 1 1 [(.bool false)] (.t 24) (.t 24)),jA 4 (.alloc [.nils]),jG 1 4 25]) (
 .seq (
 .region [jA 26 (qF 2 1),ql 27 26,jA 28 (qS 27),jA 29 (.mkslice 1 24 [.nils] (.t 28) (.t 28)),qm 5 29]) (
 .seq (
 .region [jA 6 (.alloc [.nils])]) (
 .seq (
 .region [jA 30 (.mkfn (.func 28) [] [(.t 4),(.t 6)]),qm 7 30]) (
 .seq (
 .seq (
 .region [jA 31 (qF 2 1),ql 32 31,jA 33 (qS 32),jA 34 (qC 0)]) (.block 0 (.loop (
 .seq (
 .region [jA 35 (qB 34 33)]) (
 .seq (.cond (.t 35) .skip (.exit 0)) (
 .seq (.block 1 (
 .seq (
 .region [qm 36 34,jA 37 (qI 1 32 34),ql 38 37,qm 8 36,qm 9 38]) (
 .seq (
 .region [qm 39 9,jA 40 (qS 39),jA 41 (qC 0)]) (.block 2 (.loop (
 .seq (
 .region [jA 42 (qB 41 40)]) (
 .seq (.cond (.t 42) .skip (.exit 2)) (
 .seq (.block 3 (
 .seq (
 .region [jA 43 (qI 1 39 41),ql 44 43,qm 11 44]) (
 .seq (
 .region [qm 45 11,jA 46 (qS 45),jA 47 (qC 0)]) (.block 4 (.loop (
 .seq (
 .region [jA 48 (qB 47 46)]) (
 .seq (.cond (.t 48) .skip (.exit 4)) (
 .seq (.block 5 (
 .seq (
 .region [jA 49 (qI 2 45 47),jA 50 (qN 2 49),jA 13 (.alloc [(.int .i64 0),(.bool false)]),jG 2 13 50]) (
 .seq (
 .region [jB 51 (qM 5),jB 52 (qF 0 13),jB 53 (qL 52),jB 54 (qM 5),jB 55 (qF 0 13),jB 56 (qL 55),jB 57 (qI 1 54 56),jB 58 (qL 57),jB 59 (qM 8),⟨(some 60),(.bslice 1 1 [(.int .i64 0)] [(0,(1,(.t 59)))]),none,[(53,(none,(.load none (.t 52)))),(56,(none,(.load none (.t 55)))),(58,(none,(.load none (.t 57))))],true⟩,⟨(some 61),(.append 1 8 (.t 58) (.t 60)),none,[(53,(none,(.load none (.t 52))))],true⟩,jB 62 (qI 1 51 53),jH 1 62 61]) (
 .seq (
 .region [jB 63 (qF 1 13),jB 64 (qL 63),jB 65 (qM 64),jE 66 (qM 3) 65,jE 67 (qF 0 13) 65,jE 68 (qL 67) 65,jE 69 (qI 1 66 68) 65,jE 70 (qL 69) 65,jE 71 (qM 3) 65,jE 72 (qM 8) 65,jE 73 (qI 1 71 72) 65,jE 74 (qL 73) 65,jE 75 (.bin .eql (.t 70) (.t 74)) 65,jB 76 (.pick (.t 65) (.t 75) (.c (.bool false)))]) (.cond (.t 76) (
 .region [qm 77 7,qm 78 8,jA 79 (.call (.t 77) [(.t 78)])]) .skip))))) (
 .region [jA 80 (qA 47 1),qm 47 80]))))))))) (
 .region [jA 81 (qA 41 1),qm 41 81]))))))))) (
 .region [jA 82 (qA 34 1),qm 34 82]))))))) (
 .seq (
 .seq (
 .region [jA 14 (qC 0)]) (.block 6 (.loop (
 .seq (
 .seq (
 .region [qm 83 14,ql 84 6,jA 85 (qS 84),jA 86 (qB 83 85)]) (.cond (.t 86) .skip (.exit 6))) (
 .seq (.block 7 (
 .seq (
 .region [qm 89 5,ql 90 6,qm 91 14,jA 92 (qI 1 90 91),ql 93 92,jA 94 (qI 1 89 93),ql 95 94,jA 96 (qS 95),jA 97 (qC 0)]) (.block 8 (.loop (
 .seq (
 .region [jA 98 (qB 97 96)]) (
 .seq (.cond (.t 98) .skip (.exit 8)) (
 .seq (.block 9 (
 .seq (
 .region [jA 99 (qI 1 95 97),ql 100 99,qm 16 100]) (
 .region [qm 101 7,qm 102 16,jA 103 (.call (.t 101) [(.t 102)])]))) (
 .region [jA 104 (qA 97 1),qm 97 104])))))))) (
 .region [qm 87 14,jA 88 (qA 87 1),qm 14 88])))))) (
 .seq (
 .region [ql 105 4,qm 2 105]) .ret))))))))))⟩
theorem c12:compFunc Tryd.prog GL [] Tryd.f12=some l12:=by kernel_rfl
def l13:LFunc:=⟨29,[(.tmp 2)],
 (
 .seq (
 .region [jA 1 (qO 0),jA 2 (.mv (.c .nils))]) (
 .seq (
 .seq (
 .region [jA 7 (qN 3 1),jA 8 (qG 23 7),jA 9 (.un .not (.t 8))]) (.cond (.t 9) (
 .seq (
 .region [jA 2 (.mv (.c .nils))]) .ret) .skip)) (
 .seq (
 .region [jA 3 (.mv (.c .nils))]) (
 .seq (
 .seq (
 .region [jA 4 (qC 0)]) (.block 0 (.loop (
 .seq (
 .seq (
 .region [qm 10 4,jA 11 (qF 2 1),ql 12 11,jA 13 (qS 12),jA 14 (qB 10 13)]) (.cond (.t 14) .skip (.exit 0))) (
 .seq (.block 1 (
 .seq (
 .region [jA 18 (qN 3 1),qm 19 4,jA 20 (.bslice 1 1 [(.int .i64 0)] [(0,(1,(.t 19)))]),jA 21 (.call (.c (.fn (.func 24) [] [])) [(.t 18),(.t 20)]),qm 17 21,jA 22 (.ext (.t 17) 0),jA 23 (.ext (.t 17) 1),jA 5 (.alloc [.nils, .nils]),jG 2 5 22,qm 6 23]) (
 .region [qm 24 3,qm 25 6,jA 26 (.bslice 1 1 [(.bool false)] [(0,(1,(.t 25)))]),jA 27 (.append 1 1 (.t 24) (.t 26)),qm 3 27]))) (
 .region [qm 15 4,jA 16 (qA 15 1),qm 4 16])))))) (
 .seq (
 .region [qm 28 3,qm 2 28]) .ret)))))⟩
theorem c13:compFunc Tryd.prog GL [] Tryd.f13=some l13:=by kernel_rfl
def l16:LFunc:=⟨101,[(.tmp 2)],
 (
 .seq (
 .region [jA 1 (qO 0),jA 2 (qK false)]) (
 .seq (
 .seq (
 .region [jA 12 (qF 0 1),ql 13 12,jA 14 (.bin .lss (.t 13) (.c (.int .i64 1))),qm 15 14,jC 16 (qF 0 1) 15,jC 17 (qL 16) 15,jC 18 (.bin .gtr (.t 17) (.c (.int .i64 64))) 15,jA 19 (qP 15 18),qm 20 19,jC 21 (qF 2 1) 20,jC 22 (qL 21) 20,jC 23 (qS 22) 20,jC 24 (.bin .gtr (.t 23) (.c (.int .i64 3000))) 20,jA 25 (qP 20 24)]) (.cond (.t 25) (
 .seq (
 .region [jA 2 (qK false)]) .ret) .skip)) (
 .seq (
 .region [jA 26 (.mkfn (.func 34) [] [(.t 1)]),qm 3 26]) (
 .seq (
 .seq (
 .region [jA 27 (qF 1 1),ql 28 27,jA 29 (qS 28),jA 30 (qC 0)]) (.block 0 (.loop (
 .seq (
 .region [jA 31 (qB 30 29)]) (
 .seq (.cond (.t 31) .skip (.exit 0)) (
 .seq (.block 1 (
 .seq (
 .region [qm 32 30,jA 33 (qI 1 28 30),ql 34 33,qm 4 32,qm 5 34]) (
 .seq (
 .region [qm 35 3,qm 36 5,jA 37 (.call (.t 35) [(.t 36)]),jA 38 (.un .not (.t 37)),qm 39 38,jC 40 (qM 4) 39,jC 41 (.bin .gtr (.t 40) (.c (.int .i64 0))) 39,jC 42 (qM 41) 39,jD 43 (qF 1 1) 42,jD 44 (qL 43) 42,jD 45 (qM 4) 42,jD 46 (.bin .sub (.t 45) (.c (.int .i64 1))) 42,jD 47 (qI 1 44 46) 42,jD 48 (qL 47) 42,jD 49 (qM 5) 42,jD 50 (.bin .geq (.t 48) (.t 49)) 42,jC 51 (.pick (.t 42) (.t 50) (.c (.bool false))) 39,jA 52 (qP 39 51)]) (.cond (.t 52) (
 .seq (
 .region [jA 2 (qK false)]) .ret) .skip)))) (
 .region [jA 53 (qA 30 1),qm 30 53]))))))) (
 .seq (
 .seq (
 .region [jA 54 (qF 2 1),ql 55 54,jA 56 (qS 55),jA 57 (qC 0)]) (.block 2 (.loop (
 .seq (
 .region [jA 58 (qB 57 56)]) (
 .seq (.cond (.t 58) .skip (.exit 2)) (
 .seq (.block 3 (
 .seq (
 .region [jA 59 (qI 1 55 57),ql 60 59,qm 7 60]) (
 .seq (
 .seq (
 .region [qm 61 7,jA 62 (qS 61),jA 63 (qF 0 1),ql 64 63,jA 65 (.bin .neq (.t 62) (.t 64))]) (.cond (.t 65) (
 .seq (
 .region [jA 2 (qK false)]) .ret) .skip)) (
 .seq (
 .region [qm 66 7,jA 67 (qS 66),jA 68 (qC 0)]) (.block 4 (.loop (
 .seq (
 .region [jA 69 (qB 68 67)]) (
 .seq (.cond (.t 69) .skip (.exit 4)) (
 .seq (.block 5 (
 .seq (
 .region [jA 70 (qI 1 66 68),ql 71 70,qm 9 71]) (
 .seq (
 .region [qm 72 9,jA 73 (qS 72),jA 74 (qC 0)]) (.block 6 (.loop (
 .seq (
 .region [jA 75 (qB 74 73)]) (
 .seq (.cond (.t 75) .skip (.exit 6)) (
 .seq (.block 7 (
 .seq (
 .region [qm 76 74,jA 77 (qI 2 72 74),jA 78 (qN 2 77),jA 11 (.alloc [(.int .i64 0),(.bool false)]),qm 10 76,jG 2 11 78]) (
 .seq (
 .region [jB 79 (qM 3),jB 80 (qF 0 11),jB 81 (qL 80),jB 82 (.call (.t 79) [(.t 81)]),jB 83 (.un .not (.t 82)),jB 84 (qM 83),jF 85 (qM 10) 84,jF 86 (.bin .gtr (.t 85) (.c (.int .i64 0))) 84,jF 87 (qM 86) 84,jE 88 (qM 9) 87,jE 89 (qM 10) 87,jE 90 (.bin .sub (.t 89) (.c (.int .i64 1))) 87,jE 91 (qI 2 88 90) 87,jE 92 (qN 2 91) 87,jE 93 (qN 2 11) 87,jE 94 (.call (.c (.fn (.func 35) [] [])) [(.t 92),(.t 93)]) 87,jE 95 (.bin .geq (.t 94) (.c (.int .i64 0))) 87,jF 96 (.pick (.t 87) (.t 95) (.c (.bool false))) 84,jB 97 (qP 84 96)]) (.cond (.t 97) (
 .seq (
 .region [jA 2 (qK false)]) .ret) .skip)))) (
 .region [jA 98 (qA 74 1),qm 74 98]))))))))) (
 .region [jA 99 (qA 68 1),qm 68 99])))))))))) (
 .region [jA 100 (qA 57 1),qm 57 100]))))))) (
 .seq (
 .region [jA 2 (qK true)]) .ret))))))⟩
theorem c16:compFunc Tryd.prog GL [] Tryd.f16=some l16:=by kernel_rfl
def l19:LFunc:=⟨39,[(.tmp 2)],
 (
 .seq (
 .region [jA 1 (qO 0),jA 2 (.mv (.c .nils))]) (
 .seq (
 .region [jA 10 (qF 2 1),ql 11 10,jA 12 (qS 11),jA 13 (.mkslice 1 8 [(.int .i64 0)] (.t 12) (.t 12)),jA 3 (.alloc [.nils]),jG 1 3 13]) (
 .seq (
 .region [jA 14 (qF 2 1),ql 15 14,jA 16 (qS 15),jA 17 (.mkslice 1 8 [(.int .i64 0)] (.t 16) (.t 16)),jA 4 (.alloc [.nils]),jG 1 4 17]) (
 .seq (
 .region [jA 18 (qF 2 1),ql 19 18,jA 20 (qS 19),jA 21 (.mkslice 1 8 [(.int .i64 0)] (.t 20) (.t 20)),jA 5 (.alloc [.nils]),jG 1 5 21]) (
 .seq (
 .region [jA 6 (.alloc [.nils])]) (
 .seq (
 .region [jA 7 (.alloc [(.int .i64 0)]),⟨none,(.store 1 (.t 7) (.c (.int .i64 0))),none,[],false⟩]) (
 .seq (
 .region [jA 8 (.alloc [.nilf])]) (
 .seq (
 .region [jA 22 (.mkfn (.func 37) [] [(.t 7),(.t 4),(.t 5),(.t 6),(.t 1),(.t 8),(.t 3)]),jG 1 8 22]) (
 .seq (
 .seq (
 .region [jA 23 (qF 2 1),ql 24 23,jA 25 (qS 24),jA 26 (qC 0)]) (.block 0 (.loop (
 .seq (
 .region [jA 27 (qB 26 25)]) (
 .seq (.cond (.t 27) .skip (.exit 0)) (
 .seq (.block 1 (
 .seq (
 .region [qm 28 26,qm 9 28]) (
 .seq (
 .region [ql 29 4,qm 30 9,jA 31 (qI 1 29 30),ql 32 31,jA 33 (.bin .eql (.t 32) (.c (.int .i64 0)))]) (.cond (.t 33) (
 .region [ql 34 8,qm 35 9,jA 36 (.call (.t 34) [(.t 35)])]) .skip)))) (
 .region [jA 37 (qA 26 1),qm 26 37]))))))) (
 .seq (
 .region [ql 38 3,qm 2 38]) .ret))))))))))⟩
theorem c19:compFunc Tryd.prog GL [] Tryd.f19=some l19:=by kernel_rfl
def l20:LFunc:=⟨48,[(.tmp 5)],
 (
 .seq (
 .region [jA 4 (qO 1),jA 5 (.mv (.c .nils))]) (
 .seq (
 .region [jA 10 (qF 2 2),ql 11 10,jA 12 (qS 11),jA 13 (.mkslice 3 24 [(.int .i64 0),(.int .i64 0),(.int .i64 0)] (.t 12) (.t 12)),jA 6 (.alloc [.nils]),jG 1 6 13]) (
 .seq (
 .seq (
 .region [jA 14 (qN 3 2),qm 15 0,jA 16 (.call (.c (.fn (.func 21) [] [])) [(.t 14),(.t 15)])]) (.block 0 (.rangeFunc (.t 16) [17] (
 .region [jA 7 (.alloc [(.int .i64 0),(.int .i64 0),(.int .i64 0)]),jG 3 7 17]) (.block 1 (
 .seq (
 .region [ql 18 6,jA 19 (qF 0 7),ql 20 19,jA 21 (qN 3 7),jA 22 (qI 3 18 20),jG 3 22 21]) (
 .seq (
 .region [jA 23 (qF 0 7),ql 24 23,ql 25 4,jA 26 (.bin .eql (.t 24) (.t 25))]) (.cond (.t 26) (.exit 0) .skip))))))) (
 .seq (
 .region [jA 8 (.mv (.c .nils))]) (
 .seq (
 .seq (
 .region [ql 27 6,ql 28 4,jA 29 (qI 3 27 28),jA 30 (qN 3 29),jA 9 (.alloc [(.int .i64 0),(.int .i64 0),(.int .i64 0)]),jG 3 9 30]) (.block 2 (.loop (
 .seq (
 .seq (
 .region [jA 31 (qF 1 9),ql 32 31,jA 33 (.bin .geq (.t 32) (.c (.int .i64 0)))]) (.cond (.t 33) .skip (.exit 2))) (
 .seq (.block 3 (
 .region [qm 39 8,jA 40 (qF 2 9),ql 41 40,jA 42 (.bslice 1 1 [(.int .i64 0)] [(0,(1,(.t 41)))]),jA 43 (.append 1 8 (.t 39) (.t 42)),qm 8 43])) (
 .seq (
 .seq (
 .region [jA 44 (qN 3 9)]) (
 .region [jA 9 (.alloc [(.int .i64 0),(.int .i64 0),(.int .i64 0)]),jG 3 9 44])) (
 .region [ql 34 6,jA 35 (qF 1 9),ql 36 35,jA 37 (qI 3 34 36),jA 38 (qN 3 37),jG 3 9 38]))))))) (
 .seq (
 .region [qm 45 8,jA 46 (qG 22 45)]) (
 .seq (
 .region [qm 47 8,qm 5 47]) .ret)))))))⟩
theorem c20:compFunc Tryd.prog GL [] Tryd.f20=some l20:=by kernel_rfl
def l21:LFunc:=⟨6,[(.tmp 4)],
 (
 .seq (
 .region [jA 2 (qO 0),jA 3 (qO 1),jA 4 (.mv (.c .nilf))]) (
 .seq (
 .region [jA 5 (.mkfn (.func 38) [] [(.t 2),(.t 3)]),qm 4 5]) .ret))⟩
theorem c21:compFunc Tryd.prog GL [] Tryd.f21=some l21:=by kernel_rfl
def l22:LFunc:=⟨28,[],
 (
 .seq (
 .region [qm 4 0,jA 5 (qS 4),jA 6 (.bin .sub (.t 5) (.c (.int .i64 1))),jA 2 (qC 0),qm 3 6]) (.block 0 (.loop (
 .seq (
 .seq (
 .region [qm 7 2,qm 8 3,jA 9 (qB 7 8)]) (.cond (.t 9) .skip (.exit 0))) (
 .seq (.block 1 (
 .region [jB 14 (qM 0),jB 15 (qM 2),jB 16 (qM 0),jB 17 (qM 3),jB 18 (qM 0),jB 19 (qM 3),jB 20 (qI 1 18 19),jB 21 (qL 20),jB 22 (qM 0),jB 23 (qM 2),jB 24 (qI 1 22 23),jB 25 (qL 24),jB 26 (qI 1 14 15),jH 1 26 21,jB 27 (qI 1 16 17),jH 1 27 25])) (
 .region [qm 10 2,jA 11 (qA 10 1),qm 12 3,jA 13 (.bin .sub (.t 12) (.c (.int .i64 1))),qm 2 11,qm 3 13]))))))⟩
theorem c22:compFunc Tryd.prog GL [] Tryd.f22=some l22:=by kernel_rfl
def l23:LFunc:=⟨134,[(.tmp 2)],
 (
 .seq (
 .region [jA 1 (qO 0),jA 2 (qK false)]) (
 .seq (
 .seq (
 .region [jA 8 (qF 0 1),ql 9 8,jA 10 (.bin .lss (.t 9) (.c (.int .i64 1))),qm 11 10,jC 12 (qF 0 1) 11,jC 13 (qL 12) 11,jC 14 (.bin .gtr (.t 13) (.c (.int .i64 64))) 11,jA 15 (qP 11 14),qm 16 15,jC 17 (qF 2 1) 16,jC 18 (qL 17) 16,jC 19 (qS 18) 16,jC 20 (.bin .gtr (.t 19) (.c (.int .i64 3000))) 16,jA 21 (qP 16 20)]) (.cond (.t 21) (
 .seq (
 .region [jA 2 (qK false)]) .ret) .skip)) (
 .seq (
 .seq (
 .region [jA 3 (qC 0)]) (.block 0 (.loop (
 .seq (
 .seq (
 .region [qm 22 3,jA 23 (qF 1 1),ql 24 23,jA 25 (qS 24),jA 26 (qB 22 25)]) (.cond (.t 26) .skip (.exit 0))) (
 .seq (.block 1 (
 .seq (
 .region [jB 29 (qF 1 1),jB 30 (qL 29),jB 31 (qM 3),jB 32 (qI 1 30 31),jB 33 (qL 32),jB 34 (.bin .lss (.t 33) (.c (.int .i64 0))),jB 35 (qM 34),jF 36 (qF 1 1) 35,jF 37 (qL 36) 35,jF 38 (qM 3) 35,jF 39 (qI 1 37 38) 35,jF 40 (qL 39) 35,jF 41 (qF 2 1) 35,jF 42 (qL 41) 35,jF 43 (qS 42) 35,jF 44 (.bin .geq (.t 40) (.t 43)) 35,jB 45 (qP 35 44),jB 46 (qM 45),jF 47 (qM 3) 46,jF 48 (.bin .gtr (.t 47) (.c (.int .i64 0))) 46,jF 49 (qM 48) 46,jE 50 (qF 1 1) 49,jE 51 (qL 50) 49,jE 52 (qM 3) 49,jE 53 (.bin .sub (.t 52) (.c (.int .i64 1))) 49,jE 54 (qI 1 51 53) 49,jE 55 (qL 54) 49,jE 56 (qF 1 1) 49,jE 57 (qL 56) 49,jE 58 (qM 3) 49,jE 59 (qI 1 57 58) 49,jE 60 (qL 59) 49,jE 61 (.bin .geq (.t 55) (.t 60)) 49,jF 62 (.pick (.t 49) (.t 61) (.c (.bool false))) 46,jB 63 (qP 46 62)]) (.cond (.t 63) (
 .seq (
 .region [jA 2 (qK false)]) .ret) .skip))) (
 .region [qm 27 3,jA 28 (qA 27 1),qm 3 28])))))) (
 .seq (
 .seq (
 .region [jA 4 (qC 0)]) (.block 2 (.loop (
 .seq (
 .seq (
 .region [qm 64 4,jA 65 (qF 2 1),ql 66 65,jA 67 (qS 66),jA 68 (qB 64 67)]) (.cond (.t 68) .skip (.exit 2))) (
 .seq (.block 3 (
 .seq (
 .seq (
 .region [jB 71 (qF 2 1),jB 72 (qL 71),jB 73 (qM 4),jB 74 (qI 1 72 73),jB 75 (qL 74),jB 76 (qS 75),jB 77 (qF 0 1),jB 78 (qL 77),jB 79 (.bin .neq (.t 76) (.t 78))]) (.cond (.t 79) (
 .seq (
 .region [jA 2 (qK false)]) .ret) .skip)) (
 .seq (
 .region [jA 5 (qC 0)]) (.block 4 (.loop (
 .seq (
 .seq (
 .region [qm 80 5,jA 81 (qF 0 1),ql 82 81,jA 83 (qB 80 82)]) (.cond (.t 83) .skip (.exit 4))) (
 .seq (.block 5 (
 .seq (
 .region [jA 86 (qF 2 1),ql 87 86,qm 88 4,jA 89 (qI 1 87 88),ql 90 89,qm 91 5,jA 92 (qI 1 90 91),ql 93 92,qm 6 93]) (
 .seq (
 .region [jA 7 (qC 0)]) (.block 6 (.loop (
 .seq (
 .seq (
 .region [qm 94 7,qm 95 6,jA 96 (qS 95),jA 97 (qB 94 96)]) (.cond (.t 97) .skip (.exit 6))) (
 .seq (.block 7 (
 .seq (
 .region [jB 100 (qM 6),jB 101 (qM 7),jB 102 (qI 2 100 101),jB 103 (qF 0 102),jB 104 (qL 103),jB 105 (.bin .lss (.t 104) (.c (.int .i64 0))),jB 106 (qM 105),jF 107 (qM 6) 106,jF 108 (qM 7) 106,jF 109 (qI 2 107 108) 106,jF 110 (qF 0 109) 106,jF 111 (qL 110) 106,jF 112 (qF 2 1) 106,jF 113 (qL 112) 106,jF 114 (qS 113) 106,jF 115 (.bin .geq (.t 111) (.t 114)) 106,jB 116 (qP 106 115),jB 117 (qM 116),jF 118 (qM 7) 117,jF 119 (.bin .gtr (.t 118) (.c (.int .i64 0))) 117,jF 120 (qM 119) 117,jE 121 (qM 6) 120,jE 122 (qM 7) 120,jE 123 (.bin .sub (.t 122) (.c (.int .i64 1))) 120,jE 124 (qI 2 121 123) 120,jE 125 (qN 2 124) 120,jE 126 (qM 6) 120,jE 127 (qM 7) 120,jE 128 (qI 2 126 127) 120,jE 129 (qN 2 128) 120,jE 130 (.call (.c (.fn (.func 40) [] [])) [(.t 125),(.t 129)]) 120,jE 131 (.un .not (.t 130)) 120,jF 132 (.pick (.t 120) (.t 131) (.c (.bool false))) 117,jB 133 (qP 117 132)]) (.cond (.t 133) (
 .seq (
 .region [jA 2 (qK false)]) .ret) .skip))) (
 .region [qm 98 7,jA 99 (qA 98 1),qm 7 99])))))))) (
 .region [qm 84 5,jA 85 (qA 84 1),qm 5 85])))))))) (
 .region [qm 69 4,jA 70 (qA 69 1),qm 4 70])))))) (
 .seq (
 .region [jA 2 (qK true)]) .ret)))))⟩
theorem c23:compFunc Tryd.prog GL [] Tryd.f23=some l23:=by kernel_rfl
def l24:LFunc:=⟨84,[(.cell 4 (some 2)),(.tmp 5)],
 (
 .seq (
 .region [jA 2 (qO 0),jA 4 (.alloc [.nils, .nils]),jA 5 (qK false)]) (
 .seq (
 .region [jA 13 (qN 3 2),qm 14 1,jA 15 (.call (.c (.fn (.func 41) [] [])) [(.t 13),(.t 14)]),qm 6 15]) (
 .seq (
 .seq (
 .region [jA 7 (qC 0)]) (.block 0 (.loop (
 .seq (
 .seq (
 .region [qm 16 7,qm 17 6,jA 18 (qS 17),jA 19 (qB 16 18)]) (.cond (.t 19) .skip (.exit 0))) (
 .seq (.block 1 (
 .seq (
 .region [jA 8 (qC 0)]) (.block 2 (.loop (
 .seq (
 .seq (
 .region [qm 22 8,jA 23 (qF 0 2),ql 24 23,jA 25 (qB 22 24)]) (.cond (.t 25) .skip (.exit 2))) (
 .seq (.block 3 (
 .seq (
 .region [jB 28 (qF 2 2),jB 29 (qL 28),jB 30 (qM 6),jB 31 (qM 7),jB 32 (qI 2 30 31),jB 33 (qF 0 32),jB 34 (qL 33),jB 35 (qI 1 29 34),jB 36 (qL 35),jB 37 (qM 8),jB 38 (qI 1 36 37),jB 39 (qL 38),jB 9 (qM 39)]) (
 .seq (
 .region [jA 10 (qC 0)]) (.block 4 (.loop (
 .seq (
 .seq (
 .region [qm 40 10,qm 41 9,jA 42 (qS 41),jA 43 (qB 40 42)]) (.cond (.t 43) .skip (.exit 4))) (
 .seq (.block 5 (
 .seq (
 .seq (
 .region [qm 46 9,qm 47 10,jA 48 (qI 2 46 47),jA 49 (qF 1 48),ql 50 49,jA 51 (.un .not (.t 50))]) (.cond (.t 51) (.exit 5) .skip)) (
 .seq (
 .region [jB 52 (qN 3 2),jB 53 (qM 9),jB 54 (qM 10),jB 55 (qI 2 53 54),jB 56 (qF 0 55),jB 57 (qL 56),⟨(some 58),(.bslice 1 1 [(.int .i64 0)] [(0,(1,(.t 57)))]),none,[(52,(none,(.load (some 3) (.t 2)))),(57,(none,(.load none (.t 56))))],true⟩,jB 59 (.call (.c (.fn (.func 41) [] [])) [(.t 52),(.t 58)]),jB 11 (qM 59)]) (
 .seq (
 .region [qm 60 11,qm 61 6,qm 62 7,jA 63 (qI 2 61 62),jA 64 (qF 0 63),ql 65 64,jA 66 (.call (.c (.fn (.func 42) [] [])) [(.t 60),(.t 65)]),qm 12 66]) (
 .seq (
 .region [qm 67 12,jA 68 (.bin .geq (.t 67) (.c (.int .i64 0)))]) (.cond (.t 68) (
 .seq (
 .region [jB 69 (qM 6),jB 70 (qM 7),jB 71 (qI 2 69 70),jB 72 (qF 1 71),jB 73 (qL 72),jB 74 (qM 8),⟨(some 75),(.bslice 1 1 [(.int .i64 0)] [(0,(1,(.t 74)))]),none,[(73,(none,(.load none (.t 72))))],true⟩,jB 76 (qM 11),jB 77 (qM 12),jB 78 (qI 2 76 77),jB 79 (qF 1 78),jB 80 (qL 79),⟨(some 81),(.append 1 8 (.t 75) (.t 80)),none,[(73,(none,(.load none (.t 72))))],true⟩,jB 82 (.build [.nils, .nils] [(0,(1,(.t 73))),(1,(1,(.t 81)))]),jH 2 4 82,jB 5 (qK true)]) .ret) .skip)))))) (
 .region [qm 44 10,jA 45 (qA 44 1),qm 10 45])))))))) (
 .region [qm 26 8,jA 27 (qA 26 1),qm 8 27]))))))) (
 .region [qm 20 7,jA 21 (qA 20 1),qm 7 21])))))) (
 .seq (
 .region [jA 83 (.build [.nils, .nils] []),jG 2 4 83,jA 5 (qK false)]) .ret))))⟩
theorem c24:compFunc Tryd.prog GL [] Tryd.f24=some l24:=by kernel_rfl
def l25:LFunc:=⟨79,[(.cell 6 (some 3)),(.tmp 7)],
 (
 .seq (
 .region [jA 3 (qO 0),jA 4 (qO 1),jA 6 (.alloc [(.int .i64 0), .nils, .nils]),jA 7 (qC 0)]) (
 .seq (
 .seq (
 .region [jA 14 (qN 3 3),jA 15 (qG 16 14),jA 16 (.un .not (.t 15)),qm 17 16,jC 18 (qN 3 4) 17,jC 19 (qG 16 18) 17,jC 20 (.un .not (.t 19)) 17,jA 21 (qP 17 20),qm 22 21,jC 23 (qF 0 3) 22,jC 24 (qL 23) 22,jC 25 (qF 0 4) 22,jC 26 (qL 25) 22,jC 27 (.bin .neq (.t 24) (.t 26)) 22,jA 28 (qP 22 27),qm 29 28,jC 30 (qM 2) 29,jC 31 (.bin .lss (.t 30) (.c (.int .i64 1))) 29,jA 32 (qP 29 31),qm 33 32,jC 34 (qM 2) 33,jC 35 (.bin .gtr (.t 34) (.c (.int .i64 3000))) 33,jA 36 (qP 33 35)]) (.cond (.t 36) (
 .seq (
 .region [jA 37 (.build [(.int .i64 0), .nils, .nils] []),jG 3 6 37,jA 7 (qC 1)]) .ret) .skip)) (
 .seq (
 .seq (
 .region [jA 38 (qF 1 3),ql 39 38,jA 40 (qS 39),jA 41 (qF 1 4),ql 42 41,jA 43 (qS 42),jA 44 (.bin .mul (.t 40) (.t 43)),qm 45 2,jA 46 (.bin .gtr (.t 44) (.t 45))]) (.cond (.t 46) (
 .seq (
 .region [jA 47 (.build [(.int .i64 0), .nils, .nils] []),jG 3 6 47,jA 7 (qC 2)]) .ret) .skip)) (
 .seq (
 .region [jA 8 (.mv (.c .nils))]) (
 .seq (
 .seq (
 .region [jA 48 (qF 1 3),ql 49 48,jA 50 (qS 49),jA 51 (qC 0)]) (.block 0 (.loop (
 .seq (
 .region [jA 52 (qB 51 50)]) (
 .seq (.cond (.t 52) .skip (.exit 0)) (
 .seq (.block 1 (
 .seq (
 .region [jA 53 (qI 1 49 51),ql 54 53,qm 10 54]) (
 .seq (
 .region [jA 55 (qF 1 4),ql 56 55,jA 57 (qS 56),jA 58 (qC 0)]) (.block 2 (.loop (
 .seq (
 .region [jA 59 (qB 58 57)]) (
 .seq (.cond (.t 59) .skip (.exit 2)) (
 .seq (.block 3 (
 .seq (
 .region [jA 60 (qI 1 56 58),ql 61 60,qm 12 61]) (
 .region [qm 62 8,qm 63 10,qm 64 12,jA 65 (.build [(.int .i64 0),(.int .i64 0),(.int .i64 0)] [(0,(1,(.t 63))),(1,(1,(.t 64)))]),jA 66 (.bslice 3 1 [(.int .i64 0),(.int .i64 0),(.int .i64 0)] [(0,(3,(.t 65)))]),jA 67 (.append 3 24 (.t 62) (.t 66)),qm 8 67]))) (
 .region [jA 68 (qA 58 1),qm 58 68]))))))))) (
 .region [jA 69 (qA 51 1),qm 51 69]))))))) (
 .seq (
 .region [jA 70 (.mkfn (.func 43) [] [(.t 3),(.t 4)]),qm 13 70]) (
 .seq (
 .region [jA 71 (qF 0 3),ql 72 71,qm 73 8,qm 74 2,qm 75 13,jA 76 (.call (.c (.fn (.func 45) [] [])) [(.t 72),(.t 73),(.t 74),(.t 75)]),jA 77 (.ext (.t 76) 0),jA 78 (.ext (.t 76) 1),jG 3 6 77,qm 7 78]) .ret)))))))⟩
theorem c25:compFunc Tryd.prog GL [] Tryd.f25=some l25:=by kernel_rfl
def l26:LFunc:=⟨200,[(.cell 6 (some 3)),(.tmp 7)],
 (
 .seq (
 .region [jA 3 (qO 0),jA 4 (qO 1),jA 6 (.alloc [(.int .i64 0), .nils, .nils]),jA 7 (qC 0)]) (
 .seq (
 .seq (
 .region [jA 24 (qN 3 3),jA 25 (qG 23 24),jA 26 (.un .not (.t 25)),qm 27 26,jC 28 (qN 3 4) 27,jC 29 (qG 23 28) 27,jC 30 (.un .not (.t 29)) 27,jA 31 (qP 27 30),qm 32 31,jC 33 (qF 0 3) 32,jC 34 (qL 33) 32,jC 35 (qF 0 4) 32,jC 36 (qL 35) 32,jC 37 (.bin .neq (.t 34) (.t 36)) 32,jA 38 (qP 32 37),qm 39 38,jC 40 (qM 2) 39,jC 41 (.bin .lss (.t 40) (.c (.int .i64 1))) 39,jA 42 (qP 39 41),qm 43 42,jC 44 (qM 2) 43,jC 45 (.bin .gtr (.t 44) (.c (.int .i64 3000))) 43,jA 46 (qP 43 45)]) (.cond (.t 46) (
 .seq (
 .region [jA 47 (.build [(.int .i64 0), .nils, .nils] []),jG 3 6 47,jA 7 (qC 1)]) .ret) .skip)) (
 .seq (
 .region [jA 48 (qF 0 3),ql 49 48,jA 50 (.build [(.int .i64 0), .nils, .nils] [(0,(1,(.t 49)))]),jA 8 (.alloc [(.int .i64 0), .nils, .nils]),jG 3 8 50]) (
 .seq (
 .region [jA 51 (.bslice 3 0 [(.int .i64 0),(.int .i64 0),(.int .i64 0)] []),qm 9 51]) (
 .seq (
 .seq (
 .region [jA 10 (qC 0)]) (.block 0 (.loop (
 .seq (
 .seq (
 .region [qm 52 10,jA 53 (qF 1 3),ql 54 53,jA 55 (qS 54),jA 56 (qB 52 55)]) (.cond (.t 56) .skip (.exit 0))) (
 .seq (.block 1 (
 .seq (
 .region [jA 11 (qC 0)]) (.block 2 (.loop (
 .seq (
 .seq (
 .region [qm 59 11,jA 60 (qF 1 4),ql 61 60,jA 62 (qS 61),jA 63 (qB 59 62)]) (.cond (.t 63) .skip (.exit 2))) (
 .seq (.block 3 (
 .seq (
 .region [jA 66 (qF 1 8),ql 67 66,qm 68 9,jA 69 (qS 68),jA 70 (.bslice 1 1 [(.int .i64 0)] [(0,(1,(.t 69)))]),jA 71 (.append 1 8 (.t 67) (.t 70)),jA 72 (qF 1 8),jG 1 72 71]) (
 .region [jB 73 (qM 9),jB 74 (qF 1 3),jB 75 (qL 74),jB 76 (qM 10),jB 77 (qI 1 75 76),jB 78 (qL 77),jB 79 (qF 1 4),jB 80 (qL 79),jB 81 (qM 11),jB 82 (qI 1 80 81),jB 83 (qL 82),jB 84 (.build [(.int .i64 0),(.int .i64 0),(.int .i64 0)] [(0,(1,(.t 78))),(1,(1,(.t 83)))]),⟨(some 85),(.bslice 3 1 [(.int .i64 0),(.int .i64 0),(.int .i64 0)] [(0,(3,(.t 84)))]),none,[(75,(none,(.load none (.t 74)))),(78,(none,(.load none (.t 77)))),(80,(none,(.load none (.t 79)))),(83,(none,(.load none (.t 82))))],true⟩,jB 86 (.append 3 24 (.t 73) (.t 85)),jB 9 (qM 86)]))) (
 .region [qm 64 11,jA 65 (qA 64 1),qm 11 65]))))))) (
 .region [qm 57 10,jA 58 (qA 57 1),qm 10 58])))))) (
 .seq (
 .seq (
 .region [qm 87 9,jA 88 (qS 87),qm 89 2,jA 90 (.bin .gtr (.t 88) (.t 89))]) (.cond (.t 90) (
 .seq (
 .region [jA 91 (.build [(.int .i64 0), .nils, .nils] []),jG 3 6 91,jA 7 (qC 2)]) .ret) .skip)) (
 .seq (
 .seq (
 .region [jA 12 (qC 0)]) (.block 4 (.loop (
 .seq (
 .seq (
 .region [qm 92 12,qm 93 9,jA 94 (qS 93),jA 95 (qB 92 94)]) (.cond (.t 95) .skip (.exit 4))) (
 .seq (.block 5 (
 .seq (
 .region [jA 98 (.bslice 1 0 [.nils] []),qm 13 98]) (
 .seq (
 .seq (
 .region [jA 14 (qC 0)]) (.block 6 (.loop (
 .seq (
 .seq (
 .region [qm 99 14,jA 100 (qF 0 8),ql 101 100,jA 102 (qB 99 101)]) (.cond (.t 102) .skip (.exit 6))) (
 .seq (.block 7 (
 .seq (
 .region [jA 105 (.bslice 2 0 [(.int .i64 0),(.bool false)] []),qm 15 105]) (
 .seq (
 .region [jB 106 (qF 2 3),jB 107 (qL 106),jB 108 (qM 9),jB 109 (qM 12),jB 110 (qI 3 108 109),jB 111 (qF 0 110),jB 112 (qL 111),jB 113 (qI 1 107 112),jB 114 (qL 113),jB 115 (qM 14),jB 116 (qI 1 114 115),jB 117 (qL 116),jB 16 (qM 117)]) (
 .seq (
 .region [jB 118 (qF 2 4),jB 119 (qL 118),jB 120 (qM 9),jB 121 (qM 12),jB 122 (qI 3 120 121),jB 123 (qF 1 122),jB 124 (qL 123),jB 125 (qI 1 119 124),jB 126 (qL 125),jB 127 (qM 14),jB 128 (qI 1 126 127),jB 129 (qL 128),jB 17 (qM 129)]) (
 .seq (
 .seq (
 .region [jA 18 (qC 0)]) (.block 8 (.loop (
 .seq (
 .seq (
 .region [qm 130 18,qm 131 16,jA 132 (qS 131),jA 133 (qB 130 132)]) (.cond (.t 133) .skip (.exit 8))) (
 .seq (.block 9 (
 .seq (
 .region [jA 19 (qC 0)]) (.block 10 (.loop (
 .seq (
 .seq (
 .region [qm 136 19,qm 137 17,jA 138 (qS 137),jA 139 (qB 136 138)]) (.cond (.t 139) .skip (.exit 10))) (
 .seq (.block 11 (
 .seq (
 .region [jB 143 (qM 9),jB 144 (qM 12),jB 145 (qI 3 143 144),jB 146 (qF 2 145),jB 147 (qL 146),jB 148 (qM 16),jB 149 (qM 18),jB 150 (qI 2 148 149),jB 151 (qF 1 150),jB 152 (qL 151),jB 153 (qM 17),jB 154 (qM 19),jB 155 (qI 2 153 154),jB 156 (qF 1 155),jB 157 (qL 156),jB 158 (.call (.c (.fn (.func 46) [] [])) [(.t 147),(.t 152),(.t 157)]),jB 142 (qM 158),jB 159 (.ext (.t 142) 0),jB 160 (.ext (.t 142) 1),jB 20 (qM 159),jB 21 (qM 160)]) (
 .seq (
 .region [jB 162 (qM 9),jB 163 (qM 16),jB 164 (qM 18),jB 165 (qI 2 163 164),jB 166 (qF 0 165),jB 167 (qL 166),jB 168 (qM 17),jB 169 (qM 19),jB 170 (qI 2 168 169),jB 171 (qF 0 170),jB 172 (qL 171),jB 173 (qM 20),jB 174 (.build [(.int .i64 0),(.int .i64 0),(.int .i64 0)] [(0,(1,(.t 167))),(1,(1,(.t 172))),(2,(1,(.t 173)))]),jB 175 (.call (.c (.fn (.func 47) [] [])) [(.t 162),(.t 174)]),jB 161 (qM 175),jB 176 (.ext (.t 161) 0),jB 177 (.ext (.t 161) 1),jB 22 (qM 176),jB 23 (qM 177)]) (
 .seq (
 .region [qm 178 22,qm 9 178]) (
 .region [qm 179 15,qm 180 23,qm 181 21,jA 182 (.build [(.int .i64 0),(.bool false)] [(0,(1,(.t 180))),(1,(1,(.t 181)))]),jA 183 (.call (.c (.fn (.func 48) [] [])) [(.t 179),(.t 182)]),qm 15 183]))))) (
 .region [qm 140 19,jA 141 (qA 140 1),qm 19 141]))))))) (
 .region [qm 134 18,jA 135 (qA 134 1),qm 18 135])))))) (
 .region [qm 184 13,qm 185 15,jA 186 (.bslice 1 1 [.nils] [(0,(1,(.t 185)))]),jA 187 (.append 1 24 (.t 184) (.t 186)),qm 13 187])))))) (
 .region [qm 103 14,jA 104 (qA 103 1),qm 14 104])))))) (
 .seq (
 .seq (
 .region [qm 188 9,jA 189 (qS 188),qm 190 2,jA 191 (.bin .gtr (.t 189) (.t 190))]) (.cond (.t 191) (
 .seq (
 .region [jA 192 (.build [(.int .i64 0), .nils, .nils] []),jG 3 6 192,jA 7 (qC 2)]) .ret) .skip)) (
 .region [jA 193 (qF 2 8),ql 194 193,qm 195 13,jA 196 (.bslice 1 1 [.nils] [(0,(1,(.t 195)))]),jA 197 (.append 1 24 (.t 194) (.t 196)),jA 198 (qF 2 8),jG 1 198 197]))))) (
 .region [qm 96 12,jA 97 (qA 96 1),qm 12 97])))))) (
 .seq (
 .region [jA 199 (qN 3 8),jG 3 6 199,jA 7 (qC 0)]) .ret))))))))⟩
theorem c26:compFunc Tryd.prog GL [] Tryd.f26=some l26:=by kernel_rfl
def l27:LFunc:=⟨26,[(.tmp 4)],
 (
 .seq (
 .region [jA 4 (qK false)]) (
 .seq (
 .seq (
 .region [qm 6 0,jA 7 (qS 6),qm 8 1,jA 9 (qS 8),jA 10 (.bin .neq (.t 7) (.t 9))]) (.cond (.t 10) (
 .seq (
 .region [jA 4 (qK false)]) .ret) .skip)) (
 .seq (
 .seq (
 .region [jA 5 (qC 0)]) (.block 0 (.loop (
 .seq (
 .seq (
 .region [qm 11 5,qm 12 0,jA 13 (qS 12),jA 14 (qB 11 13)]) (.cond (.t 14) .skip (.exit 0))) (
 .seq (.block 1 (
 .seq (
 .region [jB 17 (qM 0),jB 18 (qM 5),jB 19 (qI 1 17 18),jB 20 (qL 19),jB 21 (qM 1),jB 22 (qM 5),jB 23 (qI 1 21 22),jB 24 (qL 23),jB 25 (.bin .neq (.t 20) (.t 24))]) (.cond (.t 25) (
 .seq (
 .region [jA 4 (qK false)]) .ret) .skip))) (
 .region [qm 15 5,jA 16 (qA 15 1),qm 5 16])))))) (
 .seq (
 .region [jA 4 (qK true)]) .ret))))⟩
theorem c27:compFunc Tryd.prog GL [] Tryd.f27=some l27:=by kernel_rfl
def l28:LFunc:=⟨16,[],
 (
 .seq (
 .region [ql 4 1,qm 5 0,jA 6 (qI 1 4 5),ql 7 6,jA 8 (.un .not (.t 7))]) (.cond (.t 8) (
 .seq (
 .region [ql 9 1,qm 10 0,jA 11 (qI 1 9 10),⟨none,(.store 1 (.t 11) (.c (.bool true))),none,[],false⟩]) (
 .region [ql 12 2,qm 13 0,jA 14 (.bslice 1 1 [(.int .i64 0)] [(0,(1,(.t 13)))]),jA 15 (.append 1 8 (.t 12) (.t 14)),jG 1 2 15])) .skip))⟩
theorem c28:compFunc Tryd.prog GL [] Tryd.f28=some l28:=by kernel_rfl
def l34:LFunc:=⟨13,[(.tmp 3)],
 (
 .seq (
 .region [jA 3 (qK false)]) (
 .seq (
 .region [qm 4 0,jA 5 (.bin .geq (.t 4) (.c (.int .i64 0))),qm 6 5,jD 7 (qM 0) 6,jD 8 (qF 2 1) 6,jD 9 (qL 8) 6,jD 10 (qS 9) 6,jD 11 (qB 7 10) 6,jA 12 (.pick (.t 6) (.t 11) (.c (.bool false))),qm 3 12]) .ret))⟩
theorem c34:compFunc Tryd.prog GL [] Tryd.f34=some l34:=by kernel_rfl
def l35:LFunc:=⟨23,[(.tmp 4)],
 (
 .seq (
 .region [jA 2 (qO 0),jA 3 (qO 1),jA 4 (qC 0)]) (
 .seq (
 .seq (
 .region [jA 6 (qF 0 2),ql 7 6,jA 8 (qF 0 3),ql 9 8,jA 10 (.call (.c (.fn (.func 57) [] [])) [(.t 7),(.t 9)]),qm 5 10]) (
 .seq (
 .region [qm 11 5,jA 12 (.bin .neq (.t 11) (.c (.int .i64 0))),qm 13 12,jC 14 (qF 1 2) 13,jC 15 (qL 14) 13,jC 16 (qF 1 3) 13,jC 17 (qL 16) 13,jC 18 (.eq false .bool (.t 15) (.t 17)) 13,jA 19 (qP 13 18)]) (.cond (.t 19) (
 .seq (
 .region [qm 20 5,qm 4 20]) .ret) .skip))) (
 .seq (
 .seq (
 .region [jA 21 (qF 1 3),ql 22 21]) (.cond (.t 22) (
 .seq (
 .region [jA 4 (.mv (.c (.int .i64 (-1))))]) .ret) .skip)) (
 .seq (
 .region [jA 4 (qC 1)]) .ret))))⟩
theorem c35:compFunc Tryd.prog GL [] Tryd.f35=some l35:=by kernel_rfl
def l37:LFunc:=⟨105,[],
 (
 .seq (
 .region [ql 14 1,jA 15 (qA 14 1),jG 1 1 15]) (
 .seq (
 .region [jB 16 (qL 2),jB 17 (qM 0),jB 18 (qL 3),jB 19 (qM 0),jB 20 (qL 1),jB 21 (qL 1),jB 22 (qI 1 16 17),⟨none,(.store 1 (.t 22) (.t 20)),none,[(18,(none,(.load none (.t 3)))),(21,(none,(.load none (.t 1))))],true⟩,jB 23 (qI 1 18 19),jH 1 23 21]) (
 .seq (
 .region [ql 24 4,qm 25 0,jA 26 (.bslice 1 1 [(.int .i64 0)] [(0,(1,(.t 25)))]),jA 27 (.append 1 8 (.t 24) (.t 26)),jG 1 4 27]) (
 .seq (
 .seq (
 .region [jA 28 (qF 2 5),ql 29 28,qm 30 0,jA 31 (qI 1 29 30),ql 32 31,jA 33 (qS 32),jA 34 (qC 0)]) (.block 0 (.loop (
 .seq (
 .region [jA 35 (qB 34 33)]) (
 .seq (.cond (.t 35) .skip (.exit 0)) (
 .seq (.block 1 (
 .seq (
 .region [jA 36 (qI 1 32 34),ql 37 36,qm 10 37]) (
 .seq (
 .region [qm 38 10,jA 39 (qS 38),jA 40 (qC 0)]) (.block 2 (.loop (
 .seq (
 .region [jA 41 (qB 40 39)]) (
 .seq (.cond (.t 41) .skip (.exit 2)) (
 .seq (.block 3 (
 .seq (
 .region [jA 42 (qI 2 38 40),jA 43 (qN 2 42),jA 12 (.alloc [(.int .i64 0),(.bool false)]),jG 2 12 43]) (
 .seq (
 .seq (
 .region [ql 44 2,jA 45 (qF 0 12),ql 46 45,jA 47 (qI 1 44 46),ql 48 47,jA 49 (.bin .eql (.t 48) (.c (.int .i64 0)))]) (.cond (.t 49) (
 .region [ql 50 6,jA 51 (qF 0 12),ql 52 51,jA 53 (.call (.t 50) [(.t 52)])]) .skip)) (
 .seq (
 .region [ql 54 7,jA 55 (qF 0 12),ql 56 55,jA 57 (qI 1 54 56),ql 58 57,jA 59 (.bin .eql (.t 58) (.c (.int .i64 0)))]) (.cond (.t 59) (
 .region [jB 60 (qL 3),jB 61 (qM 0),jB 62 (qL 3),jB 63 (qM 0),jB 64 (qI 1 62 63),jB 65 (qL 64),jB 66 (qL 3),jB 67 (qF 0 12),jB 68 (qL 67),jB 69 (qI 1 66 68),jB 70 (qL 69),jB 71 (.minmax false [(.t 65),(.t 70)]),jB 72 (qI 1 60 61),jH 1 72 71]) .skip))))) (
 .region [jA 73 (qA 40 1),qm 40 73]))))))))) (
 .region [jA 74 (qA 34 1),qm 34 74]))))))) (
 .seq (
 .seq (
 .region [jB 75 (qL 3),jB 76 (qM 0),jB 77 (qI 1 75 76),jB 78 (qL 77),jB 79 (qL 2),jB 80 (qM 0),jB 81 (qI 1 79 80),jB 82 (qL 81),jB 83 (qB 78 82)]) (.cond (.t 83) .ret .skip)) (
 .seq (
 .region [jA 13 (.mv (.c (.int .i64 (-1))))]) (.block 4 (.loop (
 .seq (
 .seq (
 .region [qm 84 13,qm 85 0,jA 86 (.bin .neq (.t 84) (.t 85))]) (.cond (.t 86) .skip (.exit 4))) (.block 5 (
 .seq (
 .region [ql 87 4,ql 88 4,jA 89 (qS 88),jA 90 (.bin .sub (.t 89) (.c (.int .i64 1))),jA 91 (qI 1 87 90),ql 92 91,qm 13 92]) (
 .seq (
 .region [ql 93 4,ql 94 4,jA 95 (qS 94),jA 96 (.bin .sub (.t 95) (.c (.int .i64 1))),jA 97 (.slice 1 (.t 93) none (some (.t 96))),jG 1 4 97]) (
 .region [jB 98 (qL 7),jB 99 (qM 13),jB 100 (qL 2),jB 101 (qM 0),jB 102 (qI 1 100 101),jB 103 (qL 102),jB 104 (qI 1 98 99),jH 1 104 103])))))))))))))⟩
theorem c37:compFunc Tryd.prog GL [] Tryd.f37=some l37:=by kernel_rfl
def l38:LFunc:=⟨75,[],
 (
 .seq (
 .region [jA 15 (qF 2 1),ql 16 15,jA 17 (qS 16),jA 18 (.mkslice 1 1 [(.bool false)] (.t 17) (.t 17)),jA 4 (.alloc [.nils]),jG 1 4 18]) (
 .seq (
 .region [jA 5 (.alloc [.nils])]) (
 .seq (
 .region [jA 19 (.mkfn (.func 39) [] [(.t 4),(.t 5)]),qm 6 19]) (
 .seq (
 .seq (
 .region [ql 20 2,jA 21 (qS 20),jA 22 (qC 0)]) (.block 0 (.loop (
 .seq (
 .region [jA 23 (qB 22 21)]) (
 .seq (.cond (.t 23) .skip (.exit 0)) (
 .seq (.block 1 (
 .seq (
 .region [jA 24 (qI 1 20 22),ql 25 24,qm 8 25]) (
 .region [qm 26 6,qm 27 8,jA 28 (.build [(.int .i64 0),(.int .i64 0),(.int .i64 0)] [(0,(1,(.t 27))),(1,(1,(.c (.int .i64 (-1)))))]),jA 29 (.call (.t 26) [(.t 28)])]))) (
 .region [jA 30 (qA 22 1),qm 22 30]))))))) (
 .seq (
 .region [jA 9 (qC 0)]) (.block 2 (.loop (
 .seq (
 .seq (
 .region [qm 31 9,ql 32 5,jA 33 (qS 32),jA 34 (qB 31 33)]) (.cond (.t 34) .skip (.exit 2))) (
 .seq (.block 3 (
 .seq (
 .region [ql 37 5,qm 38 9,jA 39 (qI 3 37 38),jA 40 (qF 0 39),ql 41 40,qm 10 41]) (
 .seq (
 .seq (
 .region [qm 42 0,ql 43 5,qm 44 9,jA 45 (qI 3 43 44),jA 46 (qN 3 45),jA 47 (.call (.t 42) [(.t 46)]),jA 48 (.un .not (.t 47))]) (.cond (.t 48) .ret .skip)) (
 .seq (
 .region [jA 49 (qF 2 1),ql 50 49,qm 51 10,jA 52 (qI 1 50 51),ql 53 52,jA 54 (qS 53),jA 55 (qC 0)]) (.block 4 (.loop (
 .seq (
 .region [jA 56 (qB 55 54)]) (
 .seq (.cond (.t 56) .skip (.exit 4)) (
 .seq (.block 5 (
 .seq (
 .region [qm 57 55,jA 58 (qI 1 53 55),ql 59 58,qm 11 57,qm 12 59]) (
 .seq (
 .region [qm 60 12,jA 61 (qS 60),jA 62 (qC 0)]) (.block 6 (.loop (
 .seq (
 .region [jA 63 (qB 62 61)]) (
 .seq (.cond (.t 63) .skip (.exit 6)) (
 .seq (.block 7 (
 .seq (
 .region [jA 64 (qI 2 60 62),jA 65 (qN 2 64),jA 14 (.alloc [(.int .i64 0),(.bool false)]),jG 2 14 65]) (
 .region [qm 66 6,jA 67 (qF 0 14),ql 68 67,qm 69 10,qm 70 11,jA 71 (.build [(.int .i64 0),(.int .i64 0),(.int .i64 0)] [(0,(1,(.t 68))),(1,(1,(.t 69))),(2,(1,(.t 70)))]),jA 72 (.call (.t 66) [(.t 71)])]))) (
 .region [jA 73 (qA 62 1),qm 62 73]))))))))) (
 .region [jA 74 (qA 55 1),qm 55 74])))))))))) (
 .region [qm 35 9,jA 36 (qA 35 1),qm 9 36]))))))))))⟩
theorem c38:compFunc Tryd.prog GL [] Tryd.f38=some l38:=by kernel_rfl
def l39:LFunc:=⟨18,[],
 (
 .seq (
 .region [jA 3 (qO 0)]) (
 .seq (
 .region [ql 4 1,jA 5 (qF 0 3),ql 6 5,jA 7 (qI 1 4 6),ql 8 7,jA 9 (.un .not (.t 8))]) (.cond (.t 9) (
 .seq (
 .region [ql 10 1,jA 11 (qF 0 3),ql 12 11,jA 13 (qI 1 10 12),⟨none,(.store 1 (.t 13) (.c (.bool true))),none,[],false⟩]) (
 .region [ql 14 2,jA 15 (qN 3 3),jA 16 (.bslice 3 1 [(.int .i64 0),(.int .i64 0),(.int .i64 0)] [(0,(3,(.t 15)))]),jA 17 (.append 3 24 (.t 14) (.t 16)),jG 1 2 17])) .skip)))⟩
theorem c39:compFunc Tryd.prog GL [] Tryd.f39=some l39:=by kernel_rfl
def l40:LFunc:=⟨26,[(.tmp 4)],
 (
 .seq (
 .region [jA 2 (qO 0),jA 3 (qO 1),jA 4 (qK false)]) (
 .seq (
 .region [jA 5 (qF 0 2),ql 6 5,jA 7 (qF 0 3),ql 8 7,jA 9 (qB 6 8),qm 10 9,jC 11 (qF 0 2) 10,jC 12 (qL 11) 10,jC 13 (qF 0 3) 10,jC 14 (qL 13) 10,jC 15 (.bin .eql (.t 12) (.t 14)) 10,jC 16 (qM 15) 10,jD 17 (qF 1 2) 16,jD 18 (qL 17) 16,jD 19 (.un .not (.t 18)) 16,jC 20 (.pick (.t 16) (.t 19) (.c (.bool false))) 10,jC 21 (qM 20) 10,jD 22 (qF 1 3) 21,jD 23 (qL 22) 21,jC 24 (.pick (.t 21) (.t 23) (.c (.bool false))) 10,jA 25 (qP 10 24),qm 4 25]) .ret))⟩
theorem c40:compFunc Tryd.prog GL [] Tryd.f40=some l40:=by kernel_rfl
def l41:LFunc:=⟨90,[(.tmp 4)],
 (
 .seq (
 .region [jA 2 (qO 0),jA 4 (.mv (.c .nils))]) (
 .seq (
 .region [jA 5 (.mv (.c .nils))]) (
 .seq (
 .seq (
 .region [jA 6 (qC 0)]) (.block 0 (.loop (
 .seq (
 .seq (
 .region [qm 11 6,qm 12 1,jA 13 (qS 12),jA 14 (qB 11 13)]) (.cond (.t 14) .skip (.exit 0))) (
 .seq (.block 1 (
 .seq (
 .region [qm 17 5,qm 18 1,qm 19 6,jA 20 (qI 1 18 19),ql 21 20,jA 22 (.call (.c (.fn (.func 42) [] [])) [(.t 17),(.t 21)]),jA 23 (.bin .lss (.t 22) (.c (.int .i64 0)))]) (.cond (.t 23) (
 .region [qm 24 5,qm 25 1,qm 26 6,jA 27 (qI 1 25 26),ql 28 27,jA 29 (.build [(.int .i64 0), .nils] [(0,(1,(.t 28)))]),jA 30 (.bslice 2 1 [(.int .i64 0), .nils] [(0,(2,(.t 29)))]),jA 31 (.append 2 32 (.t 24) (.t 30)),qm 5 31]) .skip))) (
 .region [qm 15 6,jA 16 (qA 15 1),qm 6 16])))))) (
 .seq (
 .seq (
 .region [jA 7 (qC 0)]) (.block 2 (.loop (
 .seq (
 .seq (
 .region [qm 32 7,qm 33 5,jA 34 (qS 33),jA 35 (qB 32 34)]) (.cond (.t 35) .skip (.exit 2))) (
 .seq (.block 3 (
 .seq (
 .region [jA 8 (qC 0)]) (.block 4 (.loop (
 .seq (
 .seq (
 .region [qm 38 8,jA 39 (qF 0 2),ql 40 39,jA 41 (qB 38 40)]) (.cond (.t 41) .skip (.exit 4))) (
 .seq (.block 5 (
 .seq (
 .region [jB 44 (qF 2 2),jB 45 (qL 44),jB 46 (qM 5),jB 47 (qM 7),jB 48 (qI 2 46 47),jB 49 (qF 0 48),jB 50 (qL 49),jB 51 (qI 1 45 50),jB 52 (qL 51),jB 53 (qM 8),jB 54 (qI 1 52 53),jB 55 (qL 54),jB 9 (qM 55)]) (
 .seq (
 .region [jA 10 (qC 0)]) (.block 6 (.loop (
 .seq (
 .seq (
 .region [qm 56 10,qm 57 9,jA 58 (qS 57),jA 59 (qB 56 58)]) (.cond (.t 59) .skip (.exit 6))) (
 .seq (.block 7 (
 .seq (
 .region [qm 62 5,qm 63 9,qm 64 10,jA 65 (qI 2 63 64),jA 66 (qF 0 65),ql 67 66,jA 68 (.call (.c (.fn (.func 42) [] [])) [(.t 62),(.t 67)]),jA 69 (.bin .lss (.t 68) (.c (.int .i64 0)))]) (.cond (.t 69) (
 .region [jB 70 (qM 5),jB 71 (qM 9),jB 72 (qM 10),jB 73 (qI 2 71 72),jB 74 (qF 0 73),jB 75 (qL 74),⟨(some 76),(.bslice 1 0 [(.int .i64 0)] []),none,[(75,(none,(.load none (.t 74))))],true⟩,jB 77 (qM 5),jB 78 (qM 7),jB 79 (qI 2 77 78),jB 80 (qF 1 79),jB 81 (qL 80),jB 83 (qM 8),⟨(some 84),(.bslice 1 1 [(.int .i64 0)] [(0,(1,(.t 83)))]),none,[(75,(none,(.load none (.t 74)))),(81,(none,(.load none (.t 80))))],true⟩,⟨(some 82),(.append 1 8 (.t 76) (.t 81)),none,[(75,(none,(.load none (.t 74))))],true⟩,⟨(some 85),(.append 1 8 (.t 82) (.t 84)),none,[(75,(none,(.load none (.t 74))))],true⟩,jB 86 (.build [(.int .i64 0), .nils] [(0,(1,(.t 75))),(1,(1,(.t 85)))]),⟨(some 87),(.bslice 2 1 [(.int .i64 0), .nils] [(0,(2,(.t 86)))]),none,[(75,(none,(.load none (.t 74)))),(81,(none,(.load none (.t 80))))],true⟩,jB 88 (.append 2 32 (.t 70) (.t 87)),jB 5 (qM 88)]) .skip))) (
 .region [qm 60 10,jA 61 (qA 60 1),qm 10 61])))))))) (
 .region [qm 42 8,jA 43 (qA 42 1),qm 8 43]))))))) (
 .region [qm 36 7,jA 37 (qA 36 1),qm 7 37])))))) (
 .seq (
 .region [qm 89 5,qm 4 89]) .ret)))))⟩
theorem c41:compFunc Tryd.prog GL [] Tryd.f41=some l41:=by kernel_rfl
def l42:LFunc:=⟨20,[(.tmp 4)],
 (
 .seq (
 .region [jA 4 (qC 0)]) (
 .seq (
 .seq (
 .region [jA 5 (qC 0)]) (.block 0 (.loop (
 .seq (
 .seq (
 .region [qm 6 5,qm 7 0,jA 8 (qS 7),jA 9 (qB 6 8)]) (.cond (.t 9) .skip (.exit 0))) (
 .seq (.block 1 (
 .seq (
 .region [qm 12 0,qm 13 5,jA 14 (qI 2 12 13),jA 15 (qF 0 14),ql 16 15,qm 17 1,jA 18 (.bin .eql (.t 16) (.t 17))]) (.cond (.t 18) (
 .seq (
 .region [qm 19 5,qm 4 19]) .ret) .skip))) (
 .region [qm 10 5,jA 11 (qA 10 1),qm 5 11])))))) (
 .seq (
 .region [jA 4 (.mv (.c (.int .i64 (-1))))]) .ret)))⟩
theorem c42:compFunc Tryd.prog GL [] Tryd.f42=some l42:=by kernel_rfl
def l43:LFunc:=⟨8,[(.tmp 6)],
 (
 .seq (
 .region [jA 4 (qO 0),jA 5 (qO 1),jA 6 (.mv (.c .nilf))]) (
 .seq (
 .region [jA 7 (.mkfn (.func 44) [] [(.t 2),(.t 4),(.t 5),(.t 3)]),qm 6 7]) .ret))⟩
theorem c43:compFunc Tryd.prog GL [] Tryd.f43=some l43:=by kernel_rfl
def l44:LFunc:=⟨67,[],
 (
 .seq (
 .region [jB 11 (qF 2 1),jB 12 (qL 11),jB 13 (qF 0 2),jB 14 (qL 13),jB 15 (qI 1 12 14),jB 16 (qL 15),jB 17 (qL 3),jB 18 (qI 1 16 17),jB 19 (qL 18),jB 20 (qS 19),jB 21 (qC 0)]) (.block 0 (.loop (
 .seq (
 .region [jA 22 (qB 21 20)]) (
 .seq (.cond (.t 22) .skip (.exit 0)) (
 .seq (.block 1 (
 .seq (
 .region [jA 23 (qI 2 19 21),jA 24 (qN 2 23),jA 7 (.alloc [(.int .i64 0),(.bool false)]),jG 2 7 24]) (
 .seq (
 .region [jB 25 (qF 2 4),jB 26 (qL 25),jB 27 (qF 1 2),jB 28 (qL 27),jB 29 (qI 1 26 28),jB 30 (qL 29),jB 31 (qL 3),jB 32 (qI 1 30 31),jB 33 (qL 32),jB 34 (qS 33),jB 35 (qC 0)]) (.block 2 (.loop (
 .seq (
 .region [jA 36 (qB 35 34)]) (
 .seq (.cond (.t 36) .skip (.exit 2)) (
 .seq (.block 3 (
 .seq (
 .region [jA 37 (qI 2 33 35),jA 38 (qN 2 37),jA 9 (.alloc [(.int .i64 0),(.bool false)]),jG 2 9 38]) (
 .seq (
 .region [jA 39 (qF 2 2),ql 40 39,qm 10 40]) (
 .seq (
 .seq (
 .region [qm 41 10,jA 42 (.bin .eql (.t 41) (.c (.int .i64 0))),qm 43 42,jD 44 (qF 1 7) 43,jD 45 (qL 44) 43,jA 46 (.pick (.t 43) (.t 45) (.c (.bool false)))]) (.cond (.t 46) (
 .region [jA 10 (qC 1)]) .skip)) (
 .seq (
 .seq (
 .region [qm 47 10,jA 48 (.bin .eql (.t 47) (.c (.int .i64 1))),qm 49 48,jD 50 (qF 1 9) 49,jD 51 (qL 50) 49,jA 52 (.pick (.t 49) (.t 51) (.c (.bool false)))]) (.cond (.t 52) (
 .region [jA 10 (qC 2)]) .skip)) (
 .seq (
 .region [qm 53 0,jA 54 (qF 0 7),ql 55 54,jA 56 (qF 0 9),ql 57 56,qm 58 10,jA 59 (.bin .rem (.t 58) (.c (.int .i64 2))),jA 60 (.build [(.int .i64 0),(.int .i64 0),(.int .i64 0)] [(0,(1,(.t 55))),(1,(1,(.t 57))),(2,(1,(.t 59)))]),qm 61 10,jA 62 (.bin .eql (.t 61) (.c (.int .i64 2))),jA 63 (.call (.t 53) [(.t 60),(.t 62)]),jA 64 (.un .not (.t 63))]) (.cond (.t 64) .ret .skip))))))) (
 .region [jA 65 (qA 35 1),qm 35 65]))))))))) (
 .region [jA 66 (qA 21 1),qm 21 66])))))))⟩
theorem c44:compFunc Tryd.prog GL [] Tryd.f44=some l44:=by kernel_rfl
def l45:LFunc:=⟨96,[(.cell 8 (some 3)),(.cell 9 none)],
 (
 .seq (
 .region [jA 6 (qO 2),jA 8 (.alloc [(.int .i64 0), .nils, .nils]),jA 9 (.alloc [(.int .i64 0)])]) (
 .seq (
 .region [jA 22 (.mkmap none),jA 10 (.alloc [.nilm]),jG 1 10 22]) (
 .seq (
 .region [jA 11 (.alloc [.nils])]) (
 .seq (
 .region [jA 23 (.mkfn (.func 61) [] [(.t 10),(.t 11)]),jA 12 (.alloc [.nilf]),jG 1 12 23]) (
 .seq (
 .region [qm 24 0,jA 25 (.build [(.int .i64 0), .nils, .nils] [(0,(1,(.t 24)))]),jA 13 (.alloc [(.int .i64 0), .nils, .nils]),jG 3 13 25]) (
 .seq (
 .seq (
 .region [qm 26 1,jA 27 (qS 26),jA 28 (qC 0)]) (.block 0 (.loop (
 .seq (
 .region [jA 29 (qB 28 27)]) (
 .seq (.cond (.t 29) .skip (.exit 0)) (
 .seq (.block 1 (
 .seq (
 .region [jA 30 (qI 3 26 28),jA 31 (qN 3 30),jA 15 (.alloc [(.int .i64 0),(.int .i64 0),(.int .i64 0)]),jG 3 15 31]) (
 .seq (
 .region [jB 32 (qF 1 13),jB 33 (qL 32),jB 34 (qL 12),jB 35 (qN 3 15),⟨(some 36),(.call (.t 34) [(.t 35)]),none,[(33,(none,(.load none (.t 32))))],true⟩,⟨(some 37),(.bslice 1 1 [(.int .i64 0)] [(0,(1,(.t 36)))]),none,[(33,(none,(.load none (.t 32)))),(34,(none,(.load none (.t 12)))),(35,(none,(.load (some 3) (.t 15))))],true⟩,jB 38 (.append 1 8 (.t 33) (.t 37)),jB 39 (qF 1 13),jH 1 39 38]) (
 .seq (
 .region [ql 40 11,jA 41 (qS 40),ql 42 6,jA 43 (.bin .gtr (.t 41) (.t 42))]) (.cond (.t 43) (
 .seq (
 .region [jA 44 (.build [(.int .i64 0), .nils, .nils] []),jG 3 8 44,⟨none,(.store 1 (.t 9) (.c (.int .i64 2))),none,[],false⟩]) .ret) .skip))))) (
 .region [jA 45 (qA 28 1),qm 28 45]))))))) (
 .seq (
 .seq (
 .region [jA 16 (qC 0)]) (.block 2 (.loop (
 .seq (
 .seq (
 .region [qm 46 16,ql 47 11,jA 48 (qS 47),jA 49 (qB 46 48)]) (.cond (.t 49) .skip (.exit 2))) (
 .seq (.block 3 (
 .seq (
 .region [qm 52 0,jA 53 (.mkslice 1 24 [.nils] (.t 52) (.t 52)),qm 17 53]) (
 .seq (
 .seq (
 .region [qm 54 17,jA 55 (qS 54),jA 56 (qC 0)]) (.block 4 (.loop (
 .seq (
 .region [jA 57 (qB 56 55)]) (
 .seq (.cond (.t 57) .skip (.exit 4)) (
 .seq (.block 5 (
 .seq (
 .region [qm 58 56,qm 18 58]) (
 .seq (
 .region [jA 19 (.alloc [.nils])]) (
 .seq (
 .seq (
 .region [qm 59 3,ql 60 11,qm 61 16,jA 62 (qI 3 60 61),jA 63 (qN 3 62),qm 64 18,jA 65 (.call (.t 59) [(.t 63),(.t 64)])]) (.block 6 (.rangeFunc (.t 65) [66,67] (
 .seq (
 .region [jA 20 (.alloc [(.int .i64 0),(.int .i64 0),(.int .i64 0)]),jG 3 20 66]) (
 .region [qm 21 67])) (.block 7 (
 .seq (
 .region [jB 68 (qL 19),jB 69 (qL 12),jB 70 (qN 3 20),jB 72 (qM 21),⟨(some 71),(.call (.t 69) [(.t 70)]),none,[(68,(none,(.load none (.t 19))))],true⟩,jB 73 (.build [(.int .i64 0),(.bool false)] [(0,(1,(.t 71))),(1,(1,(.t 72)))]),⟨(some 74),(.bslice 2 1 [(.int .i64 0),(.bool false)] [(0,(2,(.t 73)))]),none,[(68,(none,(.load none (.t 19)))),(69,(none,(.load none (.t 12)))),(70,(none,(.load (some 3) (.t 20))))],true⟩,jB 75 (.append 2 16 (.t 68) (.t 74)),jH 1 19 75]) (
 .seq (
 .region [ql 76 11,jA 77 (qS 76),ql 78 6,jA 79 (.bin .gtr (.t 77) (.t 78))]) (.cond (.t 79) (
 .seq (
 .region [jA 80 (.build [(.int .i64 0), .nils, .nils] []),jG 3 8 80,⟨none,(.store 1 (.t 9) (.c (.int .i64 2))),none,[],false⟩]) .ret) .skip))))))) (
 .seq (
 .region [ql 81 19,jA 82 (.call (.c (.fn (.func 62) [] [])) [(.t 81),(.c (.fn (.func 35) [] []))])]) (
 .region [qm 83 17,qm 84 18,ql 85 19,jA 86 (qG 63 85),jA 87 (qI 1 83 84),jG 1 87 86])))))) (
 .region [jA 88 (qA 56 1),qm 56 88]))))))) (
 .region [jA 89 (qF 2 13),ql 90 89,qm 91 17,jA 92 (.bslice 1 1 [.nils] [(0,(1,(.t 91)))]),jA 93 (.append 1 24 (.t 90) (.t 92)),jA 94 (qF 2 13),jG 1 94 93])))) (
 .region [qm 50 16,jA 51 (qA 50 1),qm 16 51])))))) (
 .seq (
 .region [jA 95 (qN 3 13),jG 3 8 95,⟨none,(.store 1 (.t 9) (.c (.int .i64 0))),none,[],false⟩]) .ret))))))))⟩
theorem c45:compFunc Tryd.prog GL [] Tryd.f45=some l45:=by kernel_rfl
def l46:LFunc:=⟨19,[(.tmp 6),(.tmp 7)],
 (
 .seq (
 .region [jA 6 (qC 0),jA 7 (qK false)]) (
 .seq (
 .seq (
 .region [qm 8 0,jA 9 (.bin .eql (.t 8) (.c (.int .i64 0))),qm 10 9,jD 11 (qM 1) 10,jA 12 (.pick (.t 10) (.t 11) (.c (.bool false)))]) (.cond (.t 12) (
 .region [jA 0 (qC 1)]) .skip)) (
 .seq (
 .seq (
 .region [qm 13 0,jA 14 (.bin .eql (.t 13) (.c (.int .i64 1))),qm 15 14,jD 16 (qM 2) 15,jA 17 (.pick (.t 15) (.t 16) (.c (.bool false)))]) (.cond (.t 17) (
 .seq (
 .region [jA 6 (qC 0),jA 7 (qK true)]) .ret) .skip)) (
 .seq (
 .region [qm 18 0,qm 6 18,jA 7 (qK false)]) .ret))))⟩
theorem c46:compFunc Tryd.prog GL [] Tryd.f46=some l46:=by kernel_rfl
def l47:LFunc:=⟨27,[(.tmp 4),(.tmp 5)],
 (
 .seq (
 .region [jA 3 (qO 1),jA 4 (.mv (.c .nils)),jA 5 (qC 0)]) (
 .seq (
 .seq (
 .region [jA 6 (qC 0)]) (.block 0 (.loop (
 .seq (
 .seq (
 .region [qm 7 6,qm 8 0,jA 9 (qS 8),jA 10 (qB 7 9)]) (.cond (.t 10) .skip (.exit 0))) (
 .seq (.block 1 (
 .seq (
 .region [jB 13 (qM 0),jB 14 (qM 6),jB 15 (qI 3 13 14),jB 16 (qN 3 15),jB 17 (qN 3 3),jB 18 (.eq false (.struct [(0,(1, .int)),(1,(1, .int)),(2,(1, .int))]) (.t 16) (.t 17))]) (.cond (.t 18) (
 .seq (
 .region [qm 19 0,qm 20 6,qm 4 19,qm 5 20]) .ret) .skip))) (
 .region [qm 11 6,jA 12 (qA 11 1),qm 6 12])))))) (
 .seq (
 .region [qm 21 0,jA 22 (qN 3 3),jA 23 (.bslice 3 1 [(.int .i64 0),(.int .i64 0),(.int .i64 0)] [(0,(3,(.t 22)))]),jA 24 (.append 3 24 (.t 21) (.t 23)),qm 25 0,jA 26 (qS 25),qm 4 24,qm 5 26]) .ret)))⟩
theorem c47:compFunc Tryd.prog GL [] Tryd.f47=some l47:=by kernel_rfl
def l48:LFunc:=⟨50,[(.tmp 4)],
 (
 .seq (
 .region [jA 3 (qO 1),jA 4 (.mv (.c .nils))]) (
 .seq (
 .region [jA 8 (.bslice 2 0 [(.int .i64 0),(.bool false)] []),qm 5 8]) (
 .seq (
 .region [jA 6 (qK false)]) (
 .seq (
 .seq (
 .region [jA 7 (qC 0)]) (.block 0 (.loop (
 .seq (
 .seq (
 .region [qm 9 7,qm 10 0,jA 11 (qS 10),jA 12 (qB 9 11)]) (.cond (.t 12) .skip (.exit 0))) (
 .seq (.block 1 (
 .seq (
 .seq (
 .region [jB 15 (qM 0),jB 16 (qM 7),jB 17 (qI 2 15 16),jB 18 (qN 2 17),jB 19 (qN 2 3),jB 20 (.eq false (.struct [(0,(1, .int)),(1,(1, .bool))]) (.t 18) (.t 19))]) (.cond (.t 20) (
 .seq (
 .region [qm 21 0,qm 4 21]) .ret) .skip)) (
 .seq (
 .seq (
 .region [jB 22 (qM 6),jB 23 (.un .not (.t 22)),jB 24 (qM 23),jE 25 (qN 2 3) 24,jE 26 (qM 0) 24,jE 27 (qM 7) 24,jE 28 (qI 2 26 27) 24,jE 29 (qN 2 28) 24,jE 30 (.call (.c (.fn (.func 40) [] [])) [(.t 25),(.t 29)]) 24,jB 31 (.pick (.t 24) (.t 30) (.c (.bool false)))]) (.cond (.t 31) (
 .seq (
 .region [qm 32 5,jA 33 (qN 2 3),jA 34 (.bslice 2 1 [(.int .i64 0),(.bool false)] [(0,(2,(.t 33)))]),jA 35 (.append 2 16 (.t 32) (.t 34)),qm 5 35]) (
 .region [jA 6 (qK true)])) .skip)) (
 .region [qm 36 5,qm 37 0,qm 38 7,jA 39 (qI 2 37 38),jA 40 (qN 2 39),jA 41 (.bslice 2 1 [(.int .i64 0),(.bool false)] [(0,(2,(.t 40)))]),jA 42 (.append 2 16 (.t 36) (.t 41)),qm 5 42])))) (
 .region [qm 13 7,jA 14 (qA 13 1),qm 7 14])))))) (
 .seq (
 .seq (
 .region [qm 43 6,jA 44 (.un .not (.t 43))]) (.cond (.t 44) (
 .region [qm 45 5,jA 46 (qN 2 3),jA 47 (.bslice 2 1 [(.int .i64 0),(.bool false)] [(0,(2,(.t 46)))]),jA 48 (.append 2 16 (.t 45) (.t 47)),qm 5 48]) .skip)) (
 .seq (
 .region [qm 49 5,qm 4 49]) .ret))))))⟩
theorem c48:compFunc Tryd.prog GL [] Tryd.f48=some l48:=by kernel_rfl
def l57:LFunc:=⟨20,[(.tmp 4)],
 (
 .seq (
 .region [jA 4 (qC 0)]) (
 .seq (
 .region [qm 7 0,jA 8 (qG 66 7),qm 5 8]) (
 .seq (
 .region [qm 9 1,jA 10 (qG 66 9),qm 6 10]) (
 .seq (
 .seq (
 .region [qm 11 5]) (.cond (.t 11) (
 .seq (
 .seq (
 .region [qm 12 6]) (.cond (.t 12) (
 .seq (
 .region [jA 4 (qC 0)]) .ret) .skip)) (
 .seq (
 .region [jA 4 (.mv (.c (.int .i64 (-1))))]) .ret)) .skip)) (
 .seq (
 .seq (
 .region [qm 13 6]) (.cond (.t 13) (
 .seq (
 .region [jA 4 (qC 1)]) .ret) .skip)) (
 .seq (
 .seq (
 .region [qm 14 0,qm 15 1,jA 16 (qB 14 15)]) (.cond (.t 16) (
 .seq (
 .region [jA 4 (.mv (.c (.int .i64 (-1))))]) .ret) .skip)) (
 .seq (
 .seq (
 .region [qm 17 0,qm 18 1,jA 19 (.bin .gtr (.t 17) (.t 18))]) (.cond (.t 19) (
 .seq (
 .region [jA 4 (qC 1)]) .ret) .skip)) (
 .seq (
 .region [jA 4 (qC 0)]) .ret))))))))⟩
theorem c57:compFunc Tryd.prog GL [] Tryd.f57=some l57:=by kernel_rfl
def l61:LFunc:=⟨25,[(.tmp 4)],
 (
 .seq (
 .region [jA 3 (qO 0),jA 4 (qC 0)]) (
 .seq (
 .region [ql 8 1,jA 9 (qN 3 3),jA 10 (.mlook (.st [(0,(1, .int)),(1,(1, .int)),(2,(1, .int))]) (.int .i64 0) true (.t 8) (.t 9)),qm 7 10,jA 11 (.ext (.t 7) 0),jA 12 (.ext (.t 7) 1),qm 5 11,qm 6 12]) (
 .seq (
 .seq (
 .region [qm 13 6,jA 14 (.un .not (.t 13))]) (.cond (.t 14) (
 .seq (
 .region [ql 15 2,jA 16 (qS 15),qm 5 16]) (
 .seq (
 .region [ql 17 1,jA 18 (qN 3 3),qm 19 5,⟨none,(.mupd (.st [(0,(1, .int)),(1,(1, .int)),(2,(1, .int))]) (.t 17) (.t 18) (.t 19)),none,[],false⟩]) (
 .region [ql 20 2,jA 21 (qN 3 3),jA 22 (.bslice 3 1 [(.int .i64 0),(.int .i64 0),(.int .i64 0)] [(0,(3,(.t 21)))]),jA 23 (.append 3 24 (.t 20) (.t 22)),jG 1 2 23]))) .skip)) (
 .seq (
 .region [qm 24 5,qm 4 24]) .ret))))⟩
theorem c61:compFunc Tryd.prog GL [] Tryd.f61=some l61:=by kernel_rfl
def l63:LFunc:=⟨61,[(.tmp 2)],
 (
 .seq (
 .region [jA 2 (.mv (.c .nils))]) (
 .seq (
 .seq (
 .region [qm 6 0,jA 7 (qS 6),jA 8 (.bin .lss (.t 7) (.c (.int .i64 2)))]) (.cond (.t 8) (
 .seq (
 .region [qm 9 0,qm 2 9]) .ret) .skip)) (
 .seq (
 .seq (
 .region [jA 3 (qC 1)]) (.block 0 (.loop (
 .seq (
 .seq (
 .region [qm 10 3,qm 11 0,jA 12 (qS 11),jA 13 (qB 10 12)]) (.cond (.t 13) .skip (.exit 0))) (
 .seq (.block 1 (
 .seq (
 .region [jB 16 (qM 0),jB 17 (qM 3),jB 18 (qI 2 16 17),jB 19 (qN 2 18),jB 20 (qM 0),jB 21 (qM 3),jB 22 (.bin .sub (.t 21) (.c (.int .i64 1))),jB 23 (qI 2 20 22),jB 24 (qN 2 23),jB 25 (.eq false (.struct [(0,(1, .int)),(1,(1, .bool))]) (.t 19) (.t 24))]) (.cond (.t 25) (
 .seq (
 .region [qm 26 0,qm 27 3,jA 28 (.slice 2 (.t 26) (some (.t 27)) none),qm 4 28]) (
 .seq (
 .seq (
 .region [jA 5 (qC 1)]) (.block 2 (.loop (
 .seq (
 .seq (
 .region [qm 29 5,qm 30 4,jA 31 (qS 30),jA 32 (qB 29 31)]) (.cond (.t 32) .skip (.exit 2))) (
 .seq (.block 3 (
 .seq (
 .region [jB 35 (qM 4),jB 36 (qM 5),jB 37 (qI 2 35 36),jB 38 (qN 2 37),jB 39 (qM 4),jB 40 (qM 5),jB 41 (.bin .sub (.t 40) (.c (.int .i64 1))),jB 42 (qI 2 39 41),jB 43 (qN 2 42),jB 44 (.eq true (.struct [(0,(1, .int)),(1,(1, .bool))]) (.t 38) (.t 43))]) (.cond (.t 44) (
 .seq (
 .region [qm 45 0,qm 46 3,qm 47 4,qm 48 5,jA 49 (qI 2 47 48),jA 50 (qN 2 49),jA 51 (qI 2 45 46),jG 2 51 50]) (
 .region [qm 52 3,jA 53 (qA 52 1),qm 3 53])) .skip))) (
 .region [qm 33 5,jA 34 (qA 33 1),qm 5 34])))))) (
 .seq (
 .region [qm 54 0,qm 55 3,jA 56 (.slice 2 (.t 54) (some (.t 55)) none),⟨none,(.clr 2 [(.int .i64 0),(.bool false)] (.t 56)),none,[],false⟩]) (
 .seq (
 .region [qm 57 0,qm 58 3,jA 59 (.slice 2 (.t 57) none (some (.t 58))),qm 2 59]) .ret)))) .skip))) (
 .region [qm 14 3,jA 15 (qA 14 1),qm 3 15])))))) (
 .seq (
 .region [qm 60 0,qm 2 60]) .ret))))⟩
theorem c63:compFunc Tryd.prog GL [] Tryd.f63=some l63:=by kernel_rfl
def l66:LFunc:=⟨6,[(.tmp 2)],
 (
 .seq (
 .region [jA 2 (qK false)]) (
 .seq (
 .region [qm 3 0,qm 4 0,jA 5 (.bin .neq (.t 3) (.t 4)),qm 2 5]) .ret))⟩
theorem c66:compFunc Tryd.prog GL [] Tryd.f66=some l66:=by kernel_rfl
end Go.Proofs.YtmblpcidfjemhaaDoor
