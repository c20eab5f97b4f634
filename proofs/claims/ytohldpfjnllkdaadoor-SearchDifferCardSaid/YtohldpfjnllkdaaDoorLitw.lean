/- Plain forms of functions, by program. -/
import Derived.Test.YtohldpfjnllkdaaDoorProg
import Derived.Test.YtohldpfjnllkdaaDoorPvComp
import Derived.Test.YtohldpfjnllkdaaDoorGl
import Derived.KernelRfl
set_option linter.unusedSimpArgs false
set_option linter.unusedVariables false
section
namespace Go.Proofs.YtohldpfjnllkdaaDoor
open Go Go.Pv
set_option maxRecDepth 100000
def l62:LFunc:=⟨9,[(.cell 2 (some 2))],
  (
  .seq (
  .region [jA 1 (qO 0),jA 2 (.alloc [.nils, .nils])]) (
  .seq (
  .seq (
  .region [jA 3 (qN 2 1),jA 4 (qG 60 3),jA 5 (.un .not (.t 4))]) (.cond (.t 5) (
  .seq (
  .region [jA 6 (.build [.nils, .nils] []),jG 2 2 6]) .ret) .skip)) (
  .seq (
  .region [jA 7 (qN 2 1),jA 8 (qG 77 7),jG 2 2 8]) .ret)))⟩
theorem c62:compFunc Tryd.prog GL [] Tryd.f62=some l62:=by kernel_rfl
def l37:LFunc:=⟨19,[(.tmp 4)],
  (
  .seq (
  .region [jA 3 (qO 1),jA 4 (qK false)]) (
  .seq (
  .region [jA 5 (qN 2 3),jA 6 (qG 60 5),qm 7 6,jD 8 (qF 0 3) 7,jD 9 (qL 8) 7,jD 10 (qM 0) 7,jD 11 (.call (.c (.fn (.func 61) [] [])) [(.t 9),(.t 10)]) 7,jA 12 (.pick (.t 7) (.t 11) (.c (.bool false))),qm 13 12,jD 14 (qF 1 3) 13,jD 15 (qL 14) 13,jD 16 (qM 0) 13,jD 17 (.call (.c (.fn (.func 61) [] [])) [(.t 15),(.t 16)]) 13,jA 18 (.pick (.t 13) (.t 17) (.c (.bool false))),qm 4 18]) .ret))⟩
theorem c37:compFunc Tryd.prog GL [] Tryd.f37=some l37:=by kernel_rfl
def l61:LFunc:=⟨21,[(.tmp 4)],
  (
  .seq (
  .region [jA 4 (qK false)]) (
  .seq (
  .seq (
  .region [qm 7 0,jA 8 (qS 7),jA 9 (qC 0)]) (.block 0 (.loop (
  .seq (
  .region [jA 10 (qB 9 8)]) (
  .seq (.cond (.t 10) .skip (.exit 0)) (
  .seq (.block 1 (
  .seq (
  .region [jA 11 (qI 1 7 9),ql 12 11,qm 6 12]) (
  .seq (
  .region [qm 13 6,jA 14 (.bin .lss (.t 13) (.c (.int .i64 0))),qm 15 14,jC 16 (qM 6) 15,jC 17 (qM 1) 15,jC 18 (.bin .geq (.t 16) (.t 17)) 15,jA 19 (qP 15 18)]) (.cond (.t 19) (
  .seq (
  .region [jA 4 (qK false)]) .ret) .skip)))) (
  .region [jA 20 (qA 9 1),qm 9 20]))))))) (
  .seq (
  .region [jA 4 (qK true)]) .ret)))⟩
theorem c61:compFunc Tryd.prog GL [] Tryd.f61=some l61:=by kernel_rfl
def l60:LFunc:=⟨27,[(.tmp 2)],
  (
  .seq (
  .region [jA 1 (qO 0),jA 2 (qK false)]) (
  .seq (
  .seq (
  .region [jA 3 (qF 0 1),ql 4 3,jA 5 (qS 4),jA 6 (.bin .gtr (.t 5) (.c (.int .i64 60))),qm 7 6,jC 8 (qF 1 1) 7,jC 9 (qL 8) 7,jC 10 (qS 9) 7,jC 11 (.bin .lss (.t 10) (.c (.int .i64 1))) 7,jA 12 (qP 7 11),qm 13 12,jC 14 (qF 1 1) 13,jC 15 (qL 14) 13,jC 16 (qS 15) 13,jC 17 (.bin .gtr (.t 16) (.c (.int .i64 40))) 13,jA 18 (qP 13 17)]) (.cond (.t 18) (
  .seq (
  .region [jA 2 (qK false)]) .ret) .skip)) (
  .seq (
  .region [jA 19 (qF 0 1),ql 20 19,jA 21 (.call (.c (.fn (.func 61) [] [])) [(.t 20),(.c (.int .i64 64))]),qm 22 21,jD 23 (qF 1 1) 22,jD 24 (qL 23) 22,jD 25 (.call (.c (.fn (.func 61) [] [])) [(.t 24),(.c (.int .i64 64))]) 22,jA 26 (.pick (.t 22) (.t 25) (.c (.bool false))),qm 2 26]) .ret)))⟩
theorem c60:compFunc Tryd.prog GL [] Tryd.f60=some l60:=by kernel_rfl
def l77:LFunc:=⟨55,[(.cell 2 (some 2))],
  (
  .seq (
  .region [jA 1 (qO 0),jA 2 (.alloc [.nils, .nils])]) (
  .seq (
  .region [jB 7 (qF 1 1),jB 8 (qL 7),jB 9 (qF 1 1),jB 10 (qL 9),⟨(some 11),(.call (.c (.fn (.func 82) [] [])) [(.t 10)]),none,[(8,(none,(.load none (.t 7))))],true⟩,jB 12 (.slice 1 (.t 8) none (some (.t 11))),jB 3 (qM 12)]) (
  .seq (
  .region [qm 13 3,jA 14 (qS 13),qm 4 14]) (
  .seq (
  .region [jA 15 (qF 0 1),ql 16 15,jA 17 (qS 16),qm 5 17,jA 6 (qC 0)]) (
  .seq (.block 0 (.loop (
  .seq (
  .seq (
  .region [jB 18 (qM 5),jB 19 (.bin .gtr (.t 18) (.c (.int .i64 0))),jB 20 (qM 19),jE 21 (qF 0 1) 20,jE 22 (qL 21) 20,jE 23 (qM 5) 20,jE 24 (.bin .sub (.t 23) (.c (.int .i64 1))) 20,jE 25 (qI 1 22 24) 20,jE 26 (qL 25) 20,jE 27 (qM 3) 20,jE 28 (qM 4) 20,jE 29 (.bin .sub (.t 28) (.c (.int .i64 1))) 20,jE 30 (qM 6) 20,jE 31 (.bin .sub (.t 29) (.t 30)) 20,jE 32 (qI 1 27 31) 20,jE 33 (qL 32) 20,jE 34 (.bin .eql (.t 26) (.t 33)) 20,jB 35 (.pick (.t 20) (.t 34) (.c (.bool false)))]) (.cond (.t 35) .skip (.exit 0))) (.block 1 (
  .seq (
  .region [qm 36 5,jA 37 (.bin .sub (.t 36) (.c (.int .i64 1))),qm 5 37]) (
  .region [qm 38 6,jA 39 (qA 38 1),qm 40 4,jA 41 (.bin .rem (.t 39) (.t 40)),qm 6 41])))))) (
  .seq (
  .region [jB 42 (qF 0 1),jB 43 (qL 42),jB 44 (qM 5),jB 45 (.slice 1 (.t 43) none (some (.t 44))),jB 47 (qM 3),jB 48 (qM 4),jB 49 (qM 6),jB 50 (.bin .sub (.t 48) (.t 49)),jB 51 (qM 4),jB 52 (.bin .rem (.t 50) (.t 51)),jB 46 (qG 83 45),jB 53 (.call (.c (.fn (.func 84) [] [])) [(.t 47),(.t 52)]),jB 54 (.build [.nils, .nils] [(0,(1,(.t 46))),(1,(1,(.t 53)))]),jH 2 2 54]) .ret))))))⟩
theorem c77:compFunc Tryd.prog GL [] Tryd.f77=some l77:=by kernel_rfl
def l82:LFunc:=⟨30,[(.tmp 2)],
  (
  .seq (
  .region [jA 2 (qC 0)]) (
  .seq (
  .seq (
  .region [jA 3 (qC 1)]) (.block 0 (.loop (
  .seq (
  .seq (
  .region [qm 4 3,qm 5 0,jA 6 (qS 5),jA 7 (qB 4 6)]) (.cond (.t 7) .skip (.exit 0))) (
  .seq (.block 1 (
  .seq (
  .region [jB 10 (qM 0),jB 11 (qS 10),jB 12 (qM 3),jB 13 (.bin .rem (.t 11) (.t 12)),jB 14 (.bin .eql (.t 13) (.c (.int .i64 0))),jB 15 (qM 14),jE 16 (qM 0) 15,jE 17 (qM 3) 15,jE 18 (.slice 1 (.t 16) (some (.t 17)) none) 15,jE 19 (qM 0) 15,jE 20 (qM 0) 15,jE 21 (qS 20) 15,jE 22 (qM 3) 15,jE 23 (.bin .sub (.t 21) (.t 22)) 15,jE 24 (.slice 1 (.t 19) none (some (.t 23))) 15,jE 25 (.call (.c (.fn (.func 95) [] [])) [(.t 18),(.t 24)]) 15,jB 26 (.pick (.t 15) (.t 25) (.c (.bool false)))]) (.cond (.t 26) (
  .seq (
  .region [qm 27 3,qm 2 27]) .ret) .skip))) (
  .region [qm 8 3,jA 9 (qA 8 1),qm 3 9])))))) (
  .seq (
  .region [qm 28 0,jA 29 (qS 28),qm 2 29]) .ret)))⟩
theorem c82:compFunc Tryd.prog GL [] Tryd.f82=some l82:=by kernel_rfl
def l84:LFunc:=⟨23,[(.tmp 4)],
  (
  .seq (
  .region [jA 4 (.mv (.c .nils))]) (
  .seq (
  .region [qm 7 0,jA 8 (qS 7),jA 9 (.mkslice 1 8 [(.int .i64 0)] (.t 8) (.t 8)),qm 5 9]) (
  .seq (
  .region [qm 10 5,qm 11 0,qm 12 1,jA 13 (.slice 1 (.t 11) (some (.t 12)) none),jA 14 (.copy 1 (.t 10) (.t 13)),qm 6 14]) (
  .seq (
  .region [jB 15 (qM 5),jB 16 (qM 6),jB 17 (.slice 1 (.t 15) (some (.t 16)) none),jB 18 (qM 0),jB 19 (qM 1),jB 20 (.slice 1 (.t 18) none (some (.t 19))),jB 21 (.copy 1 (.t 17) (.t 20))]) (
  .seq (
  .region [qm 22 5,qm 4 22]) .ret)))))⟩
theorem c84:compFunc Tryd.prog GL [] Tryd.f84=some l84:=by kernel_rfl
def l68:LFunc:=⟨9,[(.tmp 2)],
  (
  .seq (
  .region [jA 2 (qK false)]) (
  .seq (
  .region [qm 3 0,jA 4 (.bin .geq (.t 3) (.c (.int .i64 0))),qm 5 4,jD 6 (qM 0) 5,jD 7 (.bin .lss (.t 6) (.c (.int .i64 64))) 5,jA 8 (.pick (.t 5) (.t 7) (.c (.bool false))),qm 2 8]) .ret))⟩
theorem c68:compFunc Tryd.prog GL [] Tryd.f68=some l68:=by kernel_rfl
def l83:LFunc:=⟨8,[(.tmp 2)],
  (
  .seq (
  .region [jA 2 (.mv (.c .nils))]) (
  .seq (
  .seq (
  .region [qm 3 0,jA 4 (.eq false .slc (.t 3) (.c .nils))]) (.cond (.t 4) (
  .seq (
  .region [jA 2 (.mv (.c .nils))]) .ret) .skip)) (
  .seq (
  .region [jA 5 (.bslice 1 0 [(.int .i64 0)] []),qm 6 0,jA 7 (.append 1 8 (.t 5) (.t 6)),qm 2 7]) .ret)))⟩
theorem c83:compFunc Tryd.prog GL [] Tryd.f83=some l83:=by kernel_rfl
def l95:LFunc:=⟨26,[(.tmp 4)],
  (
  .seq (
  .region [jA 4 (qK false)]) (
  .seq (
  .seq (
  .region [qm 6 0,jA 7 (qS 6),qm 8 1,jA 9 (qS 8),jA 10 (.bin .neq (.t 7) (.t 9))]) (.cond (.t 10) (
  .seq (
  .region [jA 4 (qK false)]) .ret) .skip)) (
  .seq (
  .seq (
  .region [qm 11 0,jA 12 (qS 11),jA 13 (qC 0)]) (.block 0 (.loop (
  .seq (
  .region [jA 14 (qB 13 12)]) (
  .seq (.cond (.t 14) .skip (.exit 0)) (
  .seq (.block 1 (
  .seq (
  .region [qm 15 13,qm 5 15]) (
  .seq (
  .region [jB 16 (qM 0),jB 17 (qM 5),jB 18 (qI 1 16 17),jB 19 (qL 18),jB 20 (qM 1),jB 21 (qM 5),jB 22 (qI 1 20 21),jB 23 (qL 22),jB 24 (.bin .neq (.t 19) (.t 23))]) (.cond (.t 24) (
  .seq (
  .region [jA 4 (qK false)]) .ret) .skip)))) (
  .region [jA 25 (qA 13 1),qm 13 25]))))))) (
  .seq (
  .region [jA 4 (qK true)]) .ret))))⟩
theorem c95:compFunc Tryd.prog GL [] Tryd.f95=some l95:=by kernel_rfl
end Go.Proofs.YtohldpfjnllkdaaDoor
end
section
namespace Go.Proofs.YtohldpfjnllkdaaDoor
open Go Go.Pv
set_option maxRecDepth 100000
def l9:LFunc:=⟨54,[(.tmp 2)],
  (
  .seq (
  .region [jA 1 (qO 0),jA 2 (qK false)]) (
  .seq (
  .seq (
  .region [jA 5 (qF 0 1),ql 6 5,jA 7 (.bin .gtr (.t 6) (.c (.int .i64 20))),qm 8 7,jC 9 (qF 1 1) 8,jC 10 (qL 9) 8,jC 11 (qS 10) 8,jC 12 (.bin .gtr (.t 11) (.c (.int .i64 20))) 8,jA 13 (qP 8 12),qm 14 13,jC 15 (qF 2 1) 14,jC 16 (qL 15) 14,jC 17 (qS 16) 14,jC 18 (.bin .gtr (.t 17) (.c (.int .i64 10))) 14,jA 19 (qP 14 18)]) (.cond (.t 19) (
  .seq (
  .region [jA 2 (qK false)]) .ret) .skip)) (
  .seq (
  .seq (
  .region [jA 3 (qC 0)]) (.block 0 (.loop (
  .seq (
  .seq (
  .region [qm 20 3,jA 21 (qF 2 1),ql 22 21,jA 23 (qS 22),jA 24 (qB 20 23)]) (.cond (.t 24) .skip (.exit 0))) (
  .seq (.block 1 (
  .seq (
  .seq (
  .region [jA 27 (qF 2 1),ql 28 27,qm 29 3,jA 30 (qI 1 28 29),ql 31 30,jA 32 (qS 31),jA 33 (.bin .gtr (.t 32) (.c (.int .i64 20)))]) (.cond (.t 33) (
  .seq (
  .region [jA 2 (qK false)]) .ret) .skip)) (
  .seq (
  .region [jA 4 (qC 0)]) (.block 2 (.loop (
  .seq (
  .seq (
  .region [qm 34 4,jA 35 (qF 2 1),ql 36 35,qm 37 3,jA 38 (qI 1 36 37),ql 39 38,jA 40 (qS 39),jA 41 (qB 34 40)]) (.cond (.t 41) .skip (.exit 2))) (
  .seq (.block 3 (
  .seq (
  .region [jA 44 (qF 2 1),ql 45 44,qm 46 3,jA 47 (qI 1 45 46),ql 48 47,qm 49 4,jA 50 (qI 1 48 49),ql 51 50,jA 52 (qS 51),jA 53 (.bin .gtr (.t 52) (.c (.int .i64 20)))]) (.cond (.t 53) (
  .seq (
  .region [jA 2 (qK false)]) .ret) .skip))) (
  .region [qm 42 4,jA 43 (qA 42 1),qm 4 43])))))))) (
  .region [qm 25 3,jA 26 (qA 25 1),qm 3 26])))))) (
  .seq (
  .region [jA 2 (qK true)]) .ret))))⟩
theorem c9:compFunc Tryd.prog GL [] Tryd.f9=some l9:=by kernel_rfl
def l18:LFunc:=⟨134,[(.tmp 2)],
  (
  .seq (
  .region [jA 1 (qO 0),jA 2 (qK false)]) (
  .seq (
  .seq (
  .region [jA 8 (qF 0 1),ql 9 8,jA 10 (.bin .lss (.t 9) (.c (.int .i64 1))),qm 11 10,jC 12 (qF 0 1) 11,jC 13 (qL 12) 11,jC 14 (.bin .gtr (.t 13) (.c (.int .i64 64))) 11,jA 15 (qP 11 14),qm 16 15,jC 17 (qF 2 1) 16,jC 18 (qL 17) 16,jC 19 (qS 18) 16,jC 20 (.bin .gtr (.t 19) (.c (.int .i64 3000))) 16,jA 21 (qP 16 20)]) (.cond (.t 21) (
  .seq (
  .region [jA 2 (qK false)]) .ret) .skip)) (
  .seq (
  .seq (
  .region [jA 3 (qC 0)]) (.block 0 (.loop (
  .seq (
  .seq (
  .region [qm 22 3,jA 23 (qF 1 1),ql 24 23,jA 25 (qS 24),jA 26 (qB 22 25)]) (.cond (.t 26) .skip (.exit 0))) (
  .seq (.block 1 (
  .seq (
  .region [jB 29 (qF 1 1),jB 30 (qL 29),jB 31 (qM 3),jB 32 (qI 1 30 31),jB 33 (qL 32),jB 34 (.bin .lss (.t 33) (.c (.int .i64 0))),jB 35 (qM 34),jF 36 (qF 1 1) 35,jF 37 (qL 36) 35,jF 38 (qM 3) 35,jF 39 (qI 1 37 38) 35,jF 40 (qL 39) 35,jF 41 (qF 2 1) 35,jF 42 (qL 41) 35,jF 43 (qS 42) 35,jF 44 (.bin .geq (.t 40) (.t 43)) 35,jB 45 (qP 35 44),jB 46 (qM 45),jF 47 (qM 3) 46,jF 48 (.bin .gtr (.t 47) (.c (.int .i64 0))) 46,jF 49 (qM 48) 46,jE 50 (qF 1 1) 49,jE 51 (qL 50) 49,jE 52 (qM 3) 49,jE 53 (.bin .sub (.t 52) (.c (.int .i64 1))) 49,jE 54 (qI 1 51 53) 49,jE 55 (qL 54) 49,jE 56 (qF 1 1) 49,jE 57 (qL 56) 49,jE 58 (qM 3) 49,jE 59 (qI 1 57 58) 49,jE 60 (qL 59) 49,jE 61 (.bin .geq (.t 55) (.t 60)) 49,jF 62 (.pick (.t 49) (.t 61) (.c (.bool false))) 46,jB 63 (qP 46 62)]) (.cond (.t 63) (
  .seq (
  .region [jA 2 (qK false)]) .ret) .skip))) (
  .region [qm 27 3,jA 28 (qA 27 1),qm 3 28])))))) (
  .seq (
  .seq (
  .region [jA 4 (qC 0)]) (.block 2 (.loop (
  .seq (
  .seq (
  .region [qm 64 4,jA 65 (qF 2 1),ql 66 65,jA 67 (qS 66),jA 68 (qB 64 67)]) (.cond (.t 68) .skip (.exit 2))) (
  .seq (.block 3 (
  .seq (
  .seq (
  .region [jB 71 (qF 2 1),jB 72 (qL 71),jB 73 (qM 4),jB 74 (qI 1 72 73),jB 75 (qL 74),jB 76 (qS 75),jB 77 (qF 0 1),jB 78 (qL 77),jB 79 (.bin .neq (.t 76) (.t 78))]) (.cond (.t 79) (
  .seq (
  .region [jA 2 (qK false)]) .ret) .skip)) (
  .seq (
  .region [jA 5 (qC 0)]) (.block 4 (.loop (
  .seq (
  .seq (
  .region [qm 80 5,jA 81 (qF 0 1),ql 82 81,jA 83 (qB 80 82)]) (.cond (.t 83) .skip (.exit 4))) (
  .seq (.block 5 (
  .seq (
  .region [jA 86 (qF 2 1),ql 87 86,qm 88 4,jA 89 (qI 1 87 88),ql 90 89,qm 91 5,jA 92 (qI 1 90 91),ql 93 92,qm 6 93]) (
  .seq (
  .region [jA 7 (qC 0)]) (.block 6 (.loop (
  .seq (
  .seq (
  .region [qm 94 7,qm 95 6,jA 96 (qS 95),jA 97 (qB 94 96)]) (.cond (.t 97) .skip (.exit 6))) (
  .seq (.block 7 (
  .seq (
  .region [jB 100 (qM 6),jB 101 (qM 7),jB 102 (qI 2 100 101),jB 103 (qF 0 102),jB 104 (qL 103),jB 105 (.bin .lss (.t 104) (.c (.int .i64 0))),jB 106 (qM 105),jF 107 (qM 6) 106,jF 108 (qM 7) 106,jF 109 (qI 2 107 108) 106,jF 110 (qF 0 109) 106,jF 111 (qL 110) 106,jF 112 (qF 2 1) 106,jF 113 (qL 112) 106,jF 114 (qS 113) 106,jF 115 (.bin .geq (.t 111) (.t 114)) 106,jB 116 (qP 106 115),jB 117 (qM 116),jF 118 (qM 7) 117,jF 119 (.bin .gtr (.t 118) (.c (.int .i64 0))) 117,jF 120 (qM 119) 117,jE 121 (qM 6) 120,jE 122 (qM 7) 120,jE 123 (.bin .sub (.t 122) (.c (.int .i64 1))) 120,jE 124 (qI 2 121 123) 120,jE 125 (qN 2 124) 120,jE 126 (qM 6) 120,jE 127 (qM 7) 120,jE 128 (qI 2 126 127) 120,jE 129 (qN 2 128) 120,jE 130 (.call (.c (.fn (.func 36) [] [])) [(.t 125),(.t 129)]) 120,jE 131 (.un .not (.t 130)) 120,jF 132 (.pick (.t 120) (.t 131) (.c (.bool false))) 117,jB 133 (qP 117 132)]) (.cond (.t 133) (
  .seq (
  .region [jA 2 (qK false)]) .ret) .skip))) (
  .region [qm 98 7,jA 99 (qA 98 1),qm 7 99])))))))) (
  .region [qm 84 5,jA 85 (qA 84 1),qm 5 85])))))))) (
  .region [qm 69 4,jA 70 (qA 69 1),qm 4 70])))))) (
  .seq (
  .region [jA 2 (qK true)]) .ret)))))⟩
theorem c18:compFunc Tryd.prog GL [] Tryd.f18=some l18:=by kernel_rfl
def l36:LFunc:=⟨26,[(.tmp 4)],
  (
  .seq (
  .region [jA 2 (qO 0),jA 3 (qO 1),jA 4 (qK false)]) (
  .seq (
  .region [jA 5 (qF 0 2),ql 6 5,jA 7 (qF 0 3),ql 8 7,jA 9 (qB 6 8),qm 10 9,jC 11 (qF 0 2) 10,jC 12 (qL 11) 10,jC 13 (qF 0 3) 10,jC 14 (qL 13) 10,jC 15 (.bin .eql (.t 12) (.t 14)) 10,jC 16 (qM 15) 10,jD 17 (qF 1 2) 16,jD 18 (qL 17) 16,jD 19 (.un .not (.t 18)) 16,jC 20 (.pick (.t 16) (.t 19) (.c (.bool false))) 10,jC 21 (qM 20) 10,jD 22 (qF 1 3) 21,jD 23 (qL 22) 21,jC 24 (.pick (.t 21) (.t 23) (.c (.bool false))) 10,jA 25 (qP 10 24),qm 4 25]) .ret))⟩
theorem c36:compFunc Tryd.prog GL [] Tryd.f36=some l36:=by kernel_rfl
def l20:LFunc:=⟨13,[(.tmp 2)],
  (
  .seq (
  .region [jA 1 (qO 0),jA 2 (qK false)]) (
  .seq (
  .region [jA 3 (qF 0 1),ql 4 3,jA 5 (qS 4),jA 6 (.bin .leq (.t 5) (.c (.int .i64 80))),qm 7 6,jD 8 (qF 1 1) 7,jD 9 (qL 8) 7,jD 10 (qS 9) 7,jD 11 (.bin .leq (.t 10) (.c (.int .i64 80))) 7,jA 12 (.pick (.t 7) (.t 11) (.c (.bool false))),qm 2 12]) .ret))⟩
theorem c20:compFunc Tryd.prog GL [] Tryd.f20=some l20:=by kernel_rfl
def l21:LFunc:=⟨37,[(.tmp 4)],
  (
  .seq (
  .region [jA 3 (qO 1),jA 4 (qK false)]) (
  .seq (
  .seq (
  .region [jA 5 (qC 0)]) (.block 0 (.loop (
  .seq (
  .seq (
  .region [qm 7 5,jA 8 (qF 0 3),ql 9 8,jA 10 (qS 9),jA 11 (qB 7 10)]) (.cond (.t 11) .skip (.exit 0))) (
  .seq (.block 1 (
  .seq (
  .region [jA 14 (qF 0 3),ql 15 14,qm 16 5,jA 17 (qI 1 15 16),ql 18 17,qm 19 0,jA 20 (.bin .geq (.t 18) (.t 19))]) (.cond (.t 20) (
  .seq (
  .region [jA 4 (qK false)]) .ret) .skip))) (
  .region [qm 12 5,jA 13 (qA 12 1),qm 5 13])))))) (
  .seq (
  .seq (
  .region [jA 6 (qC 0)]) (.block 2 (.loop (
  .seq (
  .seq (
  .region [qm 21 6,jA 22 (qF 1 3),ql 23 22,jA 24 (qS 23),jA 25 (qB 21 24)]) (.cond (.t 25) .skip (.exit 2))) (
  .seq (.block 3 (
  .seq (
  .region [jA 28 (qF 1 3),ql 29 28,qm 30 6,jA 31 (qI 1 29 30),ql 32 31,qm 33 0,jA 34 (.bin .geq (.t 32) (.t 33))]) (.cond (.t 34) (
  .seq (
  .region [jA 4 (qK false)]) .ret) .skip))) (
  .region [qm 26 6,jA 27 (qA 26 1),qm 6 27])))))) (
  .seq (
  .region [jA 35 (qN 2 3),jA 36 (qG 42 35),qm 4 36]) .ret))))⟩
theorem c21:compFunc Tryd.prog GL [] Tryd.f21=some l21:=by kernel_rfl
def l42:LFunc:=⟨53,[(.tmp 2)],
  (
  .seq (
  .region [jA 1 (qO 0),jA 2 (qK false)]) (
  .seq (
  .seq (
  .region [jA 7 (qF 0 1),ql 8 7,jA 9 (qS 8),jA 10 (.bin .gtr (.t 9) (.c (.int .i64 60))),qm 11 10,jC 12 (qF 1 1) 11,jC 13 (qL 12) 11,jC 14 (qS 13) 11,jC 15 (.bin .lss (.t 14) (.c (.int .i64 1))) 11,jA 16 (qP 11 15),qm 17 16,jC 18 (qF 1 1) 17,jC 19 (qL 18) 17,jC 20 (qS 19) 17,jC 21 (.bin .gtr (.t 20) (.c (.int .i64 40))) 17,jA 22 (qP 17 21)]) (.cond (.t 22) (
  .seq (
  .region [jA 2 (qK false)]) .ret) .skip)) (
  .seq (
  .seq (
  .region [jA 3 (qC 0)]) (.block 0 (.loop (
  .seq (
  .seq (
  .region [qm 23 3,jA 24 (qF 0 1),ql 25 24,jA 26 (qS 25),jA 27 (qB 23 26)]) (.cond (.t 27) .skip (.exit 0))) (
  .seq (.block 1 (
  .seq (
  .region [jA 30 (qF 0 1),ql 31 30,qm 32 3,jA 33 (qI 1 31 32),ql 34 33,jA 35 (qG 68 34),qm 4 35]) (
  .seq (
  .region [qm 36 4,jA 37 (.un .not (.t 36))]) (.cond (.t 37) (
  .seq (
  .region [jA 2 (qK false)]) .ret) .skip)))) (
  .region [qm 28 3,jA 29 (qA 28 1),qm 3 29])))))) (
  .seq (
  .seq (
  .region [jA 5 (qC 0)]) (.block 2 (.loop (
  .seq (
  .seq (
  .region [qm 38 5,jA 39 (qF 1 1),ql 40 39,jA 41 (qS 40),jA 42 (qB 38 41)]) (.cond (.t 42) .skip (.exit 2))) (
  .seq (.block 3 (
  .seq (
  .region [jA 45 (qF 1 1),ql 46 45,qm 47 5,jA 48 (qI 1 46 47),ql 49 48,jA 50 (qG 68 49),qm 6 50]) (
  .seq (
  .region [qm 51 6,jA 52 (.un .not (.t 51))]) (.cond (.t 52) (
  .seq (
  .region [jA 2 (qK false)]) .ret) .skip)))) (
  .region [qm 43 5,jA 44 (qA 43 1),qm 5 44])))))) (
  .seq (
  .region [jA 2 (qK true)]) .ret)))))⟩
theorem c42:compFunc Tryd.prog GL [] Tryd.f42=some l42:=by kernel_rfl
end Go.Proofs.YtohldpfjnllkdaaDoor
end
