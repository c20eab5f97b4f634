/- Plain forms of functions, by program. -/
import Derived.Test.YtohldpfjnllkdaaDoorProg
import Derived.Test.YtohldpfjnllkdaaDoorPvComp
import Derived.Test.YtohldpfjnllkdaaDoorGl
import Derived.KernelRfl
set_option linter.unusedSimpArgs false
set_option linter.unusedVariables false
namespace Go.Proofs.YtohldpfjnllkdaaDoor
open Go Go.Pv
set_option maxRecDepth 100000
def l19:LFunc:=⟨33,[(.tmp 4)],
  (
  .seq (
  .region [jA 2 (qO 0),jA 3 (qO 1),jA 4 (qK false)]) (
  .seq (
  .seq (
  .region [jA 9 (qN 3 2),jA 10 (qG 24 9),jA 11 (.un .not (.t 10)),qm 12 11,jC 13 (qF 0 2) 12,jC 14 (qL 13) 12,jC 15 (qN 2 3) 12,jC 16 (.call (.c (.fn (.func 37) [] [])) [(.t 14),(.t 15)]) 12,jC 17 (.un .not (.t 16)) 12,jA 18 (qP 12 17)]) (.cond (.t 18) (
  .seq (
  .region [jA 4 (qK false)]) .ret) .skip)) (
  .seq (
  .region [jA 19 (qN 3 2),jA 20 (qN 2 3),jA 21 (.call (.c (.fn (.func 38) [] [])) [(.t 19),(.t 20)]),jA 5 (.alloc [(.int .i64 0), .nils, .nils, .nils,(.int .i64 0)]),jG 5 5 21]) (
  .seq (
  .region [jB 23 (qN 5 5),jB 24 (qN 5 5),jB 25 (qN 5 5),⟨(some 6),(.alloc [(.int .i64 0),(.int .i64 0)]),none,[(23,(none,(.load (some 5) (.t 5)))),(24,(none,(.load (some 5) (.t 5)))),(25,(none,(.load (some 5) (.t 5))))],true⟩,⟨(some 7),(.alloc [(.int .i64 0),(.int .i64 0)]),none,[(23,(none,(.load (some 5) (.t 5)))),(24,(none,(.load (some 5) (.t 5)))),(25,(none,(.load (some 5) (.t 5))))],true⟩,⟨(some 26),(.call (.c (.fn (.func 41) [] [])) [(.t 25)]),none,[(23,(none,(.load (some 5) (.t 5)))),(24,(none,(.load (some 5) (.t 5))))],true⟩,⟨(some 27),(.call (.c (.fn (.func 40) [] [])) [(.t 24),(.t 26)]),none,[(23,(none,(.load (some 5) (.t 5))))],true⟩,jB 28 (.call (.c (.fn (.func 39) [] [])) [(.t 23),(.t 27)]),jB 22 (qM 28),jB 29 (.ext (.t 22) 0),jB 30 (.ext (.t 22) 1),jB 31 (.ext (.t 22) 2),jH 2 6 29,jH 2 7 30,jB 8 (qM 31)]) (
  .seq (
  .region [qm 32 8,qm 4 32]) .ret)))))⟩
theorem c19:compFunc Tryd.prog GL [] Tryd.f19=some l19:=by kernel_rfl
def l24:LFunc:=⟨101,[(.tmp 2)],
  (
  .seq (
  .region [jA 1 (qO 0),jA 2 (qK false)]) (
  .seq (
  .seq (
  .region [jA 12 (qF 0 1),ql 13 12,jA 14 (.bin .lss (.t 13) (.c (.int .i64 1))),qm 15 14,jC 16 (qF 0 1) 15,jC 17 (qL 16) 15,jC 18 (.bin .gtr (.t 17) (.c (.int .i64 64))) 15,jA 19 (qP 15 18),qm 20 19,jC 21 (qF 2 1) 20,jC 22 (qL 21) 20,jC 23 (qS 22) 20,jC 24 (.bin .gtr (.t 23) (.c (.int .i64 3000))) 20,jA 25 (qP 20 24)]) (.cond (.t 25) (
  .seq (
  .region [jA 2 (qK false)]) .ret) .skip)) (
  .seq (
  .region [jA 26 (.mkfn (.func 46) [] [(.t 1)]),qm 3 26]) (
  .seq (
  .seq (
  .region [jA 27 (qF 1 1),ql 28 27,jA 29 (qS 28),jA 30 (qC 0)]) (.block 0 (.loop (
  .seq (
  .region [jA 31 (qB 30 29)]) (
  .seq (.cond (.t 31) .skip (.exit 0)) (
  .seq (.block 1 (
  .seq (
  .region [qm 32 30,jA 33 (qI 1 28 30),ql 34 33,qm 4 32,qm 5 34]) (
  .seq (
  .region [qm 35 3,qm 36 5,jA 37 (.call (.t 35) [(.t 36)]),jA 38 (.un .not (.t 37)),qm 39 38,jC 40 (qM 4) 39,jC 41 (.bin .gtr (.t 40) (.c (.int .i64 0))) 39,jC 42 (qM 41) 39,jD 43 (qF 1 1) 42,jD 44 (qL 43) 42,jD 45 (qM 4) 42,jD 46 (.bin .sub (.t 45) (.c (.int .i64 1))) 42,jD 47 (qI 1 44 46) 42,jD 48 (qL 47) 42,jD 49 (qM 5) 42,jD 50 (.bin .geq (.t 48) (.t 49)) 42,jC 51 (.pick (.t 42) (.t 50) (.c (.bool false))) 39,jA 52 (qP 39 51)]) (.cond (.t 52) (
  .seq (
  .region [jA 2 (qK false)]) .ret) .skip)))) (
  .region [jA 53 (qA 30 1),qm 30 53]))))))) (
  .seq (
  .seq (
  .region [jA 54 (qF 2 1),ql 55 54,jA 56 (qS 55),jA 57 (qC 0)]) (.block 2 (.loop (
  .seq (
  .region [jA 58 (qB 57 56)]) (
  .seq (.cond (.t 58) .skip (.exit 2)) (
  .seq (.block 3 (
  .seq (
  .region [jA 59 (qI 1 55 57),ql 60 59,qm 7 60]) (
  .seq (
  .seq (
  .region [qm 61 7,jA 62 (qS 61),jA 63 (qF 0 1),ql 64 63,jA 65 (.bin .neq (.t 62) (.t 64))]) (.cond (.t 65) (
  .seq (
  .region [jA 2 (qK false)]) .ret) .skip)) (
  .seq (
  .region [qm 66 7,jA 67 (qS 66),jA 68 (qC 0)]) (.block 4 (.loop (
  .seq (
  .region [jA 69 (qB 68 67)]) (
  .seq (.cond (.t 69) .skip (.exit 4)) (
  .seq (.block 5 (
  .seq (
  .region [jA 70 (qI 1 66 68),ql 71 70,qm 9 71]) (
  .seq (
  .region [qm 72 9,jA 73 (qS 72),jA 74 (qC 0)]) (.block 6 (.loop (
  .seq (
  .region [jA 75 (qB 74 73)]) (
  .seq (.cond (.t 75) .skip (.exit 6)) (
  .seq (.block 7 (
  .seq (
  .region [qm 76 74,jA 77 (qI 2 72 74),jA 78 (qN 2 77),jA 11 (.alloc [(.int .i64 0),(.bool false)]),qm 10 76,jG 2 11 78]) (
  .seq (
  .region [jB 79 (qM 3),jB 80 (qF 0 11),jB 81 (qL 80),jB 82 (.call (.t 79) [(.t 81)]),jB 83 (.un .not (.t 82)),jB 84 (qM 83),jF 85 (qM 10) 84,jF 86 (.bin .gtr (.t 85) (.c (.int .i64 0))) 84,jF 87 (qM 86) 84,jE 88 (qM 9) 87,jE 89 (qM 10) 87,jE 90 (.bin .sub (.t 89) (.c (.int .i64 1))) 87,jE 91 (qI 2 88 90) 87,jE 92 (qN 2 91) 87,jE 93 (qN 2 11) 87,jE 94 (.call (.c (.fn (.func 47) [] [])) [(.t 92),(.t 93)]) 87,jE 95 (.bin .geq (.t 94) (.c (.int .i64 0))) 87,jF 96 (.pick (.t 87) (.t 95) (.c (.bool false))) 84,jB 97 (qP 84 96)]) (.cond (.t 97) (
  .seq (
  .region [jA 2 (qK false)]) .ret) .skip)))) (
  .region [jA 98 (qA 74 1),qm 74 98]))))))))) (
  .region [jA 99 (qA 68 1),qm 68 99])))))))))) (
  .region [jA 100 (qA 57 1),qm 57 100]))))))) (
  .seq (
  .region [jA 2 (qK true)]) .ret))))))⟩
theorem c24:compFunc Tryd.prog GL [] Tryd.f24=some l24:=by kernel_rfl
def l46:LFunc:=⟨13,[(.tmp 3)],
  (
  .seq (
  .region [jA 3 (qK false)]) (
  .seq (
  .region [qm 4 0,jA 5 (.bin .geq (.t 4) (.c (.int .i64 0))),qm 6 5,jD 7 (qM 0) 6,jD 8 (qF 2 1) 6,jD 9 (qL 8) 6,jD 10 (qS 9) 6,jD 11 (qB 7 10) 6,jA 12 (.pick (.t 6) (.t 11) (.c (.bool false))),qm 3 12]) .ret))⟩
theorem c46:compFunc Tryd.prog GL [] Tryd.f46=some l46:=by kernel_rfl
def l47:LFunc:=⟨23,[(.tmp 4)],
  (
  .seq (
  .region [jA 2 (qO 0),jA 3 (qO 1),jA 4 (qC 0)]) (
  .seq (
  .seq (
  .region [jA 6 (qF 0 2),ql 7 6,jA 8 (qF 0 3),ql 9 8,jA 10 (.call (.c (.fn (.func 72) [] [])) [(.t 7),(.t 9)]),qm 5 10]) (
  .seq (
  .region [qm 11 5,jA 12 (.bin .neq (.t 11) (.c (.int .i64 0))),qm 13 12,jC 14 (qF 1 2) 13,jC 15 (qL 14) 13,jC 16 (qF 1 3) 13,jC 17 (qL 16) 13,jC 18 (.eq false .bool (.t 15) (.t 17)) 13,jA 19 (qP 13 18)]) (.cond (.t 19) (
  .seq (
  .region [qm 20 5,qm 4 20]) .ret) .skip))) (
  .seq (
  .seq (
  .region [jA 21 (qF 1 3),ql 22 21]) (.cond (.t 22) (
  .seq (
  .region [jA 4 (.mv (.c (.int .i64 (-1))))]) .ret) .skip)) (
  .seq (
  .region [jA 4 (qC 1)]) .ret))))⟩
theorem c47:compFunc Tryd.prog GL [] Tryd.f47=some l47:=by kernel_rfl
def l72:LFunc:=⟨20,[(.tmp 4)],
  (
  .seq (
  .region [jA 4 (qC 0)]) (
  .seq (
  .region [qm 7 0,jA 8 (qG 81 7),qm 5 8]) (
  .seq (
  .region [qm 9 1,jA 10 (qG 81 9),qm 6 10]) (
  .seq (
  .seq (
  .region [qm 11 5]) (.cond (.t 11) (
  .seq (
  .seq (
  .region [qm 12 6]) (.cond (.t 12) (
  .seq (
  .region [jA 4 (qC 0)]) .ret) .skip)) (
  .seq (
  .region [jA 4 (.mv (.c (.int .i64 (-1))))]) .ret)) .skip)) (
  .seq (
  .seq (
  .region [qm 13 6]) (.cond (.t 13) (
  .seq (
  .region [jA 4 (qC 1)]) .ret) .skip)) (
  .seq (
  .seq (
  .region [qm 14 0,qm 15 1,jA 16 (qB 14 15)]) (.cond (.t 16) (
  .seq (
  .region [jA 4 (.mv (.c (.int .i64 (-1))))]) .ret) .skip)) (
  .seq (
  .seq (
  .region [qm 17 0,qm 18 1,jA 19 (.bin .gtr (.t 17) (.t 18))]) (.cond (.t 19) (
  .seq (
  .region [jA 4 (qC 1)]) .ret) .skip)) (
  .seq (
  .region [jA 4 (qC 0)]) .ret))))))))⟩
theorem c72:compFunc Tryd.prog GL [] Tryd.f72=some l72:=by kernel_rfl
def l81:LFunc:=⟨6,[(.tmp 2)],
  (
  .seq (
  .region [jA 2 (qK false)]) (
  .seq (
  .region [qm 3 0,qm 4 0,jA 5 (.bin .neq (.t 3) (.t 4)),qm 2 5]) .ret))⟩
theorem c81:compFunc Tryd.prog GL [] Tryd.f81=some l81:=by kernel_rfl
def l38:LFunc:=⟨19,[(.cell 4 (some 5))],
  (
  .seq (
  .region [jA 2 (qO 0),jA 3 (qO 1),jA 4 (.alloc [(.int .i64 0), .nils, .nils, .nils,(.int .i64 0)])]) (
  .seq (
  .region [jA 6 (qN 2 3),jA 7 (qG 62 6),jA 5 (.alloc [.nils, .nils]),jG 2 5 7]) (
  .seq (
  .region [jB 8 (qN 3 2),jB 9 (qF 0 5),jB 10 (qL 9),jB 11 (qF 1 5),jB 12 (qL 11),⟨(some 13),(.bslice 1 2 [.nils] [(0,(1,(.t 10))),(1,(1,(.t 12)))]),none,[(8,(none,(.load (some 3) (.t 2)))),(10,(none,(.load none (.t 9)))),(12,(none,(.load none (.t 11))))],true⟩,jB 15 (qF 0 5),jB 16 (qL 15),jB 17 (qS 16),⟨(some 14),(.call (.c (.fn (.func 63) [] [])) [(.t 13)]),none,[(8,(none,(.load (some 3) (.t 2)))),(16,(none,(.load none (.t 15))))],true⟩,jB 18 (.build [(.int .i64 0), .nils, .nils, .nils,(.int .i64 0)] [(0,(3,(.t 8))),(3,(1,(.t 14))),(4,(1,(.t 17)))]),jH 5 4 18]) .ret)))⟩
theorem c38:compFunc Tryd.prog GL [] Tryd.f38=some l38:=by kernel_rfl
def l41:LFunc:=⟨21,[(.tmp 2)],
  (
  .seq (
  .region [jA 1 (qO 0),jA 2 (.mv (.c .nils))]) (
  .seq (
  .region [jA 3 (.mv (.c .nils))]) (
  .seq (
  .seq (
  .region [jA 6 (qF 0 1),jA 7 (qF 1 6),ql 8 7,jA 9 (qS 8),jA 10 (qC 0)]) (.block 0 (.loop (
  .seq (
  .region [jA 11 (qB 10 9)]) (
  .seq (.cond (.t 11) .skip (.exit 0)) (
  .seq (.block 1 (
  .seq (
  .region [jA 12 (qI 1 8 10),ql 13 12,qm 5 13]) (
  .region [qm 14 3,qm 15 5,jA 16 (.build [(.int .i64 0),(.int .i64 0)] [(1,(1,(.t 15)))]),jA 17 (.bslice 2 1 [(.int .i64 0),(.int .i64 0)] [(0,(2,(.t 16)))]),jA 18 (.append 2 16 (.t 14) (.t 17)),qm 3 18]))) (
  .region [jA 19 (qA 10 1),qm 10 19]))))))) (
  .seq (
  .region [qm 20 3,qm 2 20]) .ret))))⟩
theorem c41:compFunc Tryd.prog GL [] Tryd.f41=some l41:=by kernel_rfl
def l40:LFunc:=⟨55,[(.cell 4 (some 3))],
  (
  .seq (
  .region [jA 2 (qO 0),jA 4 (.alloc [.nilm, .nils, .nils])]) (
  .seq (
  .region [jA 13 (.mkmap none),jA 14 (.build [.nilm, .nils, .nils] [(0,(1,(.t 13)))]),jA 5 (.alloc [.nilm, .nils, .nils]),jG 3 5 14]) (
  .seq (
  .region [jA 15 (.mkfn (.func 67) [] [(.t 5)]),qm 6 15]) (
  .seq (
  .seq (
  .region [qm 16 1,jA 17 (qS 16),jA 18 (qC 0)]) (.block 0 (.loop (
  .seq (
  .region [jA 19 (qB 18 17)]) (
  .seq (.cond (.t 19) .skip (.exit 0)) (
  .seq (.block 1 (
  .seq (
  .region [jA 20 (qI 2 16 18),jA 21 (qN 2 20),jA 8 (.alloc [(.int .i64 0),(.int .i64 0)]),jG 2 8 21]) (
  .region [qm 22 6,jA 23 (qN 2 8),jA 24 (.call (.t 22) [(.t 23),(.c (.int .i64 (-1)))])]))) (
  .region [jA 25 (qA 18 1),qm 18 25]))))))) (
  .seq (
  .seq (
  .region [jA 9 (qC 0)]) (.block 2 (.loop (
  .seq (
  .seq (
  .region [qm 26 9,jA 27 (qF 1 5),ql 28 27,jA 29 (qS 28),jA 30 (qB 26 29)]) (.cond (.t 30) .skip (.exit 2))) (
  .seq (.block 3 (
  .seq (
  .region [jA 33 (qF 1 5),ql 34 33,qm 35 9,jA 36 (qI 2 34 35),jA 37 (qN 2 36),jA 10 (.alloc [(.int .i64 0),(.int .i64 0)]),jG 2 10 37]) (
  .seq (
  .region [jA 38 (qN 5 2),jA 39 (qN 2 10),jA 40 (.call (.c (.fn (.func 64) [] [])) [(.t 38),(.t 39)]),jA 41 (qS 40),jA 42 (qC 0)]) (.block 4 (.loop (
  .seq (
  .region [jA 43 (qB 42 41)]) (
  .seq (.cond (.t 43) .skip (.exit 4)) (
  .seq (.block 5 (
  .seq (
  .region [jA 44 (qI 2 40 42),jA 45 (qN 2 44),jA 12 (.alloc [(.int .i64 0),(.bool false)]),jG 2 12 45]) (
  .region [qm 46 6,jA 47 (qN 5 2),jA 48 (qN 2 10),jA 49 (qN 2 12),jA 50 (.call (.c (.fn (.func 65) [] [])) [(.t 47),(.t 48),(.t 49)]),qm 51 9,jA 52 (.call (.t 46) [(.t 50),(.t 51)])]))) (
  .region [jA 53 (qA 42 1),qm 42 53]))))))))) (
  .region [qm 31 9,jA 32 (qA 31 1),qm 9 32])))))) (
  .seq (
  .region [jA 54 (qN 3 5),jG 3 4 54]) .ret))))))⟩
theorem c40:compFunc Tryd.prog GL [] Tryd.f40=some l40:=by kernel_rfl
def l67:LFunc:=⟨34,[],
  (
  .seq (
  .region [jA 3 (qO 0)]) (
  .seq (
  .region [jA 8 (qF 0 2),ql 9 8,jA 10 (qN 2 3),jA 11 (.mlook (.st [(0,(1, .int)),(1,(1, .int))]) (.int .i64 0) true (.t 9) (.t 10)),qm 7 11,jA 12 (.ext (.t 7) 0),jA 13 (.ext (.t 7) 1),qm 5 12,qm 6 13]) (
  .seq (
  .region [qm 14 6,jA 15 (.un .not (.t 14))]) (.cond (.t 15) (
  .seq (
  .region [jA 16 (qF 0 2),ql 17 16,jA 18 (qN 2 3),jA 19 (qF 1 2),ql 20 19,jA 21 (qS 20),⟨none,(.mupd (.st [(0,(1, .int)),(1,(1, .int))]) (.t 17) (.t 18) (.t 21)),none,[],false⟩]) (
  .seq (
  .region [jA 22 (qF 1 2),ql 23 22,jA 24 (qN 2 3),jA 25 (.bslice 2 1 [(.int .i64 0),(.int .i64 0)] [(0,(2,(.t 24)))]),jA 26 (.append 2 16 (.t 23) (.t 25)),jA 27 (qF 1 2),jG 1 27 26]) (
  .region [jA 28 (qF 2 2),ql 29 28,qm 30 1,jA 31 (.bslice 1 1 [(.int .i64 0)] [(0,(1,(.t 30)))]),jA 32 (.append 1 8 (.t 29) (.t 31)),jA 33 (qF 2 2),jG 1 33 32]))) .skip))))⟩
theorem c67:compFunc Tryd.prog GL [] Tryd.f67=some l67:=by kernel_rfl
def l64:LFunc:=⟨20,[(.tmp 4)],
  (
  .seq (
  .region [jA 2 (qO 0),jA 3 (qO 1),jA 4 (.mv (.c .nils))]) (
  .seq (
  .region [jB 5 (qF 0 2),jB 6 (qF 2 5),jB 7 (qL 6),jB 8 (qF 1 3),jB 9 (qL 8),jB 10 (qI 1 7 9),jB 11 (qL 10),jB 12 (qF 3 2),jB 13 (qL 12),jB 14 (qF 0 3),jB 15 (qL 14),jB 16 (qI 1 13 15),jB 17 (qL 16),jB 18 (qI 1 11 17),jB 19 (qL 18),jB 4 (qM 19)]) .ret))⟩
theorem c64:compFunc Tryd.prog GL [] Tryd.f64=some l64:=by kernel_rfl
def l65:LFunc:=⟨22,[(.cell 6 (some 2))],
  (
  .seq (
  .region [jA 3 (qO 0),jA 4 (qO 1),jA 5 (qO 2),jA 6 (.alloc [(.int .i64 0),(.int .i64 0)])]) (
  .seq (
  .region [jA 8 (qF 0 4),ql 9 8,jA 10 (qA 9 1),qm 7 10]) (
  .seq (
  .seq (
  .region [qm 11 7,jA 12 (qF 3 3),ql 13 12,jA 14 (qS 13),jA 15 (.bin .eql (.t 11) (.t 14))]) (.cond (.t 15) (
  .region [jA 16 (qF 4 3),ql 17 16,qm 7 17]) .skip)) (
  .seq (
  .region [qm 18 7,jA 19 (qF 0 5),ql 20 19,jA 21 (.build [(.int .i64 0),(.int .i64 0)] [(0,(1,(.t 18))),(1,(1,(.t 20)))]),jG 2 6 21]) .ret))))⟩
theorem c65:compFunc Tryd.prog GL [] Tryd.f65=some l65:=by kernel_rfl
def l39:LFunc:=⟨102,[(.cell 4 (some 2)),(.cell 5 (some 2)),(.tmp 6)],
  (
  .seq (
  .region [jA 2 (qO 0),jA 3 (.box false (.t 1)),jA 4 (.alloc [(.int .i64 0),(.int .i64 0)]),jA 5 (.alloc [(.int .i64 0),(.int .i64 0)]),jA 6 (qK false)]) (
  .seq (
  .region [jA 17 (qF 1 3),ql 18 17,jA 19 (qS 18),jA 20 (.mkslice 1 24 [.nils] (.t 19) (.t 19)),qm 7 20]) (
  .seq (
  .seq (
  .region [jA 21 (qF 1 3),ql 22 21,jA 23 (qS 22),jA 24 (qC 0)]) (.block 0 (.loop (
  .seq (
  .region [jA 25 (qB 24 23)]) (
  .seq (.cond (.t 25) .skip (.exit 0)) (
  .seq (.block 1 (
  .seq (
  .region [qm 26 24,jA 27 (qI 2 22 24),jA 28 (qN 2 27),jA 9 (.alloc [(.int .i64 0),(.int .i64 0)]),qm 8 26,jG 2 9 28]) (
  .seq (
  .region [jA 29 (qN 5 2),jA 30 (qN 2 9),jA 31 (.call (.c (.fn (.func 64) [] [])) [(.t 29),(.t 30)]),jA 32 (qS 31),jA 33 (qC 0)]) (.block 2 (.loop (
  .seq (
  .region [jA 34 (qB 33 32)]) (
  .seq (.cond (.t 34) .skip (.exit 2)) (
  .seq (.block 3 (
  .seq (
  .region [jA 35 (qI 2 31 33),jA 36 (qN 2 35),jA 11 (.alloc [(.int .i64 0),(.bool false)]),jG 2 11 36]) (
  .region [jB 37 (qM 7),jB 38 (qM 8),jB 39 (qM 7),jB 40 (qM 8),jB 41 (qI 1 39 40),jB 42 (qL 41),jB 43 (qF 0 3),jB 44 (qL 43),jB 45 (qN 5 2),jB 46 (qN 2 9),jB 47 (qN 2 11),⟨(some 48),(.call (.c (.fn (.func 65) [] [])) [(.t 45),(.t 46),(.t 47)]),none,[(42,(none,(.load none (.t 41)))),(44,(none,(.load none (.t 43))))],true⟩,jB 49 (.mlook (.st [(0,(1, .int)),(1,(1, .int))]) (.int .i64 0) false (.t 44) (.t 48)),⟨(some 50),(.bslice 1 1 [(.int .i64 0)] [(0,(1,(.t 49)))]),none,[(42,(none,(.load none (.t 41)))),(44,(none,(.load none (.t 43)))),(45,(none,(.load (some 5) (.t 2)))),(46,(none,(.load (some 2) (.t 9)))),(47,(none,(.load (some 2) (.t 11)))),(49,(none,(.mlook (.st [(0,(1, .int)),(1,(1, .int))]) (.int .i64 0) false (.t 44) (.t 48))))],true⟩,jB 51 (.append 1 8 (.t 42) (.t 50)),jB 52 (qI 1 37 38),jH 1 52 51]))) (
  .region [jA 53 (qA 33 1),qm 33 53]))))))))) (
  .region [jA 54 (qA 24 1),qm 24 54]))))))) (
  .seq (
  .region [qm 55 7,jA 56 (qG 66 55),qm 12 56]) (
  .seq (
  .seq (
  .region [jA 57 (qF 1 3),ql 58 57,jA 59 (qS 58),jA 60 (qC 0)]) (.block 4 (.loop (
  .seq (
  .region [jA 61 (qB 60 59)]) (
  .seq (.cond (.t 61) .skip (.exit 4)) (
  .seq (.block 5 (
  .seq (
  .region [qm 62 60,jA 63 (qI 2 58 60),jA 64 (qN 2 63),jA 14 (.alloc [(.int .i64 0),(.int .i64 0)]),qm 13 62,jG 2 14 64]) (
  .seq (
  .region [jA 65 (qN 5 2),jA 66 (qN 2 14),jA 67 (.call (.c (.fn (.func 64) [] [])) [(.t 65),(.t 66)]),jA 68 (qS 67),jA 69 (qC 0)]) (.block 6 (.loop (
  .seq (
  .region [jA 70 (qB 69 68)]) (
  .seq (.cond (.t 70) .skip (.exit 6)) (
  .seq (.block 7 (
  .seq (
  .region [qm 71 69,jA 72 (qI 2 67 69),jA 73 (qN 2 72),jA 16 (.alloc [(.int .i64 0),(.bool false)]),qm 15 71,jG 2 16 73]) (
  .seq (
  .region [jB 74 (qF 1 16),jB 75 (qL 74),jB 76 (qM 75),jE 77 (qM 12) 76,jE 78 (qM 7) 76,jE 79 (qM 13) 76,jE 80 (qI 1 78 79) 76,jE 81 (qL 80) 76,jE 82 (qM 15) 76,jE 83 (qI 1 81 82) 76,jE 84 (qL 83) 76,jE 85 (qI 1 77 84) 76,jE 86 (qL 85) 76,jE 87 (qM 12) 76,jE 88 (qM 13) 76,jE 89 (qI 1 87 88) 76,jE 90 (qL 89) 76,jE 91 (.bin .eql (.t 86) (.t 90)) 76,jB 92 (.pick (.t 76) (.t 91) (.c (.bool false)))]) (.cond (.t 92) (
  .seq (
  .region [jB 93 (qN 2 14),jB 94 (qN 5 2),jB 95 (qN 2 14),jB 96 (qN 2 16),⟨(some 97),(.call (.c (.fn (.func 65) [] [])) [(.t 94),(.t 95),(.t 96)]),none,[(93,(none,(.load (some 2) (.t 14))))],true⟩,jH 2 4 93,jH 2 5 97,jB 6 (qK true)]) .ret) .skip)))) (
  .region [jA 98 (qA 69 1),qm 69 98]))))))))) (
  .region [jA 99 (qA 60 1),qm 60 99]))))))) (
  .seq (
  .region [jA 100 (.build [(.int .i64 0),(.int .i64 0)] []),jA 101 (.build [(.int .i64 0),(.int .i64 0)] []),jG 2 4 100,jG 2 5 101,jA 6 (qK false)]) .ret))))))⟩
theorem c39:compFunc Tryd.prog GL [3] Tryd.f39=some l39:=by kernel_rfl
def l66:LFunc:=⟨157,[(.tmp 2)],
  (
  .seq (
  .region [jA 2 (.mv (.c .nils))]) (
  .seq (
  .region [qm 14 0,jA 15 (qS 14),jA 16 (.mkslice 1 8 [(.int .i64 0)] (.t 15) (.t 15)),qm 3 16]) (
  .seq (
  .region [qm 17 0,jA 18 (qS 17),jA 19 (.mkslice 1 8 [(.int .i64 0)] (.t 18) (.t 18)),qm 4 19]) (
  .seq (
  .region [qm 20 0,jA 21 (qS 20),jA 22 (.mkslice 1 8 [(.int .i64 0)] (.t 21) (.t 21)),qm 5 22]) (
  .seq (
  .region [qm 23 0,jA 24 (qS 23),jA 25 (.mkslice 1 8 [(.int .i64 0)] (.t 24) (.t 24)),qm 6 25]) (
  .seq (
  .region [jA 7 (.mv (.c .nils)),jA 8 (.mv (.c .nils))]) (
  .seq (
  .region [jA 9 (qC 0)]) (
  .seq (
  .seq (
  .region [qm 26 0,jA 27 (qS 26),jA 28 (qC 0)]) (.block 0 (.loop (
  .seq (
  .region [jA 29 (qB 28 27)]) (
  .seq (.cond (.t 29) .skip (.exit 0)) (
  .seq (.block 1 (
  .seq (
  .region [qm 30 28,qm 10 30]) (.scope (
  .seq (
  .seq (
  .region [qm 31 4,qm 32 10,jA 33 (qI 1 31 32),ql 34 33,jA 35 (.bin .eql (.t 34) (.c (.int .i64 0)))]) (.cond (.t 35) (
  .region [qm 36 8,qm 37 10,jA 38 (.bslice 1 1 [(.int .i64 0)] [(0,(1,(.t 37)))]),jA 39 (.append 1 8 (.t 36) (.t 38)),qm 8 39]) .skip)) (
  .seq .skip (.block 2 (.loop (
  .seq (
  .seq (
  .region [qm 40 8,jA 41 (qS 40),jA 42 (.bin .gtr (.t 41) (.c (.int .i64 0)))]) (.cond (.t 42) .skip (.exit 2))) (.block 3 (
  .seq (
  .region [qm 43 8,qm 44 8,jA 45 (qS 44),jA 46 (.bin .sub (.t 45) (.c (.int .i64 1))),jA 47 (qI 1 43 46),ql 48 47,qm 11 48]) (
  .seq (
  .seq (
  .region [qm 49 4,qm 50 11,jA 51 (qI 1 49 50),ql 52 51,jA 53 (.bin .eql (.t 52) (.c (.int .i64 0)))]) (.cond (.t 53) (
  .seq (
  .region [qm 54 9,jA 55 (qA 54 1),qm 9 55]) (
  .seq (
  .region [qm 56 4,qm 57 11,qm 58 5,qm 59 11,qm 60 9,qm 61 9,jA 62 (qI 1 56 57),jG 1 62 60,jA 63 (qI 1 58 59),jG 1 63 61]) (
  .region [qm 64 7,qm 65 11,jA 66 (.bslice 1 1 [(.int .i64 0)] [(0,(1,(.t 65)))]),jA 67 (.append 1 8 (.t 64) (.t 66)),qm 7 67]))) .skip)) (
  .seq (.block 4 (.loop (
  .seq (
  .seq (
  .region [jB 68 (qM 6),jB 69 (qM 11),jB 70 (qI 1 68 69),jB 71 (qL 70),jB 72 (qM 0),jB 73 (qM 11),jB 74 (qI 1 72 73),jB 75 (qL 74),jB 76 (qS 75),jB 77 (qB 71 76)]) (.cond (.t 77) .skip (.exit 4))) (.block 5 (
  .seq (
  .region [jB 78 (qM 0),jB 79 (qM 11),jB 80 (qI 1 78 79),jB 81 (qL 80),jB 82 (qM 6),jB 83 (qM 11),jB 84 (qI 1 82 83),jB 85 (qL 84),jB 86 (qI 1 81 85),jB 87 (qL 86),jB 12 (qM 87)]) (
  .seq (
  .seq (
  .region [qm 88 4,qm 89 12,jA 90 (qI 1 88 89),ql 91 90,jA 92 (.bin .eql (.t 91) (.c (.int .i64 0)))]) (.cond (.t 92) (
  .seq (
  .region [qm 93 8,qm 94 12,jA 95 (.bslice 1 1 [(.int .i64 0)] [(0,(1,(.t 94)))]),jA 96 (.append 1 8 (.t 93) (.t 95)),qm 8 96]) (.exit 3)) .skip)) (
  .seq (
  .seq (
  .region [qm 97 3,qm 98 12,jA 99 (qI 1 97 98),ql 100 99,jA 101 (.bin .eql (.t 100) (.c (.int .i64 0)))]) (.cond (.t 101) (
  .region [jB 102 (qM 5),jB 103 (qM 11),jB 104 (qM 5),jB 105 (qM 11),jB 106 (qI 1 104 105),jB 107 (qL 106),jB 108 (qM 5),jB 109 (qM 12),jB 110 (qI 1 108 109),jB 111 (qL 110),jB 112 (.minmax false [(.t 107),(.t 111)]),jB 113 (qI 1 102 103),jH 1 113 112]) .skip)) (
  .region [qm 114 6,qm 115 11,jA 116 (qI 1 114 115),ql 117 116,jA 118 (qA 117 1),jA 119 (qI 1 114 115),jG 1 119 118])))))))) (
  .seq (
  .region [qm 120 8,qm 121 8,jA 122 (qS 121),jA 123 (.bin .sub (.t 122) (.c (.int .i64 1))),jA 124 (.slice 1 (.t 120) none (some (.t 123))),qm 8 124]) (
  .seq (
  .seq (
  .region [jB 125 (qM 5),jB 126 (qM 11),jB 127 (qI 1 125 126),jB 128 (qL 127),jB 129 (qM 4),jB 130 (qM 11),jB 131 (qI 1 129 130),jB 132 (qL 131),jB 133 (qB 128 132)]) (.cond (.t 133) (.exit 3) .skip)) (
  .seq (
  .region [jA 13 (.mv (.c (.int .i64 (-1))))]) (.block 6 (.loop (
  .seq (
  .seq (
  .region [qm 134 13,qm 135 11,jA 136 (.bin .neq (.t 134) (.t 135))]) (.cond (.t 136) .skip (.exit 6))) (.block 7 (
  .seq (
  .region [qm 137 7,qm 138 7,jA 139 (qS 138),jA 140 (.bin .sub (.t 139) (.c (.int .i64 1))),jA 141 (qI 1 137 140),ql 142 141,qm 13 142]) (
  .seq (
  .region [qm 143 7,qm 144 7,jA 145 (qS 144),jA 146 (.bin .sub (.t 145) (.c (.int .i64 1))),jA 147 (.slice 1 (.t 143) none (some (.t 146))),qm 7 147]) (
  .region [qm 148 3,qm 149 13,qm 150 4,qm 151 11,jA 152 (qI 1 150 151),ql 153 152,jA 154 (qI 1 148 149),jG 1 154 153])))))))))))))))))))))) (
  .region [jA 155 (qA 28 1),qm 28 155]))))))) (
  .seq (
  .region [qm 156 3,qm 2 156]) .ret)))))))))⟩
theorem c66:compFunc Tryd.prog GL [] Tryd.f66=some l66:=by kernel_rfl
def l63:LFunc:=⟨36,[(.tmp 2)],
  (
  .seq (
  .region [jA 2 (.mv (.c .nils))]) (
  .seq (
  .region [jA 3 (qC 0)]) (
  .seq (
  .seq (
  .region [qm 9 0,jA 10 (qS 9),jA 11 (qC 0)]) (.block 0 (.loop (
  .seq (
  .region [jA 12 (qB 11 10)]) (
  .seq (.cond (.t 12) .skip (.exit 0)) (
  .seq (.block 1 (
  .seq (
  .region [jA 13 (qI 1 9 11),ql 14 13,qm 5 14]) (
  .seq (
  .region [qm 15 3,qm 16 5,jA 17 (qS 16),jA 18 (.bin .add (.t 15) (.t 17)),qm 3 18]) (
  .seq (
  .region [qm 19 3,jA 20 (.bin .lss (.t 19) (.c (.int .i64 0)))]) (.cond (.t 20) .bad .skip))))) (
  .region [jA 22 (qA 11 1),qm 11 22]))))))) (
  .seq (
  .region [qm 23 3,jA 24 (.call (.c (.fn (.func 78) [] [])) [(.c .nils),(.t 23)]),qm 6 24]) (
  .seq (
  .seq (
  .region [qm 25 0,jA 26 (qS 25),jA 27 (qC 0)]) (.block 2 (.loop (
  .seq (
  .region [jA 28 (qB 27 26)]) (
  .seq (.cond (.t 28) .skip (.exit 2)) (
  .seq (.block 3 (
  .seq (
  .region [jA 29 (qI 1 25 27),ql 30 29,qm 8 30]) (
  .region [qm 31 6,qm 32 8,jA 33 (.append 1 8 (.t 31) (.t 32)),qm 6 33]))) (
  .region [jA 34 (qA 27 1),qm 27 34]))))))) (
  .seq (
  .region [qm 35 6,qm 2 35]) .ret))))))⟩
theorem c63:compFunc Tryd.prog GL [] Tryd.f63=some l63:=by kernel_rfl
def l78:LFunc:=⟨27,[(.tmp 4)],
  (
  .seq (
  .region [jA 4 (.mv (.c .nils))]) (
  .seq (
  .seq (
  .region [qm 5 1,jA 6 (.bin .lss (.t 5) (.c (.int .i64 0)))]) (.cond (.t 6) .bad .skip)) (
  .seq (
  .seq (
  .region [qm 8 1,qm 9 0,jA 10 (.capZ (.t 9)),qm 11 0,jA 12 (qS 11),jA 13 (.bin .sub (.t 10) (.t 12)),jA 14 (.bin .sub (.t 8) (.t 13)),qm 1 14]) (
  .seq (
  .region [qm 15 1,jA 16 (.bin .gtr (.t 15) (.c (.int .i64 0)))]) (.cond (.t 16) (
  .region [qm 17 0,qm 18 0,jA 19 (.capZ (.t 18)),jA 20 (.slice 1 (.t 17) none (some (.t 19))),qm 21 1,jA 22 (.appz 1 8 [(.int .i64 0)] (.t 20) (.t 21)),qm 23 0,jA 24 (qS 23),jA 25 (.slice 1 (.t 22) none (some (.t 24))),qm 0 25]) .skip))) (
  .seq (
  .region [qm 26 0,qm 4 26]) .ret))))⟩
theorem c78:compFunc Tryd.prog GL [] Tryd.f78=some l78:=by kernel_rfl
end Go.Proofs.YtohldpfjnllkdaaDoor
