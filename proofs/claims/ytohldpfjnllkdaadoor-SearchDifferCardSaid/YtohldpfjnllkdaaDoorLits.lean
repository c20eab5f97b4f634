/- Plain forms of functions, by program. -/
import Derived.Test.YtohldpfjnllkdaaDoorProg
import Derived.Test.YtohldpfjnllkdaaDoorPvComp
import Derived.Test.YtohldpfjnllkdaaDoorGl
import Derived.KernelRfl
set_option linter.unusedSimpArgs false
set_option linter.unusedVariables false
namespace Go.Proofs.YtohldpfjnllkdaaDoor
open Go Go.Pv
set_option maxRecDepth 100000
def l10:LFunc:=⟨82,[(.cell 2 (some 2)),(.tmp 3)],
  (
  .seq (
  .region [jA 1 (qO 0),jA 2 (.alloc [.nils, .nils]),jA 3 (qK false)]) (.scope (
  .seq (
  .seq (
  .region [jA 12 (qN 3 1),jA 13 (qG 24 12),jA 14 (.un .not (.t 13))]) (.cond (.t 14) (
  .seq (
  .region [jA 15 (.build [.nils, .nils] []),jG 2 2 15,jA 3 (qK false)]) .ret) .skip)) (
  .seq (
  .region [jA 16 (qN 3 1),jA 17 (qG 27 16),jA 4 (.alloc [.nils]),jG 1 4 17]) (
  .seq (
  .region [jA 18 (.mkfn (.func 28) [] [(.t 1)]),jA 5 (.alloc [.nilf]),jG 1 5 18]) (
  .seq (
  .region [jA 6 (.alloc [.nils, .nils])]) (
  .seq .skip (
  .seq (
  .seq (
  .region [jA 19 (qN 3 1),jA 20 (qF 1 1),ql 21 20,jA 22 (.call (.c (.fn (.func 29) [] [])) [(.t 19),(.t 21)])]) (.block 0 (.rangeFunc (.t 22) [23] (
  .region [jA 7 (.alloc [(.int .i64 0),(.int .i64 0),(.int .i64 0)]),jG 3 7 23]) (.block 1 (
  .seq (
  .region [jA 24 (qF 2 1),ql 25 24,jA 26 (qF 0 7),ql 27 26,jA 28 (qI 1 25 27),ql 29 28,jA 30 (qS 29),jA 31 (qC 0)]) (.block 2 (.loop (
  .seq (
  .region [jA 32 (qB 31 30)]) (
  .seq (.cond (.t 32) .skip (.exit 2)) (
  .seq (.block 3 (
  .seq (
  .region [qm 33 31,jA 34 (qI 1 29 31),ql 35 34,qm 8 33,qm 9 35]) (
  .seq (
  .region [qm 36 9,jA 37 (qS 36),jA 38 (qC 0)]) (.block 4 (.loop (
  .seq (
  .region [jA 39 (qB 38 37)]) (
  .seq (.cond (.t 39) .skip (.exit 4)) (
  .seq (.block 5 (
  .seq (
  .region [jA 40 (qI 2 36 38),jA 41 (qN 2 40),jA 11 (.alloc [(.int .i64 0),(.bool false)]),jG 2 11 41]) (
  .seq (
  .region [jB 42 (qF 1 11),jB 43 (qL 42),jB 44 (qM 43),jE 45 (qL 4) 44,jE 46 (qF 0 11) 44,jE 47 (qL 46) 44,jE 48 (qI 1 45 47) 44,jE 49 (qL 48) 44,jE 50 (qL 4) 44,jE 51 (qF 0 7) 44,jE 52 (qL 51) 44,jE 53 (qI 1 50 52) 44,jE 54 (qL 53) 44,jE 55 (.bin .eql (.t 49) (.t 54)) 44,jB 56 (.pick (.t 44) (.t 55) (.c (.bool false)))]) (.cond (.t 56) (
  .seq (
  .region [ql 57 5,jA 58 (qF 1 1),ql 59 58,jA 60 (qF 0 7),ql 61 60,jA 62 (.call (.t 57) [(.t 59),(.t 61)]),jA 63 (qF 0 6),jG 1 63 62]) (
  .seq (
  .region [qm 64 8,jA 65 (.bslice 1 1 [(.int .i64 0)] [(0,(1,(.t 64)))]),ql 66 5,jA 67 (qF 0 11),ql 68 67,jA 69 (.bslice 1 1 [(.int .i64 0)] [(0,(1,(.t 68)))]),jA 70 (qF 0 7),ql 71 70,jA 72 (.call (.t 66) [(.t 69),(.t 71)]),jA 73 (.append 1 8 (.t 65) (.t 72)),jA 74 (qF 1 6),jG 1 74 73]) (.exit 0))) .skip)))) (
  .region [jA 75 (qA 38 1),qm 38 75]))))))))) (
  .region [jA 76 (qA 31 1),qm 31 76]))))))))))) (
  .seq (
  .region [jB 77 (qN 2 6),jB 78 (qF 1 6),jB 79 (qL 78),jB 80 (qS 79),jB 81 (.bin .gtr (.t 80) (.c (.int .i64 0))),⟨none,(.store 2 (.t 2) (.t 77)),none,[(79,(none,(.load none (.t 78))))],true⟩,jB 3 (qM 81)]) .ret)))))))))⟩
theorem c10:compFunc Tryd.prog GL [] Tryd.f10=some l10:=by kernel_rfl
def l28:LFunc:=⟨48,[(.tmp 5)],
  (
  .seq (
  .region [jA 4 (qO 1),jA 5 (.mv (.c .nils))]) (
  .seq (
  .region [jA 10 (qF 2 2),ql 11 10,jA 12 (qS 11),jA 13 (.mkslice 3 24 [(.int .i64 0),(.int .i64 0),(.int .i64 0)] (.t 12) (.t 12)),jA 6 (.alloc [.nils]),jG 1 6 13]) (
  .seq (
  .seq (
  .region [jA 14 (qN 3 2),qm 15 0,jA 16 (.call (.c (.fn (.func 29) [] [])) [(.t 14),(.t 15)])]) (.block 0 (.rangeFunc (.t 16) [17] (
  .region [jA 7 (.alloc [(.int .i64 0),(.int .i64 0),(.int .i64 0)]),jG 3 7 17]) (.block 1 (
  .seq (
  .region [ql 18 6,jA 19 (qF 0 7),ql 20 19,jA 21 (qN 3 7),jA 22 (qI 3 18 20),jG 3 22 21]) (
  .seq (
  .region [jA 23 (qF 0 7),ql 24 23,ql 25 4,jA 26 (.bin .eql (.t 24) (.t 25))]) (.cond (.t 26) (.exit 0) .skip))))))) (
  .seq (
  .region [jA 8 (.mv (.c .nils))]) (
  .seq (
  .seq (
  .region [ql 27 6,ql 28 4,jA 29 (qI 3 27 28),jA 30 (qN 3 29),jA 9 (.alloc [(.int .i64 0),(.int .i64 0),(.int .i64 0)]),jG 3 9 30]) (.block 2 (.loop (
  .seq (
  .seq (
  .region [jA 31 (qF 1 9),ql 32 31,jA 33 (.bin .geq (.t 32) (.c (.int .i64 0)))]) (.cond (.t 33) .skip (.exit 2))) (
  .seq (.block 3 (
  .region [qm 39 8,jA 40 (qF 2 9),ql 41 40,jA 42 (.bslice 1 1 [(.int .i64 0)] [(0,(1,(.t 41)))]),jA 43 (.append 1 8 (.t 39) (.t 42)),qm 8 43])) (
  .seq (
  .seq (
  .region [jA 44 (qN 3 9)]) (
  .region [jA 9 (.alloc [(.int .i64 0),(.int .i64 0),(.int .i64 0)]),jG 3 9 44])) (
  .region [ql 34 6,jA 35 (qF 1 9),ql 36 35,jA 37 (qI 3 34 36),jA 38 (qN 3 37),jG 3 9 38]))))))) (
  .seq (
  .region [qm 45 8,jA 46 (qG 30 45)]) (
  .seq (
  .region [qm 47 8,qm 5 47]) .ret)))))))⟩
theorem c28:compFunc Tryd.prog GL [] Tryd.f28=some l28:=by kernel_rfl
def l29:LFunc:=⟨6,[(.tmp 4)],
  (
  .seq (
  .region [jA 2 (qO 0),jA 3 (qO 1),jA 4 (.mv (.c .nilf))]) (
  .seq (
  .region [jA 5 (.mkfn (.func 50) [] [(.t 2),(.t 3)]),qm 4 5]) .ret))⟩
theorem c29:compFunc Tryd.prog GL [] Tryd.f29=some l29:=by kernel_rfl
def l50:LFunc:=⟨75,[],
  (
  .seq (
  .region [jA 15 (qF 2 1),ql 16 15,jA 17 (qS 16),jA 18 (.mkslice 1 1 [(.bool false)] (.t 17) (.t 17)),jA 4 (.alloc [.nils]),jG 1 4 18]) (
  .seq (
  .region [jA 5 (.alloc [.nils])]) (
  .seq (
  .region [jA 19 (.mkfn (.func 51) [] [(.t 4),(.t 5)]),qm 6 19]) (
  .seq (
  .seq (
  .region [ql 20 2,jA 21 (qS 20),jA 22 (qC 0)]) (.block 0 (.loop (
  .seq (
  .region [jA 23 (qB 22 21)]) (
  .seq (.cond (.t 23) .skip (.exit 0)) (
  .seq (.block 1 (
  .seq (
  .region [jA 24 (qI 1 20 22),ql 25 24,qm 8 25]) (
  .region [qm 26 6,qm 27 8,jA 28 (.build [(.int .i64 0),(.int .i64 0),(.int .i64 0)] [(0,(1,(.t 27))),(1,(1,(.c (.int .i64 (-1)))))]),jA 29 (.call (.t 26) [(.t 28)])]))) (
  .region [jA 30 (qA 22 1),qm 22 30]))))))) (
  .seq (
  .region [jA 9 (qC 0)]) (.block 2 (.loop (
  .seq (
  .seq (
  .region [qm 31 9,ql 32 5,jA 33 (qS 32),jA 34 (qB 31 33)]) (.cond (.t 34) .skip (.exit 2))) (
  .seq (.block 3 (
  .seq (
  .region [ql 37 5,qm 38 9,jA 39 (qI 3 37 38),jA 40 (qF 0 39),ql 41 40,qm 10 41]) (
  .seq (
  .seq (
  .region [qm 42 0,ql 43 5,qm 44 9,jA 45 (qI 3 43 44),jA 46 (qN 3 45),jA 47 (.call (.t 42) [(.t 46)]),jA 48 (.un .not (.t 47))]) (.cond (.t 48) .ret .skip)) (
  .seq (
  .region [jA 49 (qF 2 1),ql 50 49,qm 51 10,jA 52 (qI 1 50 51),ql 53 52,jA 54 (qS 53),jA 55 (qC 0)]) (.block 4 (.loop (
  .seq (
  .region [jA 56 (qB 55 54)]) (
  .seq (.cond (.t 56) .skip (.exit 4)) (
  .seq (.block 5 (
  .seq (
  .region [qm 57 55,jA 58 (qI 1 53 55),ql 59 58,qm 11 57,qm 12 59]) (
  .seq (
  .region [qm 60 12,jA 61 (qS 60),jA 62 (qC 0)]) (.block 6 (.loop (
  .seq (
  .region [jA 63 (qB 62 61)]) (
  .seq (.cond (.t 63) .skip (.exit 6)) (
  .seq (.block 7 (
  .seq (
  .region [jA 64 (qI 2 60 62),jA 65 (qN 2 64),jA 14 (.alloc [(.int .i64 0),(.bool false)]),jG 2 14 65]) (
  .region [qm 66 6,jA 67 (qF 0 14),ql 68 67,qm 69 10,qm 70 11,jA 71 (.build [(.int .i64 0),(.int .i64 0),(.int .i64 0)] [(0,(1,(.t 68))),(1,(1,(.t 69))),(2,(1,(.t 70)))]),jA 72 (.call (.t 66) [(.t 71)])]))) (
  .region [jA 73 (qA 62 1),qm 62 73]))))))))) (
  .region [jA 74 (qA 55 1),qm 55 74])))))))))) (
  .region [qm 35 9,jA 36 (qA 35 1),qm 9 36]))))))))))⟩
theorem c50:compFunc Tryd.prog GL [] Tryd.f50=some l50:=by kernel_rfl
def l51:LFunc:=⟨18,[],
  (
  .seq (
  .region [jA 3 (qO 0)]) (
  .seq (
  .region [ql 4 1,jA 5 (qF 0 3),ql 6 5,jA 7 (qI 1 4 6),ql 8 7,jA 9 (.un .not (.t 8))]) (.cond (.t 9) (
  .seq (
  .region [ql 10 1,jA 11 (qF 0 3),ql 12 11,jA 13 (qI 1 10 12),⟨none,(.store 1 (.t 13) (.c (.bool true))),none,[],false⟩]) (
  .region [ql 14 2,jA 15 (qN 3 3),jA 16 (.bslice 3 1 [(.int .i64 0),(.int .i64 0),(.int .i64 0)] [(0,(3,(.t 15)))]),jA 17 (.append 3 24 (.t 14) (.t 16)),jG 1 2 17])) .skip)))⟩
theorem c51:compFunc Tryd.prog GL [] Tryd.f51=some l51:=by kernel_rfl
def l30:LFunc:=⟨28,[],
  (
  .seq (
  .region [qm 4 0,jA 5 (qS 4),jA 6 (.bin .sub (.t 5) (.c (.int .i64 1))),jA 2 (qC 0),qm 3 6]) (.block 0 (.loop (
  .seq (
  .seq (
  .region [qm 7 2,qm 8 3,jA 9 (qB 7 8)]) (.cond (.t 9) .skip (.exit 0))) (
  .seq (.block 1 (
  .region [jB 14 (qM 0),jB 15 (qM 2),jB 16 (qM 0),jB 17 (qM 3),jB 18 (qM 0),jB 19 (qM 3),jB 20 (qI 1 18 19),jB 21 (qL 20),jB 22 (qM 0),jB 23 (qM 2),jB 24 (qI 1 22 23),jB 25 (qL 24),jB 26 (qI 1 14 15),jH 1 26 21,jB 27 (qI 1 16 17),jH 1 27 25])) (
  .region [qm 10 2,jA 11 (qA 10 1),qm 12 3,jA 13 (.bin .sub (.t 12) (.c (.int .i64 1))),qm 2 11,qm 3 13]))))))⟩
theorem c30:compFunc Tryd.prog GL [] Tryd.f30=some l30:=by kernel_rfl
def l27:LFunc:=⟨39,[(.tmp 2)],
  (
  .seq (
  .region [jA 1 (qO 0),jA 2 (.mv (.c .nils))]) (
  .seq (
  .region [jA 10 (qF 2 1),ql 11 10,jA 12 (qS 11),jA 13 (.mkslice 1 8 [(.int .i64 0)] (.t 12) (.t 12)),jA 3 (.alloc [.nils]),jG 1 3 13]) (
  .seq (
  .region [jA 14 (qF 2 1),ql 15 14,jA 16 (qS 15),jA 17 (.mkslice 1 8 [(.int .i64 0)] (.t 16) (.t 16)),jA 4 (.alloc [.nils]),jG 1 4 17]) (
  .seq (
  .region [jA 18 (qF 2 1),ql 19 18,jA 20 (qS 19),jA 21 (.mkslice 1 8 [(.int .i64 0)] (.t 20) (.t 20)),jA 5 (.alloc [.nils]),jG 1 5 21]) (
  .seq (
  .region [jA 6 (.alloc [.nils])]) (
  .seq (
  .region [jA 7 (.alloc [(.int .i64 0)]),⟨none,(.store 1 (.t 7) (.c (.int .i64 0))),none,[],false⟩]) (
  .seq (
  .region [jA 8 (.alloc [.nilf])]) (
  .seq (
  .region [jA 22 (.mkfn (.func 49) [] [(.t 7),(.t 4),(.t 5),(.t 6),(.t 1),(.t 8),(.t 3)]),jG 1 8 22]) (
  .seq (
  .seq (
  .region [jA 23 (qF 2 1),ql 24 23,jA 25 (qS 24),jA 26 (qC 0)]) (.block 0 (.loop (
  .seq (
  .region [jA 27 (qB 26 25)]) (
  .seq (.cond (.t 27) .skip (.exit 0)) (
  .seq (.block 1 (
  .seq (
  .region [qm 28 26,qm 9 28]) (
  .seq (
  .region [ql 29 4,qm 30 9,jA 31 (qI 1 29 30),ql 32 31,jA 33 (.bin .eql (.t 32) (.c (.int .i64 0)))]) (.cond (.t 33) (
  .region [ql 34 8,qm 35 9,jA 36 (.call (.t 34) [(.t 35)])]) .skip)))) (
  .region [jA 37 (qA 26 1),qm 26 37]))))))) (
  .seq (
  .region [ql 38 3,qm 2 38]) .ret))))))))))⟩
theorem c27:compFunc Tryd.prog GL [] Tryd.f27=some l27:=by kernel_rfl
def l49:LFunc:=⟨105,[],
  (
  .seq (
  .region [ql 14 1,jA 15 (qA 14 1),jG 1 1 15]) (
  .seq (
  .region [jB 16 (qL 2),jB 17 (qM 0),jB 18 (qL 3),jB 19 (qM 0),jB 20 (qL 1),jB 21 (qL 1),jB 22 (qI 1 16 17),⟨none,(.store 1 (.t 22) (.t 20)),none,[(18,(none,(.load none (.t 3)))),(21,(none,(.load none (.t 1))))],true⟩,jB 23 (qI 1 18 19),jH 1 23 21]) (
  .seq (
  .region [ql 24 4,qm 25 0,jA 26 (.bslice 1 1 [(.int .i64 0)] [(0,(1,(.t 25)))]),jA 27 (.append 1 8 (.t 24) (.t 26)),jG 1 4 27]) (
  .seq (
  .seq (
  .region [jA 28 (qF 2 5),ql 29 28,qm 30 0,jA 31 (qI 1 29 30),ql 32 31,jA 33 (qS 32),jA 34 (qC 0)]) (.block 0 (.loop (
  .seq (
  .region [jA 35 (qB 34 33)]) (
  .seq (.cond (.t 35) .skip (.exit 0)) (
  .seq (.block 1 (
  .seq (
  .region [jA 36 (qI 1 32 34),ql 37 36,qm 10 37]) (
  .seq (
  .region [qm 38 10,jA 39 (qS 38),jA 40 (qC 0)]) (.block 2 (.loop (
  .seq (
  .region [jA 41 (qB 40 39)]) (
  .seq (.cond (.t 41) .skip (.exit 2)) (
  .seq (.block 3 (
  .seq (
  .region [jA 42 (qI 2 38 40),jA 43 (qN 2 42),jA 12 (.alloc [(.int .i64 0),(.bool false)]),jG 2 12 43]) (
  .seq (
  .seq (
  .region [ql 44 2,jA 45 (qF 0 12),ql 46 45,jA 47 (qI 1 44 46),ql 48 47,jA 49 (.bin .eql (.t 48) (.c (.int .i64 0)))]) (.cond (.t 49) (
  .region [ql 50 6,jA 51 (qF 0 12),ql 52 51,jA 53 (.call (.t 50) [(.t 52)])]) .skip)) (
  .seq (
  .region [ql 54 7,jA 55 (qF 0 12),ql 56 55,jA 57 (qI 1 54 56),ql 58 57,jA 59 (.bin .eql (.t 58) (.c (.int .i64 0)))]) (.cond (.t 59) (
  .region [jB 60 (qL 3),jB 61 (qM 0),jB 62 (qL 3),jB 63 (qM 0),jB 64 (qI 1 62 63),jB 65 (qL 64),jB 66 (qL 3),jB 67 (qF 0 12),jB 68 (qL 67),jB 69 (qI 1 66 68),jB 70 (qL 69),jB 71 (.minmax false [(.t 65),(.t 70)]),jB 72 (qI 1 60 61),jH 1 72 71]) .skip))))) (
  .region [jA 73 (qA 40 1),qm 40 73]))))))))) (
  .region [jA 74 (qA 34 1),qm 34 74]))))))) (
  .seq (
  .seq (
  .region [jB 75 (qL 3),jB 76 (qM 0),jB 77 (qI 1 75 76),jB 78 (qL 77),jB 79 (qL 2),jB 80 (qM 0),jB 81 (qI 1 79 80),jB 82 (qL 81),jB 83 (qB 78 82)]) (.cond (.t 83) .ret .skip)) (
  .seq (
  .region [jA 13 (.mv (.c (.int .i64 (-1))))]) (.block 4 (.loop (
  .seq (
  .seq (
  .region [qm 84 13,qm 85 0,jA 86 (.bin .neq (.t 84) (.t 85))]) (.cond (.t 86) .skip (.exit 4))) (.block 5 (
  .seq (
  .region [ql 87 4,ql 88 4,jA 89 (qS 88),jA 90 (.bin .sub (.t 89) (.c (.int .i64 1))),jA 91 (qI 1 87 90),ql 92 91,qm 13 92]) (
  .seq (
  .region [ql 93 4,ql 94 4,jA 95 (qS 94),jA 96 (.bin .sub (.t 95) (.c (.int .i64 1))),jA 97 (.slice 1 (.t 93) none (some (.t 96))),jG 1 4 97]) (
  .region [jB 98 (qL 7),jB 99 (qM 13),jB 100 (qL 2),jB 101 (qM 0),jB 102 (qI 1 100 101),jB 103 (qL 102),jB 104 (qI 1 98 99),jH 1 104 103])))))))))))))⟩
theorem c49:compFunc Tryd.prog GL [] Tryd.f49=some l49:=by kernel_rfl
end Go.Proofs.YtohldpfjnllkdaaDoor
