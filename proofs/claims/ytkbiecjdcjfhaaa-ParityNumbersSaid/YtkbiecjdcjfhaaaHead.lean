/- The law package's own look at its examples, run: each closed call on known values, and the head's answer at last. -/
import Derived.Test.YtkbiecjdcjfhaaaProg
import Derived.Test.YtkbiecjdcjfhaaaPvCall
import Derived.Test.YtkbiecjdcjfhaaaGl
set_option linter.unusedSimpArgs false
set_option linter.unusedVariables false
namespace Go.Proofs.Ytkbiecjdcjfhaaa
open Go Go.Pv
set_option maxRecDepth 100000
def refs:List (Nat × List Nat):=[(26,[3]),(118,[2]),(21,[11]),(22,[1]),(77,[1]),(67,[1]),(84,[2])]
abbrev GO:Globs:=GL
noncomputable def T0:Nat→Option LFunc:=tabOf Try.prog GO refs
theorem tab0:Tab Try.prog GO T0 []:=tabOf_tab (by decide +kernel) (by decide +kernel)
abbrev J0:PTab:=[]
def a1:List LV:=[]
def r1:LV:=.agg [.int .i64 2, .simm [.int .i64 0] 1, .simm [.simm [.simm [.int .i64 0, .bool false] 1, .simm [.int .i64 0, .bool false, .int .i64 1, .bool false] 2] 2, .simm [.nils, .simm [.int .i64 1, .bool true] 1] 2] 2]
theorem p1:pureB T0 J0 20000 13 a1 r1=true:=by decide +kernel
abbrev J1:PTab:=(13,a1,r1)::J0
theorem tab1:Tab Try.prog GO T0 J1:=Tab.cons tab0 (pure_ev tab0 p1)
def a2:List LV:=[.agg [.int .i64 2, .simm [.int .i64 0] 1, .simm [.simm [.simm [.int .i64 0, .bool false] 1, .simm [.int .i64 0, .bool false, .int .i64 1, .bool false] 2] 2, .simm [.nils, .simm [.int .i64 1, .bool true] 1] 2] 2]]
def r2:LV:=.bool true
theorem p2:pureB T0 J1 20000 15 a2 r2=true:=by decide +kernel
abbrev J2:PTab:=(15,a2,r2)::J1
theorem tab2:Tab Try.prog GO T0 J2:=Tab.cons tab1 (pure_ev tab1 p2)
def a3:List LV:=[.agg [.int .i64 2, .simm [.int .i64 0] 1, .simm [.simm [.simm [.int .i64 0, .bool false] 1, .simm [.int .i64 0, .bool false, .int .i64 1, .bool false] 2] 2, .simm [.nils, .simm [.int .i64 1, .bool true] 1] 2] 2]]
def r3:LV:=.simm [.int .i64 1, .int .i64 (-1), .simm [.int .i64 0] 1] 1
theorem p3:pureB T0 J2 20000 17 a3 r3=true:=by decide +kernel
abbrev J3:PTab:=(17,a3,r3)::J2
theorem tab3:Tab Try.prog GO T0 J3:=Tab.cons tab2 (pure_ev tab2 p3)
def a4:List LV:=[.int .i64 4]
def r4:LV:=.simm [.int .i64 1, .int .i64 2, .int .i64 3, .int .i64 4] 4
theorem p4:pureB T0 J3 20000 18 a4 r4=true:=by decide +kernel
abbrev J4:PTab:=(18,a4,r4)::J3
theorem tab4:Tab Try.prog GO T0 J4:=Tab.cons tab3 (pure_ev tab3 p4)
def a5:List LV:=[.agg [.int .i64 2, .simm [.int .i64 0] 1, .simm [.simm [.simm [.int .i64 0, .bool false] 1, .simm [.int .i64 0, .bool false, .int .i64 1, .bool false] 2] 2, .simm [.nils, .simm [.int .i64 1, .bool true] 1] 2] 2], .simm [.int .i64 1, .int .i64 (-1), .simm [.int .i64 0] 1] 1, .int .i64 0]
def r5:LV:=.tup [.simm [.int .i64 1, .int .i64 (-1), .simm [.int .i64 0] 1] 1, .agg [.nils, .nils]]
theorem p5:pureB T0 J4 20000 51 a5 r5=true:=by decide +kernel
abbrev J5:PTab:=(51,a5,r5)::J4
theorem tab5:Tab Try.prog GO T0 J5:=Tab.cons tab4 (pure_ev tab4 p5)
def a6:List LV:=[.agg [.int .i64 2, .simm [.int .i64 0] 1, .simm [.simm [.simm [.int .i64 0, .bool false] 1, .simm [.int .i64 0, .bool false, .int .i64 1, .bool false] 2] 2, .simm [.nils, .simm [.int .i64 1, .bool true] 1] 2] 2], .simm [.int .i64 1, .int .i64 (-1), .simm [.int .i64 0] 1] 1, .int .i64 1]
def r6:LV:=.tup [.simm [.int .i64 1, .int .i64 (-1), .simm [.int .i64 0, .int .i64 1] 2] 1, .agg [.nils, .nils]]
theorem p6:pureB T0 J5 20000 51 a6 r6=true:=by decide +kernel
abbrev J6:PTab:=(51,a6,r6)::J5
theorem tab6:Tab Try.prog GO T0 J6:=Tab.cons tab5 (pure_ev tab5 p6)
def a7:List LV:=[.agg [.int .i64 2, .simm [.int .i64 0] 1, .simm [.simm [.simm [.int .i64 0, .bool false] 1, .simm [.int .i64 0, .bool false, .int .i64 1, .bool false] 2] 2, .simm [.nils, .simm [.int .i64 1, .bool true] 1] 2] 2], .simm [.int .i64 1, .int .i64 (-1), .simm [.int .i64 0, .int .i64 1] 2] 1, .int .i64 0]
def r7:LV:=.tup [.simm [.int .i64 1, .int .i64 (-1), .simm [.int .i64 0] 1] 1, .agg [.nils, .nils]]
theorem p7:pureB T0 J6 20000 51 a7 r7=true:=by decide +kernel
abbrev J7:PTab:=(51,a7,r7)::J6
theorem tab7:Tab Try.prog GO T0 J7:=Tab.cons tab6 (pure_ev tab6 p7)
def a8:List LV:=[.agg [.int .i64 2, .simm [.int .i64 0] 1, .simm [.simm [.simm [.int .i64 0, .bool false] 1, .simm [.int .i64 0, .bool false, .int .i64 1, .bool false] 2] 2, .simm [.nils, .simm [.int .i64 1, .bool true] 1] 2] 2], .simm [.int .i64 1, .int .i64 (-1), .simm [.int .i64 0, .int .i64 1] 2] 1, .int .i64 1]
def r8:LV:=.tup [.simm [.int .i64 1, .int .i64 (-1), .simm [.int .i64 0, .int .i64 1] 2, .int .i64 2, .int .i64 0, .simm [.int .i64 1] 1] 2, .agg [.nils, .nils]]
theorem p8:pureB T0 J7 20000 51 a8 r8=true:=by decide +kernel
abbrev J8:PTab:=(51,a8,r8)::J7
theorem tab8:Tab Try.prog GO T0 J8:=Tab.cons tab7 (pure_ev tab7 p8)
def a9:List LV:=[.agg [.int .i64 2, .simm [.int .i64 0] 1, .simm [.simm [.simm [.int .i64 0, .bool false] 1, .simm [.int .i64 0, .bool false, .int .i64 1, .bool false] 2] 2, .simm [.nils, .simm [.int .i64 1, .bool true] 1] 2] 2], .simm [.int .i64 1, .int .i64 (-1), .simm [.int .i64 0, .int .i64 1] 2, .int .i64 2, .int .i64 0, .simm [.int .i64 1] 1] 2, .int .i64 0]
def r9:LV:=.tup [.simm [.int .i64 1, .int .i64 (-1), .simm [.int .i64 0] 1] 1, .agg [.nils, .simm [.int .i64 2] 1]]
theorem p9:pureB T0 J8 20000 51 a9 r9=true:=by decide +kernel
abbrev J9:PTab:=(51,a9,r9)::J8
theorem tab9:Tab Try.prog GO T0 J9:=Tab.cons tab8 (pure_ev tab8 p9)
def a10:List LV:=[.agg [.int .i64 2, .simm [.int .i64 0] 1, .simm [.simm [.simm [.int .i64 0, .bool false] 1, .simm [.int .i64 0, .bool false, .int .i64 1, .bool false] 2] 2, .simm [.nils, .simm [.int .i64 1, .bool true] 1] 2] 2], .simm [.int .i64 1, .int .i64 (-1), .simm [.int .i64 0, .int .i64 1] 2, .int .i64 2, .int .i64 0, .simm [.int .i64 1] 1] 2, .int .i64 1]
def r10:LV:=.tup [.simm [.int .i64 1, .int .i64 (-1), .simm [.int .i64 0, .int .i64 1] 2, .int .i64 2, .int .i64 0, .simm [.int .i64 1] 1] 2, .agg [.simm [.int .i64 2] 1, .nils]]
theorem p10:pureB T0 J9 20000 51 a10 r10=true:=by decide +kernel
abbrev J10:PTab:=(51,a10,r10)::J9
theorem tab10:Tab Try.prog GO T0 J10:=Tab.cons tab9 (pure_ev tab9 p10)
def a11:List LV:=[.agg [.int .i64 2, .simm [.int .i64 0] 1, .simm [.simm [.simm [.int .i64 0, .bool false] 1, .simm [.int .i64 0, .bool false, .int .i64 1, .bool false] 2] 2, .simm [.nils, .simm [.int .i64 1, .bool true] 1] 2] 2], .int .i64 150]
def r11:LV:=.tup [.agg [.int .i64 2, .int .i64 0, .simm [.simm [.int .i64 0, .int .i64 1] 2, .simm [.int .i64 0, .int .i64 2] 2, .simm [.int .i64 3, .int .i64 2] 2, .simm [.int .i64 3, .int .i64 4] 2, .simm [.int .i64 3, .int .i64 5] 2, .simm [.int .i64 3, .int .i64 5] 2] 6, .simm [.simm [.int .i64 9, .int .i64 9] 2, .simm [.int .i64 9, .int .i64 9] 2, .simm [.int .i64 3, .int .i64 4] 2, .simm [.int .i64 9, .int .i64 9] 2, .simm [.int .i64 9, .int .i64 9] 2, .simm [.int .i64 7, .int .i64 8] 2] 6], .int .i64 0]
theorem p11:pureB T0 J10 20000 7 a11 r11=true:=by decide +kernel
abbrev J11:PTab:=(7,a11,r11)::J10
theorem tab11:Tab Try.prog GO T0 J11:=Tab.cons tab10 (pure_ev tab10 p11)
def a12:List LV:=[.agg [.int .i64 2, .int .i64 0, .simm [.simm [.int .i64 0, .int .i64 1] 2, .simm [.int .i64 0, .int .i64 2] 2, .simm [.int .i64 3, .int .i64 2] 2, .simm [.int .i64 3, .int .i64 4] 2, .simm [.int .i64 3, .int .i64 5] 2, .simm [.int .i64 3, .int .i64 5] 2] 6, .simm [.simm [.int .i64 9, .int .i64 9] 2, .simm [.int .i64 9, .int .i64 9] 2, .simm [.int .i64 3, .int .i64 4] 2, .simm [.int .i64 9, .int .i64 9] 2, .simm [.int .i64 9, .int .i64 9] 2, .simm [.int .i64 7, .int .i64 8] 2] 6]]
def r12:LV:=.bool true
theorem p12:pureB T0 J11 20000 8 a12 r12=true:=by decide +kernel
abbrev J12:PTab:=(8,a12,r12)::J11
theorem tab12:Tab Try.prog GO T0 J12:=Tab.cons tab11 (pure_ev tab11 p12)
def a13:List LV:=[.agg [.int .i64 2, .int .i64 0, .simm [.simm [.int .i64 0, .int .i64 1] 2, .simm [.int .i64 0, .int .i64 2] 2, .simm [.int .i64 3, .int .i64 2] 2, .simm [.int .i64 3, .int .i64 4] 2, .simm [.int .i64 3, .int .i64 5] 2, .simm [.int .i64 3, .int .i64 5] 2] 6, .simm [.simm [.int .i64 9, .int .i64 9] 2, .simm [.int .i64 9, .int .i64 9] 2, .simm [.int .i64 3, .int .i64 4] 2, .simm [.int .i64 9, .int .i64 9] 2, .simm [.int .i64 9, .int .i64 9] 2, .simm [.int .i64 7, .int .i64 8] 2] 6]]
def r13:LV:=.agg [.int .i64 2, .int .i64 0, .simm [.simm [.int .i64 0, .int .i64 1] 2, .simm [.int .i64 0, .int .i64 2] 2, .simm [.int .i64 3, .int .i64 2] 2, .simm [.int .i64 3, .int .i64 4] 2, .simm [.int .i64 3, .int .i64 5] 2, .simm [.int .i64 3, .int .i64 5] 2] 6, .simm [.simm [.int .i64 10, .int .i64 10] 2, .simm [.int .i64 10, .int .i64 10] 2, .simm [.int .i64 4, .int .i64 5] 2, .simm [.int .i64 10, .int .i64 10] 2, .simm [.int .i64 10, .int .i64 10] 2, .simm [.int .i64 8, .int .i64 9] 2] 6]
theorem p13:pureB T0 J12 20000 14 a13 r13=true:=by decide +kernel
abbrev J13:PTab:=(14,a13,r13)::J12
theorem tab13:Tab Try.prog GO T0 J13:=Tab.cons tab12 (pure_ev tab12 p13)
def a14:List LV:=[.agg [.int .i64 2, .simm [.int .i64 0] 1, .simm [.simm [.simm [.int .i64 0, .bool false] 1, .simm [.int .i64 0, .bool false, .int .i64 1, .bool false] 2] 2, .simm [.nils, .simm [.int .i64 1, .bool true] 1] 2] 2], .int .i64 1]
def r14:LV:=.tup [.agg [.int .i64 0, .int .i64 0, .nils, .nils], .int .i64 2]
theorem p14:pureB T0 J13 20000 7 a14 r14=true:=by decide +kernel
abbrev J14:PTab:=(7,a14,r14)::J13
theorem tab14:Tab Try.prog GO T0 J14:=Tab.cons tab13 (pure_ev tab13 p14)
def a15:List LV:=[.agg [.int .i64 2, .simm [.int .i64 0] 1, .simm [.simm [.simm [.int .i64 0, .bool false] 1, .simm [.int .i64 0, .bool false, .int .i64 1, .bool false] 2] 2, .simm [.nils, .simm [.int .i64 1, .bool true] 1] 2] 2], .int .i64 0]
def r15:LV:=.tup [.agg [.int .i64 0, .int .i64 0, .nils, .nils], .int .i64 1]
theorem p15:pureB T0 J14 20000 7 a15 r15=true:=by decide +kernel
abbrev J15:PTab:=(7,a15,r15)::J14
theorem tab15:Tab Try.prog GO T0 J15:=Tab.cons tab14 (pure_ev tab14 p15)
def a16:List LV:=[.int .i64 2, .agg [.nils, .simm [.int .i64 1] 1]]
def r16:LV:=.bool true
theorem p16:pureB T0 J15 20000 16 a16 r16=true:=by decide +kernel
abbrev J16:PTab:=(16,a16,r16)::J15
theorem tab16:Tab Try.prog GO T0 J16:=Tab.cons tab15 (pure_ev tab15 p16)
def a17:List LV:=[.agg [.int .i64 2, .int .i64 0, .simm [.simm [.int .i64 0, .int .i64 1] 2, .simm [.int .i64 0, .int .i64 2] 2, .simm [.int .i64 3, .int .i64 2] 2, .simm [.int .i64 3, .int .i64 4] 2, .simm [.int .i64 3, .int .i64 5] 2, .simm [.int .i64 3, .int .i64 5] 2] 6, .simm [.simm [.int .i64 9, .int .i64 9] 2, .simm [.int .i64 9, .int .i64 9] 2, .simm [.int .i64 3, .int .i64 4] 2, .simm [.int .i64 9, .int .i64 9] 2, .simm [.int .i64 9, .int .i64 9] 2, .simm [.int .i64 7, .int .i64 8] 2] 6], .agg [.nils, .simm [.int .i64 1] 1]]
def r17:LV:=.bool true
theorem p17:pureB T0 J16 20000 9 a17 r17=true:=by decide +kernel
abbrev J17:PTab:=(9,a17,r17)::J16
theorem tab17:Tab Try.prog GO T0 J17:=Tab.cons tab16 (pure_ev tab16 p17)
def a18:List LV:=[.int .i64 2, .agg [.nils, .simm [.int .i64 0, .int .i64 1] 2]]
def r18:LV:=.bool true
theorem p18:pureB T0 J17 20000 16 a18 r18=true:=by decide +kernel
abbrev J18:PTab:=(16,a18,r18)::J17
theorem tab18:Tab Try.prog GO T0 J18:=Tab.cons tab17 (pure_ev tab17 p18)
def a19:List LV:=[.agg [.int .i64 2, .int .i64 0, .simm [.simm [.int .i64 0, .int .i64 1] 2, .simm [.int .i64 0, .int .i64 2] 2, .simm [.int .i64 3, .int .i64 2] 2, .simm [.int .i64 3, .int .i64 4] 2, .simm [.int .i64 3, .int .i64 5] 2, .simm [.int .i64 3, .int .i64 5] 2] 6, .simm [.simm [.int .i64 9, .int .i64 9] 2, .simm [.int .i64 9, .int .i64 9] 2, .simm [.int .i64 3, .int .i64 4] 2, .simm [.int .i64 9, .int .i64 9] 2, .simm [.int .i64 9, .int .i64 9] 2, .simm [.int .i64 7, .int .i64 8] 2] 6], .agg [.nils, .simm [.int .i64 0, .int .i64 1] 2]]
def r19:LV:=.bool false
theorem p19:pureB T0 J18 20000 9 a19 r19=true:=by decide +kernel
abbrev J19:PTab:=(9,a19,r19)::J18
theorem tab19:Tab Try.prog GO T0 J19:=Tab.cons tab18 (pure_ev tab18 p19)
def a20:List LV:=[.int .i64 2, .agg [.simm [.int .i64 0, .int .i64 0] 2, .simm [.int .i64 1] 1]]
def r20:LV:=.bool true
theorem p20:pureB T0 J19 20000 16 a20 r20=true:=by decide +kernel
abbrev J20:PTab:=(16,a20,r20)::J19
theorem tab20:Tab Try.prog GO T0 J20:=Tab.cons tab19 (pure_ev tab19 p20)
def a21:List LV:=[.agg [.int .i64 2, .int .i64 0, .simm [.simm [.int .i64 0, .int .i64 1] 2, .simm [.int .i64 0, .int .i64 2] 2, .simm [.int .i64 3, .int .i64 2] 2, .simm [.int .i64 3, .int .i64 4] 2, .simm [.int .i64 3, .int .i64 5] 2, .simm [.int .i64 3, .int .i64 5] 2] 6, .simm [.simm [.int .i64 9, .int .i64 9] 2, .simm [.int .i64 9, .int .i64 9] 2, .simm [.int .i64 3, .int .i64 4] 2, .simm [.int .i64 9, .int .i64 9] 2, .simm [.int .i64 9, .int .i64 9] 2, .simm [.int .i64 7, .int .i64 8] 2] 6], .agg [.simm [.int .i64 0, .int .i64 0] 2, .simm [.int .i64 1] 1]]
def r21:LV:=.bool true
theorem p21:pureB T0 J20 20000 9 a21 r21=true:=by decide +kernel
abbrev J21:PTab:=(9,a21,r21)::J20
theorem tab21:Tab Try.prog GO T0 J21:=Tab.cons tab20 (pure_ev tab20 p21)
def a22:List LV:=[.agg [.int .i64 2, .int .i64 0, .simm [.simm [.int .i64 0, .int .i64 1] 2, .simm [.int .i64 0, .int .i64 2] 2, .simm [.int .i64 3, .int .i64 2] 2, .simm [.int .i64 3, .int .i64 4] 2, .simm [.int .i64 3, .int .i64 5] 2, .simm [.int .i64 3, .int .i64 5] 2] 6, .simm [.simm [.int .i64 10, .int .i64 10] 2, .simm [.int .i64 10, .int .i64 10] 2, .simm [.int .i64 4, .int .i64 5] 2, .simm [.int .i64 10, .int .i64 10] 2, .simm [.int .i64 10, .int .i64 10] 2, .simm [.int .i64 8, .int .i64 9] 2] 6]]
def r22:LV:=.bool true
theorem p22:pureB T0 J21 20000 8 a22 r22=true:=by decide +kernel
abbrev J22:PTab:=(8,a22,r22)::J21
theorem tab22:Tab Try.prog GO T0 J22:=Tab.cons tab21 (pure_ev tab21 p22)
def a23:List LV:=[.agg [.int .i64 2, .int .i64 0, .simm [.simm [.int .i64 0, .int .i64 1] 2, .simm [.int .i64 0, .int .i64 2] 2, .simm [.int .i64 3, .int .i64 2] 2, .simm [.int .i64 3, .int .i64 4] 2, .simm [.int .i64 3, .int .i64 5] 2, .simm [.int .i64 3, .int .i64 5] 2] 6, .simm [.simm [.int .i64 10, .int .i64 10] 2, .simm [.int .i64 10, .int .i64 10] 2, .simm [.int .i64 4, .int .i64 5] 2, .simm [.int .i64 10, .int .i64 10] 2, .simm [.int .i64 10, .int .i64 10] 2, .simm [.int .i64 8, .int .i64 9] 2] 6], .agg [.nils, .simm [.int .i64 1] 1]]
def r23:LV:=.bool false
theorem p23:pureB T0 J22 20000 9 a23 r23=true:=by decide +kernel
abbrev J23:PTab:=(9,a23,r23)::J22
theorem tab23:Tab Try.prog GO T0 J23:=Tab.cons tab22 (pure_ev tab22 p23)
def a24:List LV:=[.agg [.int .i64 2, .int .i64 0, .simm [.simm [.int .i64 0, .int .i64 1] 2, .simm [.int .i64 0, .int .i64 2] 2, .simm [.int .i64 3, .int .i64 2] 2, .simm [.int .i64 3, .int .i64 4] 2, .simm [.int .i64 3, .int .i64 5] 2, .simm [.int .i64 3, .int .i64 5] 2] 6, .simm [.simm [.int .i64 10, .int .i64 10] 2, .simm [.int .i64 10, .int .i64 10] 2, .simm [.int .i64 4, .int .i64 5] 2, .simm [.int .i64 10, .int .i64 10] 2, .simm [.int .i64 10, .int .i64 10] 2, .simm [.int .i64 8, .int .i64 9] 2] 6], .agg [.nils, .simm [.int .i64 0, .int .i64 1] 2]]
def r24:LV:=.bool true
theorem p24:pureB T0 J23 20000 9 a24 r24=true:=by decide +kernel
abbrev J24:PTab:=(9,a24,r24)::J23
theorem tab24:Tab Try.prog GO T0 J24:=Tab.cons tab23 (pure_ev tab23 p24)
def a25:List LV:=[.agg [.int .i64 1, .int .i64 0, .simm [.simm [.int .i64 1] 1, .simm [.int .i64 0] 1] 2, .simm [.simm [.int .i64 3] 1, .simm [.int .i64 2] 1] 2]]
def r25:LV:=.bool true
theorem p25:pureB T0 J24 20000 8 a25 r25=true:=by decide +kernel
abbrev J25:PTab:=(8,a25,r25)::J24
theorem tab25:Tab Try.prog GO T0 J25:=Tab.cons tab24 (pure_ev tab24 p25)
def a26:List LV:=[.int .i64 1, .agg [.nils, .simm [.int .i64 0] 1]]
def r26:LV:=.bool true
theorem p26:pureB T0 J25 20000 16 a26 r26=true:=by decide +kernel
abbrev J26:PTab:=(16,a26,r26)::J25
theorem tab26:Tab Try.prog GO T0 J26:=Tab.cons tab25 (pure_ev tab25 p26)
def a27:List LV:=[.agg [.int .i64 1, .int .i64 0, .simm [.simm [.int .i64 1] 1, .simm [.int .i64 0] 1] 2, .simm [.simm [.int .i64 3] 1, .simm [.int .i64 2] 1] 2], .agg [.nils, .simm [.int .i64 0] 1]]
def r27:LV:=.bool true
theorem p27:pureB T0 J26 20000 9 a27 r27=true:=by decide +kernel
abbrev J27:PTab:=(9,a27,r27)::J26
theorem tab27:Tab Try.prog GO T0 J27:=Tab.cons tab26 (pure_ev tab26 p27)
def a28:List LV:=[.agg [.int .i64 1, .int .i64 0, .simm [.simm [.int .i64 1] 1, .simm [.int .i64 1] 1] 2, .simm [.simm [.int .i64 0] 1, .simm [.int .i64 5] 1] 2]]
def r28:LV:=.bool true
theorem p28:pureB T0 J27 20000 8 a28 r28=true:=by decide +kernel
abbrev J28:PTab:=(8,a28,r28)::J27
theorem tab28:Tab Try.prog GO T0 J28:=Tab.cons tab27 (pure_ev tab27 p28)
def a29:List LV:=[.agg [.int .i64 1, .int .i64 0, .simm [.simm [.int .i64 1] 1, .simm [.int .i64 1] 1] 2, .simm [.simm [.int .i64 0] 1, .simm [.int .i64 5] 1] 2], .agg [.nils, .simm [.int .i64 0] 1]]
def r29:LV:=.bool false
theorem p29:pureB T0 J28 20000 9 a29 r29=true:=by decide +kernel
abbrev J29:PTab:=(9,a29,r29)::J28
theorem tab29:Tab Try.prog GO T0 J29:=Tab.cons tab28 (pure_ev tab28 p29)
def a30:List LV:=[.int .i64 1, .agg [.nils, .simm [.int .i64 1] 1]]
def r30:LV:=.bool false
theorem p30:pureB T0 J29 20000 16 a30 r30=true:=by decide +kernel
abbrev J30:PTab:=(16,a30,r30)::J29
theorem tab30:Tab Try.prog GO T0 J30:=Tab.cons tab29 (pure_ev tab29 p30)
def a31:List LV:=[.agg [.int .i64 1, .int .i64 0, .simm [.simm [.int .i64 1] 1, .simm [.int .i64 0] 1] 2, .simm [.simm [.int .i64 3] 1, .simm [.int .i64 2] 1] 2], .agg [.nils, .simm [.int .i64 1] 1]]
def r31:LV:=.bool false
theorem p31:pureB T0 J30 20000 9 a31 r31=true:=by decide +kernel
abbrev J31:PTab:=(9,a31,r31)::J30
theorem tab31:Tab Try.prog GO T0 J31:=Tab.cons tab30 (pure_ev tab30 p31)
def a32:List LV:=[.agg [.int .i64 0, .int .i64 0, .nils, .nils]]
def r32:LV:=.bool false
theorem p32:pureB T0 J31 20000 8 a32 r32=true:=by decide +kernel
abbrev J32:PTab:=(8,a32,r32)::J31
theorem tab32:Tab Try.prog GO T0 J32:=Tab.cons tab31 (pure_ev tab31 p32)
def a33:List LV:=[.agg [.simm [.int .i64 0, .int .i64 0] 2, .simm [.int .i64 1] 1]]
def r33:LV:=.agg [.simm [.int .i64 0, .int .i64 0] 2, .simm [.int .i64 1] 1]
theorem p33:pureB T0 J32 20000 42 a33 r33=true:=by decide +kernel
abbrev J33:PTab:=(42,a33,r33)::J32
theorem tab33:Tab Try.prog GO T0 J33:=Tab.cons tab32 (pure_ev tab32 p33)
def a34:List LV:=[.agg [.int .i64 2, .simm [.int .i64 0] 1, .simm [.simm [.simm [.int .i64 0, .bool false] 1, .simm [.int .i64 0, .bool false, .int .i64 1, .bool false] 2] 2, .simm [.nils, .simm [.int .i64 1, .bool true] 1] 2] 2], .agg [.simm [.int .i64 0, .int .i64 0] 2, .simm [.int .i64 1] 1]]
def r34:LV:=.bool true
theorem p34:pureB T0 J33 20000 10 a34 r34=true:=by decide +kernel
abbrev J34:PTab:=(10,a34,r34)::J33
theorem tab34:Tab Try.prog GO T0 J34:=Tab.cons tab33 (pure_ev tab33 p34)
def a35:List LV:=[]
def r35:LV:=.bool true
theorem p35:pureB T0 J34 20000 5 a35 r35=true:=by decide +kernel
theorem head_true:PureOk Try.prog GL (.fn (.func 5) [] []) [] (.bool true):=pure_ev tab34 p35
end Go.Proofs.Ytkbiecjdcjfhaaa
