/- The law package's own look at its examples, run: each closed call on known values, and the head's answer at last. -/
import Derived.Test.YtkbiecjdcjfhaaaGreatProg
import Derived.Test.YtkbiecjdcjfhaaaGreatPvCall
import Derived.Test.YtkbiecjdcjfhaaaGreatGl
set_option linter.unusedSimpArgs false
set_option linter.unusedVariables false
set_option maxRecDepth 100000
set_option maxHeartbeats 16000000
namespace Go.Proofs.YtkbiecjdcjfhaaaGreat
open Go Go.Pv
def refs:List (Nat × List Nat):=[(43,[3]),(148,[2]),(23,[11]),(24,[1]),(107,[1]),(97,[1]),(114,[2])]
abbrev GO:bP:=GL
noncomputable def T0:Nat->Option bh:=JC Tryz.prog GO refs
theorem tab0:fT Tryz.prog GO T0 []:=A9 (by decide +kernel) (by decide +kernel)
abbrev J0:dI:=[]
def a1:List LV:=[]
def r1:LV:=.agg [.int .i64 2, .aF [.int .i64 0] 1, .aF [.aF [.aF [.int .i64 0, .bool false] 1, .aF [.int .i64 0, .bool false, .int .i64 1, .bool false] 2] 2, .aF [.aq, .aF [.int .i64 1, .bool true] 1] 2] 2]
theorem p1:dn T0 J0 20000 17 a1 r1=true:=by decide +kernel
abbrev J1:dI:=(17,a1,r1)::J0
theorem tab1:fT Tryz.prog GO T0 J1:=fT.cons tab0 (bX tab0 p1)
def a2:List LV:=[.agg [.int .i64 2, .aF [.int .i64 0] 1, .aF [.aF [.aF [.int .i64 0, .bool false] 1, .aF [.int .i64 0, .bool false, .int .i64 1, .bool false] 2] 2, .aF [.aq, .aF [.int .i64 1, .bool true] 1] 2] 2]]
def r2:LV:=.bool true
theorem p2:dn T0 J1 20000 18 a2 r2=true:=by decide +kernel
abbrev J2:dI:=(18,a2,r2)::J1
theorem tab2:fT Tryz.prog GO T0 J2:=fT.cons tab1 (bX tab1 p2)
def a3:List LV:=[.agg [.int .i64 2, .aF [.int .i64 0] 1, .aF [.aF [.aF [.int .i64 0, .bool false] 1, .aF [.int .i64 0, .bool false, .int .i64 1, .bool false] 2] 2, .aF [.aq, .aF [.int .i64 1, .bool true] 1] 2] 2]]
def r3:LV:=.aF [.int .i64 1, .int .i64 (-1), .aF [.int .i64 0] 1] 1
theorem p3:dn T0 J2 20000 21 a3 r3=true:=by decide +kernel
abbrev J3:dI:=(21,a3,r3)::J2
theorem tab3:fT Tryz.prog GO T0 J3:=fT.cons tab2 (bX tab2 p3)
def a4:List LV:=[.int .i64 4]
def r4:LV:=.aF [.int .i64 1, .int .i64 2, .int .i64 3, .int .i64 4] 4
theorem p4:dn T0 J3 20000 22 a4 r4=true:=by decide +kernel
abbrev J4:dI:=(22,a4,r4)::J3
theorem tab4:fT Tryz.prog GO T0 J4:=fT.cons tab3 (bX tab3 p4)
def a5:List LV:=[.agg [.int .i64 2, .aF [.int .i64 0] 1, .aF [.aF [.aF [.int .i64 0, .bool false] 1, .aF [.int .i64 0, .bool false, .int .i64 1, .bool false] 2] 2, .aF [.aq, .aF [.int .i64 1, .bool true] 1] 2] 2], .aF [.int .i64 1, .int .i64 (-1), .aF [.int .i64 0] 1] 1, .int .i64 0]
def r5:LV:=.cE [.aF [.int .i64 1, .int .i64 (-1), .aF [.int .i64 0] 1] 1, .agg [.aq, .aq]]
theorem p5:dn T0 J4 20000 75 a5 r5=true:=by decide +kernel
abbrev J5:dI:=(75,a5,r5)::J4
theorem tab5:fT Tryz.prog GO T0 J5:=fT.cons tab4 (bX tab4 p5)
def a6:List LV:=[.agg [.int .i64 2, .aF [.int .i64 0] 1, .aF [.aF [.aF [.int .i64 0, .bool false] 1, .aF [.int .i64 0, .bool false, .int .i64 1, .bool false] 2] 2, .aF [.aq, .aF [.int .i64 1, .bool true] 1] 2] 2], .aF [.int .i64 1, .int .i64 (-1), .aF [.int .i64 0] 1] 1, .int .i64 1]
def r6:LV:=.cE [.aF [.int .i64 1, .int .i64 (-1), .aF [.int .i64 0, .int .i64 1] 2] 1, .agg [.aq, .aq]]
theorem p6:dn T0 J5 20000 75 a6 r6=true:=by decide +kernel
abbrev J6:dI:=(75,a6,r6)::J5
theorem tab6:fT Tryz.prog GO T0 J6:=fT.cons tab5 (bX tab5 p6)
def a7:List LV:=[.agg [.int .i64 2, .aF [.int .i64 0] 1, .aF [.aF [.aF [.int .i64 0, .bool false] 1, .aF [.int .i64 0, .bool false, .int .i64 1, .bool false] 2] 2, .aF [.aq, .aF [.int .i64 1, .bool true] 1] 2] 2], .aF [.int .i64 1, .int .i64 (-1), .aF [.int .i64 0, .int .i64 1] 2] 1, .int .i64 0]
def r7:LV:=.cE [.aF [.int .i64 1, .int .i64 (-1), .aF [.int .i64 0] 1] 1, .agg [.aq, .aq]]
theorem p7:dn T0 J6 20000 75 a7 r7=true:=by decide +kernel
abbrev J7:dI:=(75,a7,r7)::J6
theorem tab7:fT Tryz.prog GO T0 J7:=fT.cons tab6 (bX tab6 p7)
def a8:List LV:=[.agg [.int .i64 2, .aF [.int .i64 0] 1, .aF [.aF [.aF [.int .i64 0, .bool false] 1, .aF [.int .i64 0, .bool false, .int .i64 1, .bool false] 2] 2, .aF [.aq, .aF [.int .i64 1, .bool true] 1] 2] 2], .aF [.int .i64 1, .int .i64 (-1), .aF [.int .i64 0, .int .i64 1] 2] 1, .int .i64 1]
def r8:LV:=.cE [.aF [.int .i64 1, .int .i64 (-1), .aF [.int .i64 0, .int .i64 1] 2, .int .i64 2, .int .i64 0, .aF [.int .i64 1] 1] 2, .agg [.aq, .aq]]
theorem p8:dn T0 J7 20000 75 a8 r8=true:=by decide +kernel
abbrev J8:dI:=(75,a8,r8)::J7
theorem tab8:fT Tryz.prog GO T0 J8:=fT.cons tab7 (bX tab7 p8)
def a9:List LV:=[.agg [.int .i64 2, .aF [.int .i64 0] 1, .aF [.aF [.aF [.int .i64 0, .bool false] 1, .aF [.int .i64 0, .bool false, .int .i64 1, .bool false] 2] 2, .aF [.aq, .aF [.int .i64 1, .bool true] 1] 2] 2], .aF [.int .i64 1, .int .i64 (-1), .aF [.int .i64 0, .int .i64 1] 2, .int .i64 2, .int .i64 0, .aF [.int .i64 1] 1] 2, .int .i64 0]
def r9:LV:=.cE [.aF [.int .i64 1, .int .i64 (-1), .aF [.int .i64 0] 1] 1, .agg [.aq, .aF [.int .i64 2] 1]]
theorem p9:dn T0 J8 20000 75 a9 r9=true:=by decide +kernel
abbrev J9:dI:=(75,a9,r9)::J8
theorem tab9:fT Tryz.prog GO T0 J9:=fT.cons tab8 (bX tab8 p9)
def a10:List LV:=[.agg [.int .i64 2, .aF [.int .i64 0] 1, .aF [.aF [.aF [.int .i64 0, .bool false] 1, .aF [.int .i64 0, .bool false, .int .i64 1, .bool false] 2] 2, .aF [.aq, .aF [.int .i64 1, .bool true] 1] 2] 2], .aF [.int .i64 1, .int .i64 (-1), .aF [.int .i64 0, .int .i64 1] 2, .int .i64 2, .int .i64 0, .aF [.int .i64 1] 1] 2, .int .i64 1]
def r10:LV:=.cE [.aF [.int .i64 1, .int .i64 (-1), .aF [.int .i64 0, .int .i64 1] 2, .int .i64 2, .int .i64 0, .aF [.int .i64 1] 1] 2, .agg [.aF [.int .i64 2] 1, .aq]]
theorem p10:dn T0 J9 20000 75 a10 r10=true:=by decide +kernel
abbrev J10:dI:=(75,a10,r10)::J9
theorem Wr:fT Tryz.prog GO T0 J10:=fT.cons tab9 (bX tab9 p10)
def a11:List LV:=[.agg [.int .i64 2, .aF [.int .i64 0] 1, .aF [.aF [.aF [.int .i64 0, .bool false] 1, .aF [.int .i64 0, .bool false, .int .i64 1, .bool false] 2] 2, .aF [.aq, .aF [.int .i64 1, .bool true] 1] 2] 2], .int .i64 150]
def r11:LV:=.cE [.agg [.int .i64 2, .int .i64 0, .aF [.aF [.int .i64 0, .int .i64 1] 2, .aF [.int .i64 0, .int .i64 2] 2, .aF [.int .i64 3, .int .i64 2] 2, .aF [.int .i64 3, .int .i64 4] 2, .aF [.int .i64 3, .int .i64 5] 2, .aF [.int .i64 3, .int .i64 5] 2] 6, .aF [.aF [.int .i64 9, .int .i64 9] 2, .aF [.int .i64 9, .int .i64 9] 2, .aF [.int .i64 3, .int .i64 4] 2, .aF [.int .i64 9, .int .i64 9] 2, .aF [.int .i64 9, .int .i64 9] 2, .aF [.int .i64 7, .int .i64 8] 2] 6], .int .i64 0]
theorem p11:dn T0 J10 20000 8 a11 r11=true:=by decide +kernel
abbrev J11:dI:=(8,a11,r11)::J10
theorem Wq:fT Tryz.prog GO T0 J11:=fT.cons Wr (bX Wr p11)
def a12:List LV:=[.agg [.int .i64 2, .int .i64 0, .aF [.aF [.int .i64 0, .int .i64 1] 2, .aF [.int .i64 0, .int .i64 2] 2, .aF [.int .i64 3, .int .i64 2] 2, .aF [.int .i64 3, .int .i64 4] 2, .aF [.int .i64 3, .int .i64 5] 2, .aF [.int .i64 3, .int .i64 5] 2] 6, .aF [.aF [.int .i64 9, .int .i64 9] 2, .aF [.int .i64 9, .int .i64 9] 2, .aF [.int .i64 3, .int .i64 4] 2, .aF [.int .i64 9, .int .i64 9] 2, .aF [.int .i64 9, .int .i64 9] 2, .aF [.int .i64 7, .int .i64 8] 2] 6]]
def r12:LV:=.bool true
theorem p12:dn T0 J11 20000 11 a12 r12=true:=by decide +kernel
abbrev J12:dI:=(11,a12,r12)::J11
theorem Wp:fT Tryz.prog GO T0 J12:=fT.cons Wq (bX Wq p12)
def a13:List LV:=[.agg [.int .i64 2, .int .i64 0, .aF [.aF [.int .i64 0, .int .i64 1] 2, .aF [.int .i64 0, .int .i64 2] 2, .aF [.int .i64 3, .int .i64 2] 2, .aF [.int .i64 3, .int .i64 4] 2, .aF [.int .i64 3, .int .i64 5] 2, .aF [.int .i64 3, .int .i64 5] 2] 6, .aF [.aF [.int .i64 9, .int .i64 9] 2, .aF [.int .i64 9, .int .i64 9] 2, .aF [.int .i64 3, .int .i64 4] 2, .aF [.int .i64 9, .int .i64 9] 2, .aF [.int .i64 9, .int .i64 9] 2, .aF [.int .i64 7, .int .i64 8] 2] 6]]
def r13:LV:=.agg [.int .i64 2, .int .i64 0, .aF [.aF [.int .i64 0, .int .i64 1] 2, .aF [.int .i64 0, .int .i64 2] 2, .aF [.int .i64 3, .int .i64 2] 2, .aF [.int .i64 3, .int .i64 4] 2, .aF [.int .i64 3, .int .i64 5] 2, .aF [.int .i64 3, .int .i64 5] 2] 6, .aF [.aF [.int .i64 10, .int .i64 10] 2, .aF [.int .i64 10, .int .i64 10] 2, .aF [.int .i64 4, .int .i64 5] 2, .aF [.int .i64 10, .int .i64 10] 2, .aF [.int .i64 10, .int .i64 10] 2, .aF [.int .i64 8, .int .i64 9] 2] 6]
theorem p13:dn T0 J12 20000 15 a13 r13=true:=by decide +kernel
abbrev J13:dI:=(15,a13,r13)::J12
theorem Wo:fT Tryz.prog GO T0 J13:=fT.cons Wp (bX Wp p13)
def a14:List LV:=[.agg [.int .i64 2, .aF [.int .i64 0] 1, .aF [.aF [.aF [.int .i64 0, .bool false] 1, .aF [.int .i64 0, .bool false, .int .i64 1, .bool false] 2] 2, .aF [.aq, .aF [.int .i64 1, .bool true] 1] 2] 2], .int .i64 1]
def r14:LV:=.cE [.agg [.int .i64 0, .int .i64 0, .aq, .aq], .int .i64 2]
theorem p14:dn T0 J13 20000 8 a14 r14=true:=by decide +kernel
abbrev J14:dI:=(8,a14,r14)::J13
theorem Wn:fT Tryz.prog GO T0 J14:=fT.cons Wo (bX Wo p14)
def a15:List LV:=[.agg [.int .i64 2, .aF [.int .i64 0] 1, .aF [.aF [.aF [.int .i64 0, .bool false] 1, .aF [.int .i64 0, .bool false, .int .i64 1, .bool false] 2] 2, .aF [.aq, .aF [.int .i64 1, .bool true] 1] 2] 2], .int .i64 0]
def r15:LV:=.cE [.agg [.int .i64 0, .int .i64 0, .aq, .aq], .int .i64 1]
theorem p15:dn T0 J14 20000 8 a15 r15=true:=by decide +kernel
abbrev J15:dI:=(8,a15,r15)::J14
theorem Wm:fT Tryz.prog GO T0 J15:=fT.cons Wn (bX Wn p15)
def a16:List LV:=[.int .i64 2, .agg [.aq, .aF [.int .i64 1] 1]]
def r16:LV:=.bool true
theorem p16:dn T0 J15 20000 20 a16 r16=true:=by decide +kernel
abbrev J16:dI:=(20,a16,r16)::J15
theorem Wl:fT Tryz.prog GO T0 J16:=fT.cons Wm (bX Wm p16)
def a17:List LV:=[.agg [.int .i64 2, .int .i64 0, .aF [.aF [.int .i64 0, .int .i64 1] 2, .aF [.int .i64 0, .int .i64 2] 2, .aF [.int .i64 3, .int .i64 2] 2, .aF [.int .i64 3, .int .i64 4] 2, .aF [.int .i64 3, .int .i64 5] 2, .aF [.int .i64 3, .int .i64 5] 2] 6, .aF [.aF [.int .i64 9, .int .i64 9] 2, .aF [.int .i64 9, .int .i64 9] 2, .aF [.int .i64 3, .int .i64 4] 2, .aF [.int .i64 9, .int .i64 9] 2, .aF [.int .i64 9, .int .i64 9] 2, .aF [.int .i64 7, .int .i64 8] 2] 6], .agg [.aq, .aF [.int .i64 1] 1]]
def r17:LV:=.bool true
theorem p17:dn T0 J16 20000 13 a17 r17=true:=by decide +kernel
abbrev J17:dI:=(13,a17,r17)::J16
theorem Wk:fT Tryz.prog GO T0 J17:=fT.cons Wl (bX Wl p17)
def a18:List LV:=[.int .i64 2, .agg [.aq, .aF [.int .i64 0, .int .i64 1] 2]]
def r18:LV:=.bool true
theorem p18:dn T0 J17 20000 20 a18 r18=true:=by decide +kernel
abbrev J18:dI:=(20,a18,r18)::J17
theorem Wj:fT Tryz.prog GO T0 J18:=fT.cons Wk (bX Wk p18)
def a19:List LV:=[.agg [.int .i64 2, .int .i64 0, .aF [.aF [.int .i64 0, .int .i64 1] 2, .aF [.int .i64 0, .int .i64 2] 2, .aF [.int .i64 3, .int .i64 2] 2, .aF [.int .i64 3, .int .i64 4] 2, .aF [.int .i64 3, .int .i64 5] 2, .aF [.int .i64 3, .int .i64 5] 2] 6, .aF [.aF [.int .i64 9, .int .i64 9] 2, .aF [.int .i64 9, .int .i64 9] 2, .aF [.int .i64 3, .int .i64 4] 2, .aF [.int .i64 9, .int .i64 9] 2, .aF [.int .i64 9, .int .i64 9] 2, .aF [.int .i64 7, .int .i64 8] 2] 6], .agg [.aq, .aF [.int .i64 0, .int .i64 1] 2]]
def r19:LV:=.bool false
theorem p19:dn T0 J18 20000 13 a19 r19=true:=by decide +kernel
abbrev J19:dI:=(13,a19,r19)::J18
theorem Wi:fT Tryz.prog GO T0 J19:=fT.cons Wj (bX Wj p19)
def a20:List LV:=[.int .i64 2, .agg [.aF [.int .i64 0, .int .i64 0] 2, .aF [.int .i64 1] 1]]
def r20:LV:=.bool true
theorem p20:dn T0 J19 20000 20 a20 r20=true:=by decide +kernel
abbrev J20:dI:=(20,a20,r20)::J19
theorem Wh:fT Tryz.prog GO T0 J20:=fT.cons Wi (bX Wi p20)
def a21:List LV:=[.agg [.int .i64 2, .int .i64 0, .aF [.aF [.int .i64 0, .int .i64 1] 2, .aF [.int .i64 0, .int .i64 2] 2, .aF [.int .i64 3, .int .i64 2] 2, .aF [.int .i64 3, .int .i64 4] 2, .aF [.int .i64 3, .int .i64 5] 2, .aF [.int .i64 3, .int .i64 5] 2] 6, .aF [.aF [.int .i64 9, .int .i64 9] 2, .aF [.int .i64 9, .int .i64 9] 2, .aF [.int .i64 3, .int .i64 4] 2, .aF [.int .i64 9, .int .i64 9] 2, .aF [.int .i64 9, .int .i64 9] 2, .aF [.int .i64 7, .int .i64 8] 2] 6], .agg [.aF [.int .i64 0, .int .i64 0] 2, .aF [.int .i64 1] 1]]
def r21:LV:=.bool true
theorem p21:dn T0 J20 20000 13 a21 r21=true:=by decide +kernel
abbrev J21:dI:=(13,a21,r21)::J20
theorem Wg:fT Tryz.prog GO T0 J21:=fT.cons Wh (bX Wh p21)
def a22:List LV:=[.agg [.int .i64 2, .int .i64 0, .aF [.aF [.int .i64 0, .int .i64 1] 2, .aF [.int .i64 0, .int .i64 2] 2, .aF [.int .i64 3, .int .i64 2] 2, .aF [.int .i64 3, .int .i64 4] 2, .aF [.int .i64 3, .int .i64 5] 2, .aF [.int .i64 3, .int .i64 5] 2] 6, .aF [.aF [.int .i64 10, .int .i64 10] 2, .aF [.int .i64 10, .int .i64 10] 2, .aF [.int .i64 4, .int .i64 5] 2, .aF [.int .i64 10, .int .i64 10] 2, .aF [.int .i64 10, .int .i64 10] 2, .aF [.int .i64 8, .int .i64 9] 2] 6]]
def r22:LV:=.bool true
theorem p22:dn T0 J21 20000 11 a22 r22=true:=by decide +kernel
abbrev J22:dI:=(11,a22,r22)::J21
theorem Wf:fT Tryz.prog GO T0 J22:=fT.cons Wg (bX Wg p22)
def a23:List LV:=[.agg [.int .i64 2, .int .i64 0, .aF [.aF [.int .i64 0, .int .i64 1] 2, .aF [.int .i64 0, .int .i64 2] 2, .aF [.int .i64 3, .int .i64 2] 2, .aF [.int .i64 3, .int .i64 4] 2, .aF [.int .i64 3, .int .i64 5] 2, .aF [.int .i64 3, .int .i64 5] 2] 6, .aF [.aF [.int .i64 10, .int .i64 10] 2, .aF [.int .i64 10, .int .i64 10] 2, .aF [.int .i64 4, .int .i64 5] 2, .aF [.int .i64 10, .int .i64 10] 2, .aF [.int .i64 10, .int .i64 10] 2, .aF [.int .i64 8, .int .i64 9] 2] 6], .agg [.aq, .aF [.int .i64 1] 1]]
def r23:LV:=.bool false
theorem p23:dn T0 J22 20000 13 a23 r23=true:=by decide +kernel
abbrev J23:dI:=(13,a23,r23)::J22
theorem Wd:fT Tryz.prog GO T0 J23:=fT.cons Wf (bX Wf p23)
def a24:List LV:=[.agg [.int .i64 2, .int .i64 0, .aF [.aF [.int .i64 0, .int .i64 1] 2, .aF [.int .i64 0, .int .i64 2] 2, .aF [.int .i64 3, .int .i64 2] 2, .aF [.int .i64 3, .int .i64 4] 2, .aF [.int .i64 3, .int .i64 5] 2, .aF [.int .i64 3, .int .i64 5] 2] 6, .aF [.aF [.int .i64 10, .int .i64 10] 2, .aF [.int .i64 10, .int .i64 10] 2, .aF [.int .i64 4, .int .i64 5] 2, .aF [.int .i64 10, .int .i64 10] 2, .aF [.int .i64 10, .int .i64 10] 2, .aF [.int .i64 8, .int .i64 9] 2] 6], .agg [.aq, .aF [.int .i64 0, .int .i64 1] 2]]
def r24:LV:=.bool true
theorem p24:dn T0 J23 20000 13 a24 r24=true:=by decide +kernel
abbrev J24:dI:=(13,a24,r24)::J23
theorem Wc:fT Tryz.prog GO T0 J24:=fT.cons Wd (bX Wd p24)
def a25:List LV:=[.agg [.int .i64 1, .int .i64 0, .aF [.aF [.int .i64 1] 1, .aF [.int .i64 0] 1] 2, .aF [.aF [.int .i64 3] 1, .aF [.int .i64 2] 1] 2]]
def r25:LV:=.bool true
theorem p25:dn T0 J24 20000 11 a25 r25=true:=by decide +kernel
abbrev J25:dI:=(11,a25,r25)::J24
theorem Wb:fT Tryz.prog GO T0 J25:=fT.cons Wc (bX Wc p25)
def a26:List LV:=[.int .i64 1, .agg [.aq, .aF [.int .i64 0] 1]]
def r26:LV:=.bool true
theorem p26:dn T0 J25 20000 20 a26 r26=true:=by decide +kernel
abbrev J26:dI:=(20,a26,r26)::J25
theorem Wa:fT Tryz.prog GO T0 J26:=fT.cons Wb (bX Wb p26)
def a27:List LV:=[.agg [.int .i64 1, .int .i64 0, .aF [.aF [.int .i64 1] 1, .aF [.int .i64 0] 1] 2, .aF [.aF [.int .i64 3] 1, .aF [.int .i64 2] 1] 2], .agg [.aq, .aF [.int .i64 0] 1]]
def r27:LV:=.bool true
theorem p27:dn T0 J26 20000 13 a27 r27=true:=by decide +kernel
abbrev J27:dI:=(13,a27,r27)::J26
theorem V9:fT Tryz.prog GO T0 J27:=fT.cons Wa (bX Wa p27)
def a28:List LV:=[.agg [.int .i64 1, .int .i64 0, .aF [.aF [.int .i64 1] 1, .aF [.int .i64 1] 1] 2, .aF [.aF [.int .i64 0] 1, .aF [.int .i64 5] 1] 2]]
def r28:LV:=.bool true
theorem p28:dn T0 J27 20000 11 a28 r28=true:=by decide +kernel
abbrev J28:dI:=(11,a28,r28)::J27
theorem V8:fT Tryz.prog GO T0 J28:=fT.cons V9 (bX V9 p28)
def a29:List LV:=[.agg [.int .i64 1, .int .i64 0, .aF [.aF [.int .i64 1] 1, .aF [.int .i64 1] 1] 2, .aF [.aF [.int .i64 0] 1, .aF [.int .i64 5] 1] 2], .agg [.aq, .aF [.int .i64 0] 1]]
def r29:LV:=.bool false
theorem p29:dn T0 J28 20000 13 a29 r29=true:=by decide +kernel
abbrev J29:dI:=(13,a29,r29)::J28
theorem V7:fT Tryz.prog GO T0 J29:=fT.cons V8 (bX V8 p29)
def a30:List LV:=[.int .i64 1, .agg [.aq, .aF [.int .i64 1] 1]]
def r30:LV:=.bool false
theorem p30:dn T0 J29 20000 20 a30 r30=true:=by decide +kernel
abbrev J30:dI:=(20,a30,r30)::J29
theorem V6:fT Tryz.prog GO T0 J30:=fT.cons V7 (bX V7 p30)
def a31:List LV:=[.agg [.int .i64 1, .int .i64 0, .aF [.aF [.int .i64 1] 1, .aF [.int .i64 0] 1] 2, .aF [.aF [.int .i64 3] 1, .aF [.int .i64 2] 1] 2], .agg [.aq, .aF [.int .i64 1] 1]]
def r31:LV:=.bool false
theorem p31:dn T0 J30 20000 13 a31 r31=true:=by decide +kernel
abbrev J31:dI:=(13,a31,r31)::J30
theorem V5:fT Tryz.prog GO T0 J31:=fT.cons V6 (bX V6 p31)
def a32:List LV:=[.agg [.int .i64 0, .int .i64 0, .aq, .aq]]
def r32:LV:=.bool false
theorem p32:dn T0 J31 20000 11 a32 r32=true:=by decide +kernel
abbrev J32:dI:=(11,a32,r32)::J31
theorem V4:fT Tryz.prog GO T0 J32:=fT.cons V5 (bX V5 p32)
def a33:List LV:=[.agg [.aF [.int .i64 0, .int .i64 0] 2, .aF [.int .i64 1] 1]]
def r33:LV:=.agg [.aF [.int .i64 0, .int .i64 0] 2, .aF [.int .i64 1] 1]
theorem p33:dn T0 J32 20000 68 a33 r33=true:=by decide +kernel
abbrev J33:dI:=(68,a33,r33)::J32
theorem V3:fT Tryz.prog GO T0 J33:=fT.cons V4 (bX V4 p33)
def a34:List LV:=[.agg [.int .i64 2, .aF [.int .i64 0] 1, .aF [.aF [.aF [.int .i64 0, .bool false] 1, .aF [.int .i64 0, .bool false, .int .i64 1, .bool false] 2] 2, .aF [.aq, .aF [.int .i64 1, .bool true] 1] 2] 2], .agg [.aF [.int .i64 0, .int .i64 0] 2, .aF [.int .i64 1] 1]]
def r34:LV:=.bool true
theorem p34:dn T0 J33 20000 19 a34 r34=true:=by decide +kernel
abbrev J34:dI:=(19,a34,r34)::J33
theorem tab34:fT Tryz.prog GO T0 J34:=fT.cons V3 (bX V3 p34)
def a35:List LV:=[]
def r35:LV:=.bool true
theorem p35:dn T0 J34 20000 4 a35 r35=true:=by decide +kernel
theorem ME:fu Tryz.prog GL (.fn (.func 4) [] []) [] (.bool true):=bX tab34 p35
end Go.Proofs.YtkbiecjdcjfhaaaGreat
