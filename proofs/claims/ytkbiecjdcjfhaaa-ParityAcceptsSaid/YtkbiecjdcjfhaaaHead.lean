/- The law package's own look at its examples, run: each closed call on known values, and the head's answer at last. -/
import Derived.Test.YtkbiecjdcjfhaaaProg
import Derived.Test.YtkbiecjdcjfhaaaPvCall
import Derived.Test.YtkbiecjdcjfhaaaGl
set_option linter.unusedSimpArgs false
set_option linter.unusedVariables false
set_option maxRecDepth 100000
set_option maxHeartbeats 16000000
namespace Go.Proofs.Ytkbiecjdcjfhaaa
open Go Go.Pv
def refs:List (Nat × List Nat):=[(26,[3]),(118,[2]),(21,[11]),(22,[1]),(77,[1]),(67,[1]),(84,[2])]
abbrev GO:bG:=GL
noncomputable def T0:Nat->Option aZ:=HT Try.prog GO refs
theorem ZP:fC Try.prog GO T0 []:=Ab (by decide +kernel) (by decide +kernel)
abbrev J0:dw:=[]
def a1:List LV:=[]
def r1:LV:=.agg [.int .i64 2, .aB [.int .i64 0] 1, .aB [.aB [.aB [.int .i64 0, .bool false] 1, .aB [.int .i64 0, .bool false, .int .i64 1, .bool false] 2] 2, .aB [.aj, .aB [.int .i64 1, .bool true] 1] 2] 2]
theorem p1:cY T0 J0 20000 13 a1 r1=true:=by decide +kernel
abbrev J1:dw:=(13,a1,r1)::J0
theorem ZO:fC Try.prog GO T0 J1:=fC.cons ZP (bR ZP p1)
def a2:List LV:=[.agg [.int .i64 2, .aB [.int .i64 0] 1, .aB [.aB [.aB [.int .i64 0, .bool false] 1, .aB [.int .i64 0, .bool false, .int .i64 1, .bool false] 2] 2, .aB [.aj, .aB [.int .i64 1, .bool true] 1] 2] 2]]
def r2:LV:=.bool true
theorem p2:cY T0 J1 20000 15 a2 r2=true:=by decide +kernel
abbrev J2:dw:=(15,a2,r2)::J1
theorem ZN:fC Try.prog GO T0 J2:=fC.cons ZO (bR ZO p2)
def a3:List LV:=[.agg [.int .i64 2, .aB [.int .i64 0] 1, .aB [.aB [.aB [.int .i64 0, .bool false] 1, .aB [.int .i64 0, .bool false, .int .i64 1, .bool false] 2] 2, .aB [.aj, .aB [.int .i64 1, .bool true] 1] 2] 2]]
def r3:LV:=.aB [.int .i64 1, .int .i64 (-1), .aB [.int .i64 0] 1] 1
theorem p3:cY T0 J2 20000 17 a3 r3=true:=by decide +kernel
abbrev J3:dw:=(17,a3,r3)::J2
theorem ZM:fC Try.prog GO T0 J3:=fC.cons ZN (bR ZN p3)
def a4:List LV:=[.int .i64 4]
def r4:LV:=.aB [.int .i64 1, .int .i64 2, .int .i64 3, .int .i64 4] 4
theorem p4:cY T0 J3 20000 18 a4 r4=true:=by decide +kernel
abbrev J4:dw:=(18,a4,r4)::J3
theorem ZK:fC Try.prog GO T0 J4:=fC.cons ZM (bR ZM p4)
def a5:List LV:=[.agg [.int .i64 2, .aB [.int .i64 0] 1, .aB [.aB [.aB [.int .i64 0, .bool false] 1, .aB [.int .i64 0, .bool false, .int .i64 1, .bool false] 2] 2, .aB [.aj, .aB [.int .i64 1, .bool true] 1] 2] 2], .aB [.int .i64 1, .int .i64 (-1), .aB [.int .i64 0] 1] 1, .int .i64 0]
def r5:LV:=.cy [.aB [.int .i64 1, .int .i64 (-1), .aB [.int .i64 0] 1] 1, .agg [.aj, .aj]]
theorem p5:cY T0 J4 20000 51 a5 r5=true:=by decide +kernel
abbrev J5:dw:=(51,a5,r5)::J4
theorem ZJ:fC Try.prog GO T0 J5:=fC.cons ZK (bR ZK p5)
def a6:List LV:=[.agg [.int .i64 2, .aB [.int .i64 0] 1, .aB [.aB [.aB [.int .i64 0, .bool false] 1, .aB [.int .i64 0, .bool false, .int .i64 1, .bool false] 2] 2, .aB [.aj, .aB [.int .i64 1, .bool true] 1] 2] 2], .aB [.int .i64 1, .int .i64 (-1), .aB [.int .i64 0] 1] 1, .int .i64 1]
def r6:LV:=.cy [.aB [.int .i64 1, .int .i64 (-1), .aB [.int .i64 0, .int .i64 1] 2] 1, .agg [.aj, .aj]]
theorem p6:cY T0 J5 20000 51 a6 r6=true:=by decide +kernel
abbrev J6:dw:=(51,a6,r6)::J5
theorem ZI:fC Try.prog GO T0 J6:=fC.cons ZJ (bR ZJ p6)
def a7:List LV:=[.agg [.int .i64 2, .aB [.int .i64 0] 1, .aB [.aB [.aB [.int .i64 0, .bool false] 1, .aB [.int .i64 0, .bool false, .int .i64 1, .bool false] 2] 2, .aB [.aj, .aB [.int .i64 1, .bool true] 1] 2] 2], .aB [.int .i64 1, .int .i64 (-1), .aB [.int .i64 0, .int .i64 1] 2] 1, .int .i64 0]
def r7:LV:=.cy [.aB [.int .i64 1, .int .i64 (-1), .aB [.int .i64 0] 1] 1, .agg [.aj, .aj]]
theorem p7:cY T0 J6 20000 51 a7 r7=true:=by decide +kernel
abbrev J7:dw:=(51,a7,r7)::J6
theorem ZH:fC Try.prog GO T0 J7:=fC.cons ZI (bR ZI p7)
def a8:List LV:=[.agg [.int .i64 2, .aB [.int .i64 0] 1, .aB [.aB [.aB [.int .i64 0, .bool false] 1, .aB [.int .i64 0, .bool false, .int .i64 1, .bool false] 2] 2, .aB [.aj, .aB [.int .i64 1, .bool true] 1] 2] 2], .aB [.int .i64 1, .int .i64 (-1), .aB [.int .i64 0, .int .i64 1] 2] 1, .int .i64 1]
def r8:LV:=.cy [.aB [.int .i64 1, .int .i64 (-1), .aB [.int .i64 0, .int .i64 1] 2, .int .i64 2, .int .i64 0, .aB [.int .i64 1] 1] 2, .agg [.aj, .aj]]
theorem p8:cY T0 J7 20000 51 a8 r8=true:=by decide +kernel
abbrev J8:dw:=(51,a8,r8)::J7
theorem ZG:fC Try.prog GO T0 J8:=fC.cons ZH (bR ZH p8)
def a9:List LV:=[.agg [.int .i64 2, .aB [.int .i64 0] 1, .aB [.aB [.aB [.int .i64 0, .bool false] 1, .aB [.int .i64 0, .bool false, .int .i64 1, .bool false] 2] 2, .aB [.aj, .aB [.int .i64 1, .bool true] 1] 2] 2], .aB [.int .i64 1, .int .i64 (-1), .aB [.int .i64 0, .int .i64 1] 2, .int .i64 2, .int .i64 0, .aB [.int .i64 1] 1] 2, .int .i64 0]
def r9:LV:=.cy [.aB [.int .i64 1, .int .i64 (-1), .aB [.int .i64 0] 1] 1, .agg [.aj, .aB [.int .i64 2] 1]]
theorem p9:cY T0 J8 20000 51 a9 r9=true:=by decide +kernel
abbrev J9:dw:=(51,a9,r9)::J8
theorem ZF:fC Try.prog GO T0 J9:=fC.cons ZG (bR ZG p9)
def a10:List LV:=[.agg [.int .i64 2, .aB [.int .i64 0] 1, .aB [.aB [.aB [.int .i64 0, .bool false] 1, .aB [.int .i64 0, .bool false, .int .i64 1, .bool false] 2] 2, .aB [.aj, .aB [.int .i64 1, .bool true] 1] 2] 2], .aB [.int .i64 1, .int .i64 (-1), .aB [.int .i64 0, .int .i64 1] 2, .int .i64 2, .int .i64 0, .aB [.int .i64 1] 1] 2, .int .i64 1]
def r10:LV:=.cy [.aB [.int .i64 1, .int .i64 (-1), .aB [.int .i64 0, .int .i64 1] 2, .int .i64 2, .int .i64 0, .aB [.int .i64 1] 1] 2, .agg [.aB [.int .i64 2] 1, .aj]]
theorem p10:cY T0 J9 20000 51 a10 r10=true:=by decide +kernel
abbrev J10:dw:=(51,a10,r10)::J9
theorem UC:fC Try.prog GO T0 J10:=fC.cons ZF (bR ZF p10)
def a11:List LV:=[.agg [.int .i64 2, .aB [.int .i64 0] 1, .aB [.aB [.aB [.int .i64 0, .bool false] 1, .aB [.int .i64 0, .bool false, .int .i64 1, .bool false] 2] 2, .aB [.aj, .aB [.int .i64 1, .bool true] 1] 2] 2], .int .i64 150]
def r11:LV:=.cy [.agg [.int .i64 2, .int .i64 0, .aB [.aB [.int .i64 0, .int .i64 1] 2, .aB [.int .i64 0, .int .i64 2] 2, .aB [.int .i64 3, .int .i64 2] 2, .aB [.int .i64 3, .int .i64 4] 2, .aB [.int .i64 3, .int .i64 5] 2, .aB [.int .i64 3, .int .i64 5] 2] 6, .aB [.aB [.int .i64 9, .int .i64 9] 2, .aB [.int .i64 9, .int .i64 9] 2, .aB [.int .i64 3, .int .i64 4] 2, .aB [.int .i64 9, .int .i64 9] 2, .aB [.int .i64 9, .int .i64 9] 2, .aB [.int .i64 7, .int .i64 8] 2] 6], .int .i64 0]
theorem p11:cY T0 J10 20000 7 a11 r11=true:=by decide +kernel
abbrev J11:dw:=(7,a11,r11)::J10
theorem UB:fC Try.prog GO T0 J11:=fC.cons UC (bR UC p11)
def a12:List LV:=[.agg [.int .i64 2, .int .i64 0, .aB [.aB [.int .i64 0, .int .i64 1] 2, .aB [.int .i64 0, .int .i64 2] 2, .aB [.int .i64 3, .int .i64 2] 2, .aB [.int .i64 3, .int .i64 4] 2, .aB [.int .i64 3, .int .i64 5] 2, .aB [.int .i64 3, .int .i64 5] 2] 6, .aB [.aB [.int .i64 9, .int .i64 9] 2, .aB [.int .i64 9, .int .i64 9] 2, .aB [.int .i64 3, .int .i64 4] 2, .aB [.int .i64 9, .int .i64 9] 2, .aB [.int .i64 9, .int .i64 9] 2, .aB [.int .i64 7, .int .i64 8] 2] 6]]
def r12:LV:=.bool true
theorem p12:cY T0 J11 20000 8 a12 r12=true:=by decide +kernel
abbrev J12:dw:=(8,a12,r12)::J11
theorem UA:fC Try.prog GO T0 J12:=fC.cons UB (bR UB p12)
def a13:List LV:=[.agg [.int .i64 2, .int .i64 0, .aB [.aB [.int .i64 0, .int .i64 1] 2, .aB [.int .i64 0, .int .i64 2] 2, .aB [.int .i64 3, .int .i64 2] 2, .aB [.int .i64 3, .int .i64 4] 2, .aB [.int .i64 3, .int .i64 5] 2, .aB [.int .i64 3, .int .i64 5] 2] 6, .aB [.aB [.int .i64 9, .int .i64 9] 2, .aB [.int .i64 9, .int .i64 9] 2, .aB [.int .i64 3, .int .i64 4] 2, .aB [.int .i64 9, .int .i64 9] 2, .aB [.int .i64 9, .int .i64 9] 2, .aB [.int .i64 7, .int .i64 8] 2] 6]]
def r13:LV:=.agg [.int .i64 2, .int .i64 0, .aB [.aB [.int .i64 0, .int .i64 1] 2, .aB [.int .i64 0, .int .i64 2] 2, .aB [.int .i64 3, .int .i64 2] 2, .aB [.int .i64 3, .int .i64 4] 2, .aB [.int .i64 3, .int .i64 5] 2, .aB [.int .i64 3, .int .i64 5] 2] 6, .aB [.aB [.int .i64 10, .int .i64 10] 2, .aB [.int .i64 10, .int .i64 10] 2, .aB [.int .i64 4, .int .i64 5] 2, .aB [.int .i64 10, .int .i64 10] 2, .aB [.int .i64 10, .int .i64 10] 2, .aB [.int .i64 8, .int .i64 9] 2] 6]
theorem p13:cY T0 J12 20000 14 a13 r13=true:=by decide +kernel
abbrev J13:dw:=(14,a13,r13)::J12
theorem Uz:fC Try.prog GO T0 J13:=fC.cons UA (bR UA p13)
def a14:List LV:=[.agg [.int .i64 2, .aB [.int .i64 0] 1, .aB [.aB [.aB [.int .i64 0, .bool false] 1, .aB [.int .i64 0, .bool false, .int .i64 1, .bool false] 2] 2, .aB [.aj, .aB [.int .i64 1, .bool true] 1] 2] 2], .int .i64 1]
def r14:LV:=.cy [.agg [.int .i64 0, .int .i64 0, .aj, .aj], .int .i64 2]
theorem p14:cY T0 J13 20000 7 a14 r14=true:=by decide +kernel
abbrev J14:dw:=(7,a14,r14)::J13
theorem Uy:fC Try.prog GO T0 J14:=fC.cons Uz (bR Uz p14)
def a15:List LV:=[.agg [.int .i64 2, .aB [.int .i64 0] 1, .aB [.aB [.aB [.int .i64 0, .bool false] 1, .aB [.int .i64 0, .bool false, .int .i64 1, .bool false] 2] 2, .aB [.aj, .aB [.int .i64 1, .bool true] 1] 2] 2], .int .i64 0]
def r15:LV:=.cy [.agg [.int .i64 0, .int .i64 0, .aj, .aj], .int .i64 1]
theorem p15:cY T0 J14 20000 7 a15 r15=true:=by decide +kernel
abbrev J15:dw:=(7,a15,r15)::J14
theorem Ux:fC Try.prog GO T0 J15:=fC.cons Uy (bR Uy p15)
def a16:List LV:=[.int .i64 2, .agg [.aj, .aB [.int .i64 1] 1]]
def r16:LV:=.bool true
theorem p16:cY T0 J15 20000 16 a16 r16=true:=by decide +kernel
abbrev J16:dw:=(16,a16,r16)::J15
theorem Uw:fC Try.prog GO T0 J16:=fC.cons Ux (bR Ux p16)
def a17:List LV:=[.agg [.int .i64 2, .int .i64 0, .aB [.aB [.int .i64 0, .int .i64 1] 2, .aB [.int .i64 0, .int .i64 2] 2, .aB [.int .i64 3, .int .i64 2] 2, .aB [.int .i64 3, .int .i64 4] 2, .aB [.int .i64 3, .int .i64 5] 2, .aB [.int .i64 3, .int .i64 5] 2] 6, .aB [.aB [.int .i64 9, .int .i64 9] 2, .aB [.int .i64 9, .int .i64 9] 2, .aB [.int .i64 3, .int .i64 4] 2, .aB [.int .i64 9, .int .i64 9] 2, .aB [.int .i64 9, .int .i64 9] 2, .aB [.int .i64 7, .int .i64 8] 2] 6], .agg [.aj, .aB [.int .i64 1] 1]]
def r17:LV:=.bool true
theorem p17:cY T0 J16 20000 9 a17 r17=true:=by decide +kernel
abbrev J17:dw:=(9,a17,r17)::J16
theorem Uv:fC Try.prog GO T0 J17:=fC.cons Uw (bR Uw p17)
def a18:List LV:=[.int .i64 2, .agg [.aj, .aB [.int .i64 0, .int .i64 1] 2]]
def r18:LV:=.bool true
theorem p18:cY T0 J17 20000 16 a18 r18=true:=by decide +kernel
abbrev J18:dw:=(16,a18,r18)::J17
theorem Uu:fC Try.prog GO T0 J18:=fC.cons Uv (bR Uv p18)
def a19:List LV:=[.agg [.int .i64 2, .int .i64 0, .aB [.aB [.int .i64 0, .int .i64 1] 2, .aB [.int .i64 0, .int .i64 2] 2, .aB [.int .i64 3, .int .i64 2] 2, .aB [.int .i64 3, .int .i64 4] 2, .aB [.int .i64 3, .int .i64 5] 2, .aB [.int .i64 3, .int .i64 5] 2] 6, .aB [.aB [.int .i64 9, .int .i64 9] 2, .aB [.int .i64 9, .int .i64 9] 2, .aB [.int .i64 3, .int .i64 4] 2, .aB [.int .i64 9, .int .i64 9] 2, .aB [.int .i64 9, .int .i64 9] 2, .aB [.int .i64 7, .int .i64 8] 2] 6], .agg [.aj, .aB [.int .i64 0, .int .i64 1] 2]]
def r19:LV:=.bool false
theorem p19:cY T0 J18 20000 9 a19 r19=true:=by decide +kernel
abbrev J19:dw:=(9,a19,r19)::J18
theorem Ut:fC Try.prog GO T0 J19:=fC.cons Uu (bR Uu p19)
def a20:List LV:=[.int .i64 2, .agg [.aB [.int .i64 0, .int .i64 0] 2, .aB [.int .i64 1] 1]]
def r20:LV:=.bool true
theorem p20:cY T0 J19 20000 16 a20 r20=true:=by decide +kernel
abbrev J20:dw:=(16,a20,r20)::J19
theorem Us:fC Try.prog GO T0 J20:=fC.cons Ut (bR Ut p20)
def a21:List LV:=[.agg [.int .i64 2, .int .i64 0, .aB [.aB [.int .i64 0, .int .i64 1] 2, .aB [.int .i64 0, .int .i64 2] 2, .aB [.int .i64 3, .int .i64 2] 2, .aB [.int .i64 3, .int .i64 4] 2, .aB [.int .i64 3, .int .i64 5] 2, .aB [.int .i64 3, .int .i64 5] 2] 6, .aB [.aB [.int .i64 9, .int .i64 9] 2, .aB [.int .i64 9, .int .i64 9] 2, .aB [.int .i64 3, .int .i64 4] 2, .aB [.int .i64 9, .int .i64 9] 2, .aB [.int .i64 9, .int .i64 9] 2, .aB [.int .i64 7, .int .i64 8] 2] 6], .agg [.aB [.int .i64 0, .int .i64 0] 2, .aB [.int .i64 1] 1]]
def r21:LV:=.bool true
theorem p21:cY T0 J20 20000 9 a21 r21=true:=by decide +kernel
abbrev J21:dw:=(9,a21,r21)::J20
theorem Ur:fC Try.prog GO T0 J21:=fC.cons Us (bR Us p21)
def a22:List LV:=[.agg [.int .i64 2, .int .i64 0, .aB [.aB [.int .i64 0, .int .i64 1] 2, .aB [.int .i64 0, .int .i64 2] 2, .aB [.int .i64 3, .int .i64 2] 2, .aB [.int .i64 3, .int .i64 4] 2, .aB [.int .i64 3, .int .i64 5] 2, .aB [.int .i64 3, .int .i64 5] 2] 6, .aB [.aB [.int .i64 10, .int .i64 10] 2, .aB [.int .i64 10, .int .i64 10] 2, .aB [.int .i64 4, .int .i64 5] 2, .aB [.int .i64 10, .int .i64 10] 2, .aB [.int .i64 10, .int .i64 10] 2, .aB [.int .i64 8, .int .i64 9] 2] 6]]
def r22:LV:=.bool true
theorem p22:cY T0 J21 20000 8 a22 r22=true:=by decide +kernel
abbrev J22:dw:=(8,a22,r22)::J21
theorem Uq:fC Try.prog GO T0 J22:=fC.cons Ur (bR Ur p22)
def a23:List LV:=[.agg [.int .i64 2, .int .i64 0, .aB [.aB [.int .i64 0, .int .i64 1] 2, .aB [.int .i64 0, .int .i64 2] 2, .aB [.int .i64 3, .int .i64 2] 2, .aB [.int .i64 3, .int .i64 4] 2, .aB [.int .i64 3, .int .i64 5] 2, .aB [.int .i64 3, .int .i64 5] 2] 6, .aB [.aB [.int .i64 10, .int .i64 10] 2, .aB [.int .i64 10, .int .i64 10] 2, .aB [.int .i64 4, .int .i64 5] 2, .aB [.int .i64 10, .int .i64 10] 2, .aB [.int .i64 10, .int .i64 10] 2, .aB [.int .i64 8, .int .i64 9] 2] 6], .agg [.aj, .aB [.int .i64 1] 1]]
def r23:LV:=.bool false
theorem p23:cY T0 J22 20000 9 a23 r23=true:=by decide +kernel
abbrev J23:dw:=(9,a23,r23)::J22
theorem Up:fC Try.prog GO T0 J23:=fC.cons Uq (bR Uq p23)
def a24:List LV:=[.agg [.int .i64 2, .int .i64 0, .aB [.aB [.int .i64 0, .int .i64 1] 2, .aB [.int .i64 0, .int .i64 2] 2, .aB [.int .i64 3, .int .i64 2] 2, .aB [.int .i64 3, .int .i64 4] 2, .aB [.int .i64 3, .int .i64 5] 2, .aB [.int .i64 3, .int .i64 5] 2] 6, .aB [.aB [.int .i64 10, .int .i64 10] 2, .aB [.int .i64 10, .int .i64 10] 2, .aB [.int .i64 4, .int .i64 5] 2, .aB [.int .i64 10, .int .i64 10] 2, .aB [.int .i64 10, .int .i64 10] 2, .aB [.int .i64 8, .int .i64 9] 2] 6], .agg [.aj, .aB [.int .i64 0, .int .i64 1] 2]]
def r24:LV:=.bool true
theorem p24:cY T0 J23 20000 9 a24 r24=true:=by decide +kernel
abbrev J24:dw:=(9,a24,r24)::J23
theorem Uo:fC Try.prog GO T0 J24:=fC.cons Up (bR Up p24)
def a25:List LV:=[.agg [.int .i64 1, .int .i64 0, .aB [.aB [.int .i64 1] 1, .aB [.int .i64 0] 1] 2, .aB [.aB [.int .i64 3] 1, .aB [.int .i64 2] 1] 2]]
def r25:LV:=.bool true
theorem p25:cY T0 J24 20000 8 a25 r25=true:=by decide +kernel
abbrev J25:dw:=(8,a25,r25)::J24
theorem Un:fC Try.prog GO T0 J25:=fC.cons Uo (bR Uo p25)
def a26:List LV:=[.int .i64 1, .agg [.aj, .aB [.int .i64 0] 1]]
def r26:LV:=.bool true
theorem p26:cY T0 J25 20000 16 a26 r26=true:=by decide +kernel
abbrev J26:dw:=(16,a26,r26)::J25
theorem Um:fC Try.prog GO T0 J26:=fC.cons Un (bR Un p26)
def a27:List LV:=[.agg [.int .i64 1, .int .i64 0, .aB [.aB [.int .i64 1] 1, .aB [.int .i64 0] 1] 2, .aB [.aB [.int .i64 3] 1, .aB [.int .i64 2] 1] 2], .agg [.aj, .aB [.int .i64 0] 1]]
def r27:LV:=.bool true
theorem p27:cY T0 J26 20000 9 a27 r27=true:=by decide +kernel
abbrev J27:dw:=(9,a27,r27)::J26
theorem Ul:fC Try.prog GO T0 J27:=fC.cons Um (bR Um p27)
def a28:List LV:=[.agg [.int .i64 1, .int .i64 0, .aB [.aB [.int .i64 1] 1, .aB [.int .i64 1] 1] 2, .aB [.aB [.int .i64 0] 1, .aB [.int .i64 5] 1] 2]]
def r28:LV:=.bool true
theorem p28:cY T0 J27 20000 8 a28 r28=true:=by decide +kernel
abbrev J28:dw:=(8,a28,r28)::J27
theorem Uk:fC Try.prog GO T0 J28:=fC.cons Ul (bR Ul p28)
def a29:List LV:=[.agg [.int .i64 1, .int .i64 0, .aB [.aB [.int .i64 1] 1, .aB [.int .i64 1] 1] 2, .aB [.aB [.int .i64 0] 1, .aB [.int .i64 5] 1] 2], .agg [.aj, .aB [.int .i64 0] 1]]
def r29:LV:=.bool false
theorem p29:cY T0 J28 20000 9 a29 r29=true:=by decide +kernel
abbrev J29:dw:=(9,a29,r29)::J28
theorem Uj:fC Try.prog GO T0 J29:=fC.cons Uk (bR Uk p29)
def a30:List LV:=[.int .i64 1, .agg [.aj, .aB [.int .i64 1] 1]]
def r30:LV:=.bool false
theorem p30:cY T0 J29 20000 16 a30 r30=true:=by decide +kernel
abbrev J30:dw:=(16,a30,r30)::J29
theorem Ui:fC Try.prog GO T0 J30:=fC.cons Uj (bR Uj p30)
def a31:List LV:=[.agg [.int .i64 1, .int .i64 0, .aB [.aB [.int .i64 1] 1, .aB [.int .i64 0] 1] 2, .aB [.aB [.int .i64 3] 1, .aB [.int .i64 2] 1] 2], .agg [.aj, .aB [.int .i64 1] 1]]
def r31:LV:=.bool false
theorem p31:cY T0 J30 20000 9 a31 r31=true:=by decide +kernel
abbrev J31:dw:=(9,a31,r31)::J30
theorem Uh:fC Try.prog GO T0 J31:=fC.cons Ui (bR Ui p31)
def a32:List LV:=[.agg [.int .i64 0, .int .i64 0, .aj, .aj]]
def r32:LV:=.bool false
theorem p32:cY T0 J31 20000 8 a32 r32=true:=by decide +kernel
abbrev J32:dw:=(8,a32,r32)::J31
theorem Ug:fC Try.prog GO T0 J32:=fC.cons Uh (bR Uh p32)
def a33:List LV:=[.agg [.aB [.int .i64 0, .int .i64 0] 2, .aB [.int .i64 1] 1]]
def r33:LV:=.agg [.aB [.int .i64 0, .int .i64 0] 2, .aB [.int .i64 1] 1]
theorem p33:cY T0 J32 20000 42 a33 r33=true:=by decide +kernel
abbrev J33:dw:=(42,a33,r33)::J32
theorem Uf:fC Try.prog GO T0 J33:=fC.cons Ug (bR Ug p33)
def a34:List LV:=[.agg [.int .i64 2, .aB [.int .i64 0] 1, .aB [.aB [.aB [.int .i64 0, .bool false] 1, .aB [.int .i64 0, .bool false, .int .i64 1, .bool false] 2] 2, .aB [.aj, .aB [.int .i64 1, .bool true] 1] 2] 2], .agg [.aB [.int .i64 0, .int .i64 0] 2, .aB [.int .i64 1] 1]]
def r34:LV:=.bool true
theorem p34:cY T0 J33 20000 10 a34 r34=true:=by decide +kernel
abbrev J34:dw:=(10,a34,r34)::J33
theorem ZL:fC Try.prog GO T0 J34:=fC.cons Uf (bR Uf p34)
def a35:List LV:=[]
def r35:LV:=.bool true
theorem p35:cY T0 J34 20000 5 a35 r35=true:=by decide +kernel
theorem KZ:eB Try.prog GL (.fn (.func 5) [] []) [] (.bool true):=bR ZL p35
end Go.Proofs.Ytkbiecjdcjfhaaa
