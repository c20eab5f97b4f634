/- The law package's own look at its examples, run: each closed call on known values, and the head's answer at last. -/
import Derived.Test.YtmblpcidfjemhaaDoorProg
import Derived.Test.YtmblpcidfjemhaaDoorPvCall
import Derived.Test.YtmblpcidfjemhaaDoorGl
set_option linter.unusedSimpArgs false
set_option linter.unusedVariables false
namespace Go.Proofs.YtmblpcidfjemhaaDoor
open Go Go.Pv
set_option maxRecDepth 100000
def refs:List (Nat × List Nat):=[(31,[3]),(105,[2]),(58,[2])]
def GO:Globs:=(ownId,[])::GL
noncomputable def T0:Nat→Option LFunc:=tabOf Tryd.prog GO refs
theorem tab0:Tab Tryd.prog GO T0 []:=tabOf_tab (by decide +kernel) (by decide +kernel)
abbrev J0:PTab:=[]
theorem how:true=true→ownG GO=true:=fun _=>by decide +kernel
def a1:List LV:=[]
def r1:LV:=.agg [.int .i64 2, .simm [.int .i64 0] 1, .simm [.simm [.simm [.int .i64 0, .bool false] 1, .simm [.int .i64 0, .bool false, .int .i64 1, .bool false] 2] 2, .simm [.nils, .simm [.int .i64 1, .bool true] 1] 2] 2]
theorem p1:pureB T0 J0 20000 14 a1 r1 true=true:=by decide +kernel
abbrev J1:PTab:=(14,a1,r1)::J0
theorem tab1:Tab Tryd.prog GO T0 J1:=Tab.cons tab0 (pure_ev tab0 p1 how)
def a2:List LV:=[.agg [.int .i64 2, .simm [.int .i64 0] 1, .simm [.simm [.simm [.int .i64 0, .bool false] 1, .simm [.int .i64 0, .bool false, .int .i64 1, .bool false] 2] 2, .simm [.nils, .simm [.int .i64 1, .bool true] 1] 2] 2]]
def r2:LV:=.bool true
theorem p2:pureB T0 J1 20000 16 a2 r2 true=true:=by decide +kernel
abbrev J2:PTab:=(16,a2,r2)::J1
theorem tab2:Tab Tryd.prog GO T0 J2:=Tab.cons tab1 (pure_ev tab1 p2 how)
def a3:List LV:=[.agg [.int .i64 2, .simm [.int .i64 0] 1, .simm [.simm [.simm [.int .i64 0, .bool false] 1, .simm [.int .i64 0, .bool false, .int .i64 1, .bool false] 2] 2, .simm [.nils, .simm [.int .i64 1, .bool true] 1] 2] 2]]
def r3:LV:=.simm [.int .i64 1, .int .i64 2] 2
theorem p3:pureB T0 J2 20000 19 a3 r3 true=true:=by decide +kernel
abbrev J3:PTab:=(19,a3,r3)::J2
theorem tab3:Tab Tryd.prog GO T0 J3:=Tab.cons tab2 (pure_ev tab2 p3 how)
def a4:List LV:=[.agg [.int .i64 2, .simm [.int .i64 0] 1, .simm [.simm [.simm [.int .i64 0, .bool false] 1, .simm [.int .i64 0, .bool false, .int .i64 1, .bool false] 2] 2, .simm [.nils, .simm [.int .i64 1, .bool true] 1] 2] 2]]
def r4:LV:=.tup [.agg [.simm [.int .i64 1] 1, .simm [.int .i64 1] 1], .bool true]
theorem p4:pureB T0 J3 20000 6 a4 r4 true=true:=by decide +kernel
abbrev J4:PTab:=(6,a4,r4)::J3
theorem tab4:Tab Tryd.prog GO T0 J4:=Tab.cons tab3 (pure_ev tab3 p4 how)
def a5:List LV:=[.agg [.int .i64 2, .simm [.int .i64 0] 1, .simm [.simm [.nils, .simm [.int .i64 0, .bool false] 1] 2] 1]]
def r5:LV:=.bool true
theorem p5:pureB T0 J4 20000 16 a5 r5 true=true:=by decide +kernel
abbrev J5:PTab:=(16,a5,r5)::J4
theorem tab5:Tab Tryd.prog GO T0 J5:=Tab.cons tab4 (pure_ev tab4 p5 how)
def a6:List LV:=[.agg [.int .i64 2, .simm [.int .i64 0] 1, .simm [.simm [.nils, .simm [.int .i64 0, .bool false] 1] 2] 1]]
def r6:LV:=.simm [.int .i64 1] 1
theorem p6:pureB T0 J5 20000 19 a6 r6 true=true:=by decide +kernel
abbrev J6:PTab:=(19,a6,r6)::J5
theorem tab6:Tab Tryd.prog GO T0 J6:=Tab.cons tab5 (pure_ev tab5 p6 how)
def a7:List LV:=[.agg [.int .i64 2, .simm [.int .i64 0] 1, .simm [.simm [.nils, .simm [.int .i64 0, .bool false] 1] 2] 1]]
def r7:LV:=.tup [.agg [.nils, .nils], .bool false]
theorem p7:pureB T0 J6 20000 6 a7 r7 true=true:=by decide +kernel
abbrev J7:PTab:=(6,a7,r7)::J6
theorem tab7:Tab Tryd.prog GO T0 J7:=Tab.cons tab6 (pure_ev tab6 p7 how)
def a8:List LV:=[.agg [.int .i64 2, .simm [.int .i64 0] 1, .simm [.simm [.nils, .simm [.int .i64 0, .bool true] 1] 2] 1]]
def r8:LV:=.bool true
theorem p8:pureB T0 J7 20000 16 a8 r8 true=true:=by decide +kernel
abbrev J8:PTab:=(16,a8,r8)::J7
theorem tab8:Tab Tryd.prog GO T0 J8:=Tab.cons tab7 (pure_ev tab7 p8 how)
def a9:List LV:=[.agg [.int .i64 2, .simm [.int .i64 0] 1, .simm [.simm [.nils, .simm [.int .i64 0, .bool true] 1] 2] 1]]
def r9:LV:=.simm [.int .i64 1] 1
theorem p9:pureB T0 J8 20000 19 a9 r9 true=true:=by decide +kernel
abbrev J9:PTab:=(19,a9,r9)::J8
theorem tab9:Tab Tryd.prog GO T0 J9:=Tab.cons tab8 (pure_ev tab8 p9 how)
def a10:List LV:=[.agg [.int .i64 2, .simm [.int .i64 0] 1, .simm [.simm [.nils, .simm [.int .i64 0, .bool true] 1] 2] 1]]
def r10:LV:=.tup [.agg [.nils, .simm [.int .i64 1] 1], .bool true]
theorem p10:pureB T0 J9 20000 6 a10 r10 true=true:=by decide +kernel
abbrev J10:PTab:=(6,a10,r10)::J9
theorem tab10:Tab Tryd.prog GO T0 J10:=Tab.cons tab9 (pure_ev tab9 p10 how)
def a11:List LV:=[.agg [.int .i64 1, .nils, .simm [.simm [.simm [.int .i64 1, .bool false] 1] 1, .simm [.simm [.int .i64 1, .bool true] 1] 1, .simm [.simm [.int .i64 2, .bool false] 1] 1] 3]]
def r11:LV:=.bool true
theorem p11:pureB T0 J10 20000 16 a11 r11 true=true:=by decide +kernel
abbrev J11:PTab:=(16,a11,r11)::J10
theorem tab11:Tab Tryd.prog GO T0 J11:=Tab.cons tab10 (pure_ev tab10 p11 how)
def a12:List LV:=[.agg [.int .i64 1, .nils, .simm [.simm [.simm [.int .i64 1, .bool false] 1] 1, .simm [.simm [.int .i64 1, .bool true] 1] 1, .simm [.simm [.int .i64 2, .bool false] 1] 1] 3]]
def r12:LV:=.simm [.int .i64 1, .int .i64 2, .int .i64 3] 3
theorem p12:pureB T0 J11 20000 19 a12 r12 true=true:=by decide +kernel
abbrev J12:PTab:=(19,a12,r12)::J11
theorem tab12:Tab Tryd.prog GO T0 J12:=Tab.cons tab11 (pure_ev tab11 p12 how)
def a13:List LV:=[.agg [.int .i64 1, .nils, .simm [.simm [.simm [.int .i64 1, .bool false] 1] 1, .simm [.simm [.int .i64 1, .bool true] 1] 1, .simm [.simm [.int .i64 2, .bool false] 1] 1] 3]]
def r13:LV:=.simm [.bool true, .bool true, .bool false] 3
theorem p13:pureB T0 J12 20000 12 a13 r13 true=true:=by decide +kernel
abbrev J13:PTab:=(12,a13,r13)::J12
theorem tab13:Tab Tryd.prog GO T0 J13:=Tab.cons tab12 (pure_ev tab12 p13 how)
def a14:List LV:=[.agg [.int .i64 2, .simm [.int .i64 0] 1, .simm [.simm [.simm [.int .i64 0, .bool false] 1, .simm [.int .i64 0, .bool false, .int .i64 1, .bool false] 2] 2, .simm [.nils, .simm [.int .i64 1, .bool true] 1] 2] 2], .agg [.int .i64 2, .simm [.int .i64 0] 1, .simm [.simm [.nils, .simm [.int .i64 0, .bool true] 1] 2] 1], .int .i64 20]
def r14:LV:=.tup [.agg [.int .i64 2, .simm [.int .i64 0] 1, .simm [.simm [.nils, .simm [.int .i64 0, .bool false, .int .i64 1, .bool false] 2] 2, .simm [.nils, .simm [.int .i64 1, .bool true] 1] 2] 2], .int .i64 0]
theorem p14:pureB T0 J13 20000 25 a14 r14 true=true:=by decide +kernel
abbrev J14:PTab:=(25,a14,r14)::J13
theorem tab14:Tab Tryd.prog GO T0 J14:=Tab.cons tab13 (pure_ev tab13 p14 how)
def a15:List LV:=[.agg [.int .i64 2, .simm [.int .i64 0] 1, .simm [.simm [.nils, .simm [.int .i64 0, .bool false, .int .i64 1, .bool false] 2] 2, .simm [.nils, .simm [.int .i64 1, .bool true] 1] 2] 2]]
def r15:LV:=.bool true
theorem p15:pureB T0 J14 20000 16 a15 r15 true=true:=by decide +kernel
abbrev J15:PTab:=(16,a15,r15)::J14
theorem tab15:Tab Tryd.prog GO T0 J15:=Tab.cons tab14 (pure_ev tab14 p15 how)
def a16:List LV:=[.agg [.int .i64 2, .simm [.int .i64 0] 1, .simm [.simm [.nils, .simm [.int .i64 0, .bool false, .int .i64 1, .bool false] 2] 2, .simm [.nils, .simm [.int .i64 1, .bool true] 1] 2] 2]]
def r16:LV:=.simm [.int .i64 1, .int .i64 2] 2
theorem p16:pureB T0 J15 20000 19 a16 r16 true=true:=by decide +kernel
abbrev J16:PTab:=(19,a16,r16)::J15
theorem tab16:Tab Tryd.prog GO T0 J16:=Tab.cons tab15 (pure_ev tab15 p16 how)
def a17:List LV:=[.agg [.int .i64 2, .simm [.int .i64 0] 1, .simm [.simm [.nils, .simm [.int .i64 0, .bool false, .int .i64 1, .bool false] 2] 2, .simm [.nils, .simm [.int .i64 1, .bool true] 1] 2] 2]]
def r17:LV:=.tup [.agg [.simm [.int .i64 1] 1, .simm [.int .i64 1] 1], .bool true]
theorem p17:pureB T0 J16 20000 6 a17 r17 true=true:=by decide +kernel
abbrev J17:PTab:=(6,a17,r17)::J16
theorem tab17:Tab Tryd.prog GO T0 J17:=Tab.cons tab16 (pure_ev tab16 p17 how)
def a18:List LV:=[.agg [.int .i64 2, .simm [.int .i64 0] 1, .simm [.simm [.simm [.int .i64 0, .bool false] 1, .simm [.int .i64 0, .bool false, .int .i64 1, .bool false] 2] 2, .simm [.nils, .simm [.int .i64 1, .bool true] 1] 2] 2], .agg [.int .i64 2, .simm [.int .i64 0] 1, .simm [.simm [.nils, .simm [.int .i64 0, .bool true] 1] 2] 1], .int .i64 20]
def r18:LV:=.tup [.agg [.simm [.int .i64 1] 1, .simm [.int .i64 1] 1], .bool true, .int .i64 0]
theorem p18:pureB T0 J17 20000 8 a18 r18 true=true:=by decide +kernel
abbrev J18:PTab:=(8,a18,r18)::J17
theorem tab18:Tab Tryd.prog GO T0 J18:=Tab.cons tab17 (pure_ev tab17 p18 how)
def a19:List LV:=[.agg [.int .i64 2, .simm [.int .i64 0] 1, .simm [.simm [.simm [.int .i64 0, .bool false] 1, .simm [.int .i64 0, .bool false, .int .i64 1, .bool false] 2] 2, .simm [.nils, .simm [.int .i64 1, .bool true] 1] 2] 2], .agg [.int .i64 2, .simm [.int .i64 0] 1, .simm [.simm [.nils, .simm [.int .i64 0, .bool true] 1] 2] 1], .int .i64 0]
def r19:LV:=.tup [.agg [.int .i64 0, .nils, .nils], .int .i64 1]
theorem p19:pureB T0 J18 20000 25 a19 r19 true=true:=by decide +kernel
abbrev J19:PTab:=(25,a19,r19)::J18
theorem tab19:Tab Tryd.prog GO T0 J19:=Tab.cons tab18 (pure_ev tab18 p19 how)
def a20:List LV:=[.agg [.int .i64 2, .simm [.int .i64 0] 1, .simm [.simm [.simm [.int .i64 0, .bool false] 1, .simm [.int .i64 0, .bool false, .int .i64 1, .bool false] 2] 2, .simm [.nils, .simm [.int .i64 1, .bool true] 1] 2] 2], .agg [.int .i64 2, .simm [.int .i64 0] 1, .simm [.simm [.nils, .simm [.int .i64 0, .bool true] 1] 2] 1], .int .i64 0]
def r20:LV:=.tup [.agg [.nils, .nils], .bool false, .int .i64 1]
theorem p20:pureB T0 J19 20000 8 a20 r20 true=true:=by decide +kernel
abbrev J20:PTab:=(8,a20,r20)::J19
theorem tab20:Tab Tryd.prog GO T0 J20:=Tab.cons tab19 (pure_ev tab19 p20 how)
def a21:List LV:=[.simm [.int .i64 1] 1, .simm [.int .i64 1] 1]
def r21:LV:=.bool true
theorem p21:pureB T0 J20 20000 27 a21 r21 true=true:=by decide +kernel
abbrev J21:PTab:=(27,a21,r21)::J20
theorem tab21:Tab Tryd.prog GO T0 J21:=Tab.cons tab20 (pure_ev tab20 p21 how)
def a22:List LV:=[.agg [.simm [.int .i64 1] 1, .simm [.int .i64 1] 1], .agg [.simm [.int .i64 1] 1, .simm [.int .i64 1] 1]]
def r22:LV:=.bool true
theorem p22:pureB T0 J21 20000 10 a22 r22 true=true:=by decide +kernel
abbrev J22:PTab:=(10,a22,r22)::J21
theorem tab22:Tab Tryd.prog GO T0 J22:=Tab.cons tab21 (pure_ev tab21 p22 how)
def a23:List LV:=[.nils, .nils]
def r23:LV:=.bool true
theorem p23:pureB T0 J22 20000 27 a23 r23 true=true:=by decide +kernel
abbrev J23:PTab:=(27,a23,r23)::J22
theorem tab23:Tab Tryd.prog GO T0 J23:=Tab.cons tab22 (pure_ev tab22 p23 how)
def a24:List LV:=[.agg [.nils, .simm [.int .i64 1] 1], .agg [.nils, .simm [.int .i64 1] 1]]
def r24:LV:=.bool true
theorem p24:pureB T0 J23 20000 10 a24 r24 true=true:=by decide +kernel
abbrev J24:PTab:=(10,a24,r24)::J23
theorem tab24:Tab Tryd.prog GO T0 J24:=Tab.cons tab23 (pure_ev tab23 p24 how)
def a25:List LV:=[.simm [.bool true, .bool true, .bool false] 3, .simm [.bool true, .bool true, .bool false] 3]
def r25:LV:=.bool true
theorem p25:pureB T0 J24 20000 11 a25 r25 true=true:=by decide +kernel
abbrev J25:PTab:=(11,a25,r25)::J24
theorem tab25:Tab Tryd.prog GO T0 J25:=Tab.cons tab24 (pure_ev tab24 p25 how)
def a26:List LV:=[.int .i64 2, .agg [.simm [.int .i64 1] 1, .simm [.int .i64 1] 1]]
def r26:LV:=.bool true
theorem p26:pureB T0 J25 20000 29 a26 r26 true=true:=by decide +kernel
abbrev J26:PTab:=(29,a26,r26)::J25
theorem tab26:Tab Tryd.prog GO T0 J26:=Tab.cons tab25 (pure_ev tab25 p26 how)
def a27:List LV:=[.simm [.int .i64 1] 1]
def r27:LV:=.int .i64 1
theorem p27:pureB T0 J26 20000 69 a27 r27 true=true:=by decide +kernel
abbrev J27:PTab:=(69,a27,r27)::J26
theorem tab27:Tab Tryd.prog GO T0 J27:=Tab.cons tab26 (pure_ev tab26 p27 how)
def a28:List LV:=[.simm [.int .i64 1] 1, .int .i64 0]
def r28:LV:=.simm [.int .i64 1] 1
theorem p28:pureB T0 J27 20000 71 a28 r28 true=true:=by decide +kernel
abbrev J28:PTab:=(71,a28,r28)::J27
theorem tab28:Tab Tryd.prog GO T0 J28:=Tab.cons tab27 (pure_ev tab27 p28 how)
def a29:List LV:=[.agg [.simm [.int .i64 1] 1, .simm [.int .i64 1] 1]]
def r29:LV:=.agg [.simm [] 0, .simm [.int .i64 1] 1]
theorem p29:pureB T0 J28 20000 64 a29 r29 true=true:=by decide +kernel
abbrev J29:PTab:=(64,a29,r29)::J28
theorem tab29:Tab Tryd.prog GO T0 J29:=Tab.cons tab28 (pure_ev tab28 p29 how)
def a30:List LV:=[.agg [.simm [.int .i64 1] 1, .simm [.int .i64 1] 1]]
def r30:LV:=.agg [.simm [] 0, .simm [.int .i64 1] 1]
theorem p30:pureB T0 J29 20000 51 a30 r30 true=true:=by decide +kernel
abbrev J30:PTab:=(51,a30,r30)::J29
theorem tab30:Tab Tryd.prog GO T0 J30:=Tab.cons tab29 (pure_ev tab29 p30 how)
def a31:List LV:=[.agg [.int .i64 2, .simm [.int .i64 0] 1, .simm [.simm [.simm [.int .i64 0, .bool false] 1, .simm [.int .i64 0, .bool false, .int .i64 1, .bool false] 2] 2, .simm [.nils, .simm [.int .i64 1, .bool true] 1] 2] 2], .agg [.simm [.int .i64 1] 1, .simm [.int .i64 1] 1]]
def r31:LV:=.agg [.int .i64 2, .simm [.int .i64 0] 1, .simm [.simm [.simm [.int .i64 0, .bool false] 1, .simm [.int .i64 0, .bool false, .int .i64 1, .bool false] 2] 2, .simm [.nils, .simm [.int .i64 1, .bool true] 1] 2] 2, .simm [.int .i64 1] 1, .int .i64 0]
theorem p31:pureB T0 J30 20000 30 a31 r31 true=true:=by decide +kernel
abbrev J31:PTab:=(30,a31,r31)::J30
theorem tab31:Tab Tryd.prog GO T0 J31:=Tab.cons tab30 (pure_ev tab30 p31 how)
def a32:List LV:=[.agg [.int .i64 2, .simm [.int .i64 0] 1, .simm [.simm [.simm [.int .i64 0, .bool false] 1, .simm [.int .i64 0, .bool false, .int .i64 1, .bool false] 2] 2, .simm [.nils, .simm [.int .i64 1, .bool true] 1] 2] 2, .simm [.int .i64 1] 1, .int .i64 0]]
def r32:LV:=.simm [.int .i64 0, .int .i64 0] 1
theorem p32:pureB T0 J31 20000 33 a32 r32 true=true:=by decide +kernel
abbrev J32:PTab:=(33,a32,r32)::J31
theorem tab32:Tab Tryd.prog GO T0 J32:=Tab.cons tab31 (pure_ev tab31 p32 how)
def a33:List LV:=[.simm [.simm [.int .i64 0, .int .i64 1] 2, .simm [.int .i64 1] 1] 2]
def r33:LV:=.simm [.int .i64 1, .int .i64 2] 2
theorem p33:pureB T0 J32 20000 55 a33 r33 true=true:=by decide +kernel
abbrev J33:PTab:=(55,a33,r33)::J32
theorem tab33:Tab Tryd.prog GO T0 J33:=Tab.cons tab32 (pure_ev tab32 p33 how)
def a34:List LV:=[.agg [.int .i64 2, .simm [.int .i64 0] 1, .simm [.simm [.simm [.int .i64 0, .bool false] 1, .simm [.int .i64 0, .bool false, .int .i64 1, .bool false] 2] 2, .simm [.nils, .simm [.int .i64 1, .bool true] 1] 2] 2], .agg [.simm [.int .i64 1] 1, .simm [.int .i64 1] 1]]
def r34:LV:=.bool true
theorem p34:pureB T0 J33 20000 15 a34 r34 true=true:=by decide +kernel
abbrev J34:PTab:=(15,a34,r34)::J33
theorem tab34:Tab Tryd.prog GO T0 J34:=Tab.cons tab33 (pure_ev tab33 p34 how)
def a35:List LV:=[]
def r35:LV:=.agg [.int .i64 1, .str ⟨#[]⟩, .int .i64 0, .int .i64 0, .nils]
theorem p35:pureB T0 J34 20000 18 a35 r35 true=true:=by decide +kernel
abbrev J35:PTab:=(18,a35,r35)::J34
theorem tab35:Tab Tryd.prog GO T0 J35:=Tab.cons tab34 (pure_ev tab34 p35 how)
def a36:List LV:=[.agg [.int .i64 1, .str ⟨#[]⟩, .int .i64 0, .int .i64 0, .nils]]
def r36:LV:=.int .i64 1
theorem p36:pureB T0 J35 20000 17 a36 r36 true=true:=by decide +kernel
abbrev J36:PTab:=(17,a36,r36)::J35
theorem tab36:Tab Tryd.prog GO T0 J36:=Tab.cons tab35 (pure_ev tab35 p36 how)
def a37:List LV:=[]
def r37:LV:=.bool true
theorem p37:pureB T0 J36 20000 4 a37 r37 true=true:=by decide +kernel
theorem head_true:PureOk Tryd.prog GL (.fn (.func 4) [] []) [] (.bool true):=pure_unflag (how rfl) (pure_ev tab36 p37 how)
end Go.Proofs.YtmblpcidfjemhaaDoor
