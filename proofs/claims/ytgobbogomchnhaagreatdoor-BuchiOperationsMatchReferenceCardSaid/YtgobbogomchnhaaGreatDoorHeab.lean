/- The law package's own look at its examples, run: each closed call on known values, and the head's answer at last. -/
import Derived.Test.YtgobbogomchnhaaGreatDoorProg
import Derived.Test.YtgobbogomchnhaaGreatDoorPvCall
import Derived.Test.YtgobbogomchnhaaGreatDoorGl
set_option linter.unusedSimpArgs false
set_option linter.unusedVariables false
namespace Go.Proofs.YtgobbogomchnhaaGreatDoor
open Go Go.Pv
set_option maxRecDepth 100000
def refs:List (Nat × List Nat):=[(51,[3]),(52,[2]),(237,[2]),(105,[1]),(73,[3]),(113,[2]),(177,[30]),(181,[2]),(244,[2]),(304,[1]),(331,[2]),(272,[2]),(267,[2]),(274,[1]),(327,[2]),(154,[2]),(239,[4]),(250,[2]),(193,[16]),(118,[17]),(55,[17,45])]
def GO:Globs:=(ownId,[])::GL
noncomputable def T0:Nat→Option LFunc:=tabOf Tryz.prog GO refs
theorem tab0:Tab Tryz.prog GO T0 []:=tabOf_tab (by decide +kernel) (by decide +kernel)
abbrev J0:PTab:=[]
theorem how:true=true→ownG GO=true:=fun _=>by decide +kernel
def a1:List LV:=[.simm [.str ⟨#[114]⟩, .bool true, .int .i64 2, .str ⟨#[103]⟩, .bool false, .int .i64 2] 2]
def r1:LV:=.bool true
theorem p1:pureB T0 J0 20000 98 a1 r1 true=true:=by decide +kernel
abbrev J1:PTab:=(98,a1,r1)::J0
theorem tab1:Tab Tryz.prog GO T0 J1:=Tab.cons tab0 (pure_ev tab0 p1 how)
def a2:List LV:=[.agg [.int .i64 9, .str ⟨#[]⟩, .int .i64 0, .int .i64 0, .simm [.int .i64 1, .str ⟨#[]⟩, .int .i64 0, .int .i64 0, .nils, .int .i64 3, .str ⟨#[103]⟩, .int .i64 1, .int .i64 0, .nils] 2]]
def r2:LV:=.bool true
theorem p2:pureB T0 J1 20000 99 a2 r2 true=true:=by decide +kernel
abbrev J2:PTab:=(99,a2,r2)::J1
theorem tab2:Tab Tryz.prog GO T0 J2:=Tab.cons tab1 (pure_ev tab1 p2 how)
def a3:List LV:=[.simm [.str ⟨#[114]⟩, .bool true, .int .i64 2, .str ⟨#[103]⟩, .bool false, .int .i64 2] 2, .str ⟨#[103]⟩]
def r3:LV:=.int .i64 1
theorem p3:pureB T0 J2 20000 101 a3 r3 true=true:=by decide +kernel
abbrev J3:PTab:=(101,a3,r3)::J2
theorem tab3:Tab Tryz.prog GO T0 J3:=Tab.cons tab2 (pure_ev tab2 p3 how)
def a4:List LV:=[.simm [.str ⟨#[114]⟩, .bool true, .int .i64 2, .str ⟨#[103]⟩, .bool false, .int .i64 2] 2, .agg [.int .i64 9, .str ⟨#[]⟩, .int .i64 0, .int .i64 0, .simm [.int .i64 1, .str ⟨#[]⟩, .int .i64 0, .int .i64 0, .nils, .int .i64 3, .str ⟨#[103]⟩, .int .i64 1, .int .i64 0, .nils] 2]]
def r4:LV:=.bool true
theorem p4:pureB T0 J3 20000 68 a4 r4 true=true:=by decide +kernel
abbrev J4:PTab:=(68,a4,r4)::J3
theorem tab4:Tab Tryz.prog GO T0 J4:=Tab.cons tab3 (pure_ev tab3 p4 how)
def a5:List LV:=[.agg [.int .i64 1, .str ⟨#[]⟩, .int .i64 0, .int .i64 0, .nils]]
def r5:LV:=.bool false
theorem p5:pureB T0 J4 20000 129 a5 r5 true=true:=by decide +kernel
abbrev J5:PTab:=(129,a5,r5)::J4
theorem tab5:Tab Tryz.prog GO T0 J5:=Tab.cons tab4 (pure_ev tab4 p5 how)
def a6:List LV:=[.agg [.int .i64 3, .str ⟨#[103]⟩, .int .i64 1, .int .i64 0, .nils]]
def r6:LV:=.bool false
theorem p6:pureB T0 J5 20000 129 a6 r6 true=true:=by decide +kernel
abbrev J6:PTab:=(129,a6,r6)::J5
theorem tab6:Tab Tryz.prog GO T0 J6:=Tab.cons tab5 (pure_ev tab5 p6 how)
def a7:List LV:=[.agg [.int .i64 9, .str ⟨#[]⟩, .int .i64 0, .int .i64 0, .simm [.int .i64 1, .str ⟨#[]⟩, .int .i64 0, .int .i64 0, .nils, .int .i64 3, .str ⟨#[103]⟩, .int .i64 1, .int .i64 0, .nils] 2]]
def r7:LV:=.bool false
theorem p7:pureB T0 J6 20000 129 a7 r7 true=true:=by decide +kernel
abbrev J7:PTab:=(129,a7,r7)::J6
theorem tab7:Tab Tryz.prog GO T0 J7:=Tab.cons tab6 (pure_ev tab6 p7 how)
def a8:List LV:=[.agg [.int .i64 9, .str ⟨#[]⟩, .int .i64 0, .int .i64 0, .simm [.int .i64 1, .str ⟨#[]⟩, .int .i64 0, .int .i64 0, .nils, .int .i64 3, .str ⟨#[103]⟩, .int .i64 1, .int .i64 0, .nils] 2]]
def r8:LV:=.nils
theorem p8:pureB T0 J7 20000 102 a8 r8 true=true:=by decide +kernel
abbrev J8:PTab:=(102,a8,r8)::J7
theorem tab8:Tab Tryz.prog GO T0 J8:=Tab.cons tab7 (pure_ev tab7 p8 how)
def a9:List LV:=[.agg [.int .i64 9, .str ⟨#[]⟩, .int .i64 0, .int .i64 0, .simm [.int .i64 1, .str ⟨#[]⟩, .int .i64 0, .int .i64 0, .nils, .int .i64 3, .str ⟨#[103]⟩, .int .i64 1, .int .i64 0, .nils] 2]]
def r9:LV:=.bool false
theorem p9:pureB T0 J8 20000 134 a9 r9 true=true:=by decide +kernel
abbrev J9:PTab:=(134,a9,r9)::J8
theorem tab9:Tab Tryz.prog GO T0 J9:=Tab.cons tab8 (pure_ev tab8 p9 how)
def a10:List LV:=[.agg [.int .i64 9, .str ⟨#[]⟩, .int .i64 0, .int .i64 0, .simm [.int .i64 1, .str ⟨#[]⟩, .int .i64 0, .int .i64 0, .nils, .int .i64 3, .str ⟨#[103]⟩, .int .i64 1, .int .i64 0, .nils] 2], .agg [.int .i64 9, .str ⟨#[]⟩, .int .i64 0, .int .i64 0, .simm [.int .i64 1, .str ⟨#[]⟩, .int .i64 0, .int .i64 0, .nils, .int .i64 3, .str ⟨#[103]⟩, .int .i64 1, .int .i64 0, .nils] 2]]
def r10:LV:=.int .i64 0
theorem p10:pureB T0 J9 20000 170 a10 r10 true=true:=by decide +kernel
abbrev J10:PTab:=(170,a10,r10)::J9
theorem tab10:Tab Tryz.prog GO T0 J10:=Tab.cons tab9 (pure_ev tab9 p10 how)
def a11:List LV:=[.simm [.int .i64 9, .str ⟨#[]⟩, .int .i64 0, .int .i64 0, .simm [.int .i64 1, .str ⟨#[]⟩, .int .i64 0, .int .i64 0, .nils, .int .i64 3, .str ⟨#[103]⟩, .int .i64 1, .int .i64 0, .nils] 2] 1, .agg [.int .i64 9, .str ⟨#[]⟩, .int .i64 0, .int .i64 0, .simm [.int .i64 1, .str ⟨#[]⟩, .int .i64 0, .int .i64 0, .nils, .int .i64 3, .str ⟨#[103]⟩, .int .i64 1, .int .i64 0, .nils] 2]]
def r11:LV:=.int .i64 0
theorem p11:pureB T0 J10 20000 132 a11 r11 true=true:=by decide +kernel
abbrev J11:PTab:=(132,a11,r11)::J10
theorem tab11:Tab Tryz.prog GO T0 J11:=Tab.cons tab10 (pure_ev tab10 p11 how)
def a12:List LV:=[.agg [.int .i64 1, .str ⟨#[]⟩, .int .i64 0, .int .i64 0, .nils]]
def r12:LV:=.bool true
theorem p12:pureB T0 J11 20000 134 a12 r12 true=true:=by decide +kernel
abbrev J12:PTab:=(134,a12,r12)::J11
theorem tab12:Tab Tryz.prog GO T0 J12:=Tab.cons tab11 (pure_ev tab11 p12 how)
def a13:List LV:=[.agg [.int .i64 3, .str ⟨#[103]⟩, .int .i64 1, .int .i64 0, .nils]]
def r13:LV:=.bool true
theorem p13:pureB T0 J12 20000 134 a13 r13 true=true:=by decide +kernel
abbrev J13:PTab:=(134,a13,r13)::J12
theorem tab13:Tab Tryz.prog GO T0 J13:=Tab.cons tab12 (pure_ev tab12 p13 how)
def a14:List LV:=[.agg [.int .i64 9, .str ⟨#[]⟩, .int .i64 0, .int .i64 0, .simm [.int .i64 1, .str ⟨#[]⟩, .int .i64 0, .int .i64 0, .nils, .int .i64 3, .str ⟨#[103]⟩, .int .i64 1, .int .i64 0, .nils] 2]]
def r14:LV:=.simm [.int .i64 9, .str ⟨#[]⟩, .int .i64 0, .int .i64 0, .simm [.int .i64 1, .str ⟨#[]⟩, .int .i64 0, .int .i64 0, .nils, .int .i64 3, .str ⟨#[103]⟩, .int .i64 1, .int .i64 0, .nils] 2] 1
theorem p14:pureB T0 J13 20000 103 a14 r14 true=true:=by decide +kernel
abbrev J14:PTab:=(103,a14,r14)::J13
theorem tab14:Tab Tryz.prog GO T0 J14:=Tab.cons tab13 (pure_ev tab13 p14 how)
def a15:List LV:=[.simm [.int .i64 9, .str ⟨#[]⟩, .int .i64 0, .int .i64 0, .simm [.int .i64 1, .str ⟨#[]⟩, .int .i64 0, .int .i64 0, .nils, .int .i64 3, .str ⟨#[103]⟩, .int .i64 1, .int .i64 0, .nils] 2] 1]
def r15:LV:=.simm [.int .i64 0] 1
theorem p15:pureB T0 J14 20000 104 a15 r15 true=true:=by decide +kernel
abbrev J15:PTab:=(104,a15,r15)::J14
theorem tab15:Tab Tryz.prog GO T0 J15:=Tab.cons tab14 (pure_ev tab14 p15 how)
def a16:List LV:=[.agg [.int .i64 1, .str ⟨#[]⟩, .int .i64 0, .int .i64 0, .nils]]
def r16:LV:=.agg [.int .i64 1, .str ⟨#[]⟩, .int .i64 0, .int .i64 0, .nils]
theorem p16:pureB T0 J15 20000 105 a16 r16 true=true:=by decide +kernel
abbrev J16:PTab:=(105,a16,r16)::J15
theorem tab16:Tab Tryz.prog GO T0 J16:=Tab.cons tab15 (pure_ev tab15 p16 how)
def a17:List LV:=[.agg [.int .i64 3, .str ⟨#[103]⟩, .int .i64 1, .int .i64 0, .nils]]
def r17:LV:=.agg [.int .i64 3, .str ⟨#[103]⟩, .int .i64 1, .int .i64 0, .nils]
theorem p17:pureB T0 J16 20000 105 a17 r17 true=true:=by decide +kernel
abbrev J17:PTab:=(105,a17,r17)::J16
theorem tab17:Tab Tryz.prog GO T0 J17:=Tab.cons tab16 (pure_ev tab16 p17 how)
def a18:List LV:=[.agg [.int .i64 9, .str ⟨#[]⟩, .int .i64 0, .int .i64 0, .simm [.int .i64 1, .str ⟨#[]⟩, .int .i64 0, .int .i64 0, .nils, .int .i64 3, .str ⟨#[103]⟩, .int .i64 1, .int .i64 0, .nils] 2]]
def r18:LV:=.agg [.int .i64 9, .str ⟨#[]⟩, .int .i64 0, .int .i64 0, .simm [.int .i64 1, .str ⟨#[]⟩, .int .i64 0, .int .i64 0, .nils, .int .i64 3, .str ⟨#[103]⟩, .int .i64 1, .int .i64 0, .nils] 2]
theorem p18:pureB T0 J17 20000 105 a18 r18 true=true:=by decide +kernel
abbrev J18:PTab:=(105,a18,r18)::J17
theorem tab18:Tab Tryz.prog GO T0 J18:=Tab.cons tab17 (pure_ev tab17 p18 how)
def a19:List LV:=[.agg [.int .i64 9, .str ⟨#[]⟩, .int .i64 0, .int .i64 0, .simm [.int .i64 1, .str ⟨#[]⟩, .int .i64 0, .int .i64 0, .nils, .int .i64 3, .str ⟨#[103]⟩, .int .i64 1, .int .i64 0, .nils] 2]]
def r19:LV:=.tup [.agg [.simm [.int .i64 9, .str ⟨#[]⟩, .int .i64 0, .int .i64 0, .simm [.int .i64 1, .str ⟨#[]⟩, .int .i64 0, .int .i64 0, .nils, .int .i64 3, .str ⟨#[103]⟩, .int .i64 1, .int .i64 0, .nils] 2] 1, .nils, .simm [.int .i64 0] 1], .int .i64 0]
theorem p19:pureB T0 J18 20000 69 a19 r19 true=true:=by decide +kernel
abbrev J19:PTab:=(69,a19,r19)::J18
theorem tab19:Tab Tryz.prog GO T0 J19:=Tab.cons tab18 (pure_ev tab18 p19 how)
def a20:List LV:=[.simm [.str ⟨#[114]⟩, .bool true, .int .i64 2, .str ⟨#[103]⟩, .bool false, .int .i64 2] 2]
def r20:LV:=.int .i64 4
theorem p20:pureB T0 J19 20000 70 a20 r20 true=true:=by decide +kernel
abbrev J20:PTab:=(70,a20,r20)::J19
theorem tab20:Tab Tryz.prog GO T0 J20:=Tab.cons tab19 (pure_ev tab19 p20 how)
def a21:List LV:=[.nils]
def r21:LV:=.int .i64 0
theorem p21:pureB T0 J20 20000 71 a21 r21 true=true:=by decide +kernel
abbrev J21:PTab:=(71,a21,r21)::J20
theorem tab21:Tab Tryz.prog GO T0 J21:=Tab.cons tab20 (pure_ev tab20 p21 how)
def a22:List LV:=[.simm [.str ⟨#[114]⟩, .bool true, .int .i64 2, .str ⟨#[103]⟩, .bool false, .int .i64 2] 2, .int .i64 0, .int .i64 0]
def r22:LV:=.int .i64 0
theorem p22:pureB T0 J21 20000 158 a22 r22 true=true:=by decide +kernel
abbrev J22:PTab:=(158,a22,r22)::J21
theorem tab22:Tab Tryz.prog GO T0 J22:=Tab.cons tab21 (pure_ev tab21 p22 how)
def a23:List LV:=[.simm [.str ⟨#[114]⟩, .bool true, .int .i64 2, .str ⟨#[103]⟩, .bool false, .int .i64 2] 2, .int .i64 0, .int .i64 1]
def r23:LV:=.int .i64 0
theorem p23:pureB T0 J22 20000 158 a23 r23 true=true:=by decide +kernel
abbrev J23:PTab:=(158,a23,r23)::J22
theorem tab23:Tab Tryz.prog GO T0 J23:=Tab.cons tab22 (pure_ev tab22 p23 how)
def a24:List LV:=[.simm [.str ⟨#[114]⟩, .bool true, .int .i64 2, .str ⟨#[103]⟩, .bool false, .int .i64 2] 2, .nils, .int .i64 0, .int .i64 0]
def r24:LV:=.tup [.pimm [.simm [.str ⟨#[114]⟩, .bool true, .int .i64 2, .str ⟨#[103]⟩, .bool false, .int .i64 2] 2, .simm [.int .i64 0, .int .i64 0] 2, .nils, .int .i64 0] 0, .bool true]
theorem p24:pureB T0 J23 20000 177 a24 r24 true=true:=by decide +kernel
abbrev J24:PTab:=(177,a24,r24)::J23
theorem tab24:Tab Tryz.prog GO T0 J24:=Tab.cons tab23 (pure_ev tab23 p24 how)
def a25:List LV:=[.simm [.str ⟨#[114]⟩, .bool true, .int .i64 2, .str ⟨#[103]⟩, .bool false, .int .i64 2] 2, .nils, .int .i64 0, .int .i64 0]
def r25:LV:=.int .i64 0
theorem p25:pureB T0 J24 20000 141 a25 r25 true=true:=by decide +kernel
abbrev J25:PTab:=(141,a25,r25)::J24
theorem tab25:Tab Tryz.prog GO T0 J25:=Tab.cons tab24 (pure_ev tab24 p25 how)
def a26:List LV:=[.agg [.simm [.int .i64 9, .str ⟨#[]⟩, .int .i64 0, .int .i64 0, .simm [.int .i64 1, .str ⟨#[]⟩, .int .i64 0, .int .i64 0, .nils, .int .i64 3, .str ⟨#[103]⟩, .int .i64 1, .int .i64 0, .nils] 2] 1, .nils, .simm [.int .i64 0] 1]]
def r26:LV:=.bool true
theorem p26:pureB T0 J25 20000 243 a26 r26 true=true:=by decide +kernel
abbrev J26:PTab:=(243,a26,r26)::J25
theorem tab26:Tab Tryz.prog GO T0 J26:=Tab.cons tab25 (pure_ev tab25 p26 how)
def a27:List LV:=[.simm [.str ⟨#[114]⟩, .bool true, .int .i64 2, .str ⟨#[103]⟩, .bool false, .int .i64 2] 2, .agg [.simm [.int .i64 9, .str ⟨#[]⟩, .int .i64 0, .int .i64 0, .simm [.int .i64 1, .str ⟨#[]⟩, .int .i64 0, .int .i64 0, .nils, .int .i64 3, .str ⟨#[103]⟩, .int .i64 1, .int .i64 0, .nils] 2] 1, .nils, .simm [.int .i64 0] 1], .int .i64 0, .int .i64 0, .simm [.int .i64 0] 1]
def r27:LV:=.tup [.simm [.simm [.int .i64 0] 1] 1, .simm [.simm [.int .i64 0] 1] 1]
theorem p27:pureB T0 J26 20000 142 a27 r27 true=true:=by decide +kernel
abbrev J27:PTab:=(142,a27,r27)::J26
theorem tab27:Tab Tryz.prog GO T0 J27:=Tab.cons tab26 (pure_ev tab26 p27 how)
def a28:List LV:=[.simm [.str ⟨#[114]⟩, .bool true, .int .i64 2, .str ⟨#[103]⟩, .bool false, .int .i64 2] 2, .int .i64 1, .int .i64 0]
def r28:LV:=.int .i64 1
theorem p28:pureB T0 J27 20000 158 a28 r28 true=true:=by decide +kernel
abbrev J28:PTab:=(158,a28,r28)::J27
theorem tab28:Tab Tryz.prog GO T0 J28:=Tab.cons tab27 (pure_ev tab27 p28 how)
def a29:List LV:=[.simm [.str ⟨#[114]⟩, .bool true, .int .i64 2, .str ⟨#[103]⟩, .bool false, .int .i64 2] 2, .int .i64 1, .int .i64 1]
def r29:LV:=.int .i64 0
theorem p29:pureB T0 J28 20000 158 a29 r29 true=true:=by decide +kernel
abbrev J29:PTab:=(158,a29,r29)::J28
theorem tab29:Tab Tryz.prog GO T0 J29:=Tab.cons tab28 (pure_ev tab28 p29 how)
def a30:List LV:=[.simm [.str ⟨#[114]⟩, .bool true, .int .i64 2, .str ⟨#[103]⟩, .bool false, .int .i64 2] 2, .nils, .int .i64 0, .int .i64 1]
def r30:LV:=.tup [.pimm [.simm [.str ⟨#[114]⟩, .bool true, .int .i64 2, .str ⟨#[103]⟩, .bool false, .int .i64 2] 2, .simm [.int .i64 1, .int .i64 0] 2, .nils, .int .i64 0] 0, .bool true]
theorem p30:pureB T0 J29 20000 177 a30 r30 true=true:=by decide +kernel
abbrev J30:PTab:=(177,a30,r30)::J29
theorem tab30:Tab Tryz.prog GO T0 J30:=Tab.cons tab29 (pure_ev tab29 p30 how)
def a31:List LV:=[.simm [.str ⟨#[114]⟩, .bool true, .int .i64 2, .str ⟨#[103]⟩, .bool false, .int .i64 2] 2, .nils, .int .i64 0, .int .i64 1]
def r31:LV:=.int .i64 0
theorem p31:pureB T0 J30 20000 141 a31 r31 true=true:=by decide +kernel
abbrev J31:PTab:=(141,a31,r31)::J30
theorem tab31:Tab Tryz.prog GO T0 J31:=Tab.cons tab30 (pure_ev tab30 p31 how)
def a32:List LV:=[.simm [.str ⟨#[114]⟩, .bool true, .int .i64 2, .str ⟨#[103]⟩, .bool false, .int .i64 2] 2, .agg [.simm [.int .i64 9, .str ⟨#[]⟩, .int .i64 0, .int .i64 0, .simm [.int .i64 1, .str ⟨#[]⟩, .int .i64 0, .int .i64 0, .nils, .int .i64 3, .str ⟨#[103]⟩, .int .i64 1, .int .i64 0, .nils] 2] 1, .nils, .simm [.int .i64 0] 1], .int .i64 0, .int .i64 1, .simm [.int .i64 0] 1]
def r32:LV:=.tup [.simm [.simm [.int .i64 0] 1] 1, .simm [.simm [.int .i64 0] 1] 1]
theorem p32:pureB T0 J31 20000 142 a32 r32 true=true:=by decide +kernel
abbrev J32:PTab:=(142,a32,r32)::J31
theorem tab32:Tab Tryz.prog GO T0 J32:=Tab.cons tab31 (pure_ev tab31 p32 how)
def a33:List LV:=[.simm [.str ⟨#[114]⟩, .bool true, .int .i64 2, .str ⟨#[103]⟩, .bool false, .int .i64 2] 2, .int .i64 2, .int .i64 0]
def r33:LV:=.int .i64 0
theorem p33:pureB T0 J32 20000 158 a33 r33 true=true:=by decide +kernel
abbrev J33:PTab:=(158,a33,r33)::J32
theorem tab33:Tab Tryz.prog GO T0 J33:=Tab.cons tab32 (pure_ev tab32 p33 how)
def a34:List LV:=[.simm [.str ⟨#[114]⟩, .bool true, .int .i64 2, .str ⟨#[103]⟩, .bool false, .int .i64 2] 2, .int .i64 2, .int .i64 1]
def r34:LV:=.int .i64 1
theorem p34:pureB T0 J33 20000 158 a34 r34 true=true:=by decide +kernel
abbrev J34:PTab:=(158,a34,r34)::J33
theorem tab34:Tab Tryz.prog GO T0 J34:=Tab.cons tab33 (pure_ev tab33 p34 how)
def a35:List LV:=[.simm [.str ⟨#[114]⟩, .bool true, .int .i64 2, .str ⟨#[103]⟩, .bool false, .int .i64 2] 2, .nils, .int .i64 0, .int .i64 2]
def r35:LV:=.tup [.pimm [.simm [.str ⟨#[114]⟩, .bool true, .int .i64 2, .str ⟨#[103]⟩, .bool false, .int .i64 2] 2, .simm [.int .i64 0, .int .i64 1] 2, .nils, .int .i64 0] 0, .bool true]
theorem p35:pureB T0 J34 20000 177 a35 r35 true=true:=by decide +kernel
abbrev J35:PTab:=(177,a35,r35)::J34
theorem tab35:Tab Tryz.prog GO T0 J35:=Tab.cons tab34 (pure_ev tab34 p35 how)
def a36:List LV:=[.simm [.str ⟨#[114]⟩, .bool true, .int .i64 2, .str ⟨#[103]⟩, .bool false, .int .i64 2] 2, .nils, .int .i64 0, .int .i64 2]
def r36:LV:=.int .i64 0
theorem p36:pureB T0 J35 20000 141 a36 r36 true=true:=by decide +kernel
abbrev J36:PTab:=(141,a36,r36)::J35
theorem tab36:Tab Tryz.prog GO T0 J36:=Tab.cons tab35 (pure_ev tab35 p36 how)
def a37:List LV:=[.simm [.str ⟨#[114]⟩, .bool true, .int .i64 2, .str ⟨#[103]⟩, .bool false, .int .i64 2] 2, .agg [.simm [.int .i64 9, .str ⟨#[]⟩, .int .i64 0, .int .i64 0, .simm [.int .i64 1, .str ⟨#[]⟩, .int .i64 0, .int .i64 0, .nils, .int .i64 3, .str ⟨#[103]⟩, .int .i64 1, .int .i64 0, .nils] 2] 1, .nils, .simm [.int .i64 0] 1], .int .i64 0, .int .i64 2, .simm [.int .i64 0] 1]
def r37:LV:=.tup [.simm [.simm [] 0] 1, .simm [.simm [] 0] 1]
theorem p37:pureB T0 J36 20000 142 a37 r37 true=true:=by decide +kernel
abbrev J37:PTab:=(142,a37,r37)::J36
theorem tab37:Tab Tryz.prog GO T0 J37:=Tab.cons tab36 (pure_ev tab36 p37 how)
def a38:List LV:=[.simm [.str ⟨#[114]⟩, .bool true, .int .i64 2, .str ⟨#[103]⟩, .bool false, .int .i64 2] 2, .int .i64 3, .int .i64 0]
def r38:LV:=.int .i64 1
theorem p38:pureB T0 J37 20000 158 a38 r38 true=true:=by decide +kernel
abbrev J38:PTab:=(158,a38,r38)::J37
theorem tab38:Tab Tryz.prog GO T0 J38:=Tab.cons tab37 (pure_ev tab37 p38 how)
def a39:List LV:=[.simm [.str ⟨#[114]⟩, .bool true, .int .i64 2, .str ⟨#[103]⟩, .bool false, .int .i64 2] 2, .int .i64 3, .int .i64 1]
def r39:LV:=.int .i64 1
theorem p39:pureB T0 J38 20000 158 a39 r39 true=true:=by decide +kernel
abbrev J39:PTab:=(158,a39,r39)::J38
theorem tab39:Tab Tryz.prog GO T0 J39:=Tab.cons tab38 (pure_ev tab38 p39 how)
def a40:List LV:=[.simm [.str ⟨#[114]⟩, .bool true, .int .i64 2, .str ⟨#[103]⟩, .bool false, .int .i64 2] 2, .nils, .int .i64 0, .int .i64 3]
def r40:LV:=.tup [.pimm [.simm [.str ⟨#[114]⟩, .bool true, .int .i64 2, .str ⟨#[103]⟩, .bool false, .int .i64 2] 2, .simm [.int .i64 1, .int .i64 1] 2, .nils, .int .i64 0] 0, .bool true]
theorem p40:pureB T0 J39 20000 177 a40 r40 true=true:=by decide +kernel
abbrev J40:PTab:=(177,a40,r40)::J39
theorem tab40:Tab Tryz.prog GO T0 J40:=Tab.cons tab39 (pure_ev tab39 p40 how)
def a41:List LV:=[.simm [.str ⟨#[114]⟩, .bool true, .int .i64 2, .str ⟨#[103]⟩, .bool false, .int .i64 2] 2, .nils, .int .i64 0, .int .i64 3]
def r41:LV:=.int .i64 0
theorem p41:pureB T0 J40 20000 141 a41 r41 true=true:=by decide +kernel
abbrev J41:PTab:=(141,a41,r41)::J40
theorem tab41:Tab Tryz.prog GO T0 J41:=Tab.cons tab40 (pure_ev tab40 p41 how)
def a42:List LV:=[.simm [.str ⟨#[114]⟩, .bool true, .int .i64 2, .str ⟨#[103]⟩, .bool false, .int .i64 2] 2, .agg [.simm [.int .i64 9, .str ⟨#[]⟩, .int .i64 0, .int .i64 0, .simm [.int .i64 1, .str ⟨#[]⟩, .int .i64 0, .int .i64 0, .nils, .int .i64 3, .str ⟨#[103]⟩, .int .i64 1, .int .i64 0, .nils] 2] 1, .nils, .simm [.int .i64 0] 1], .int .i64 0, .int .i64 3, .simm [.int .i64 0] 1]
def r42:LV:=.tup [.simm [.simm [] 0] 1, .simm [.simm [] 0] 1]
theorem p42:pureB T0 J41 20000 142 a42 r42 true=true:=by decide +kernel
abbrev J42:PTab:=(142,a42,r42)::J41
theorem tab42:Tab Tryz.prog GO T0 J42:=Tab.cons tab41 (pure_ev tab41 p42 how)
def a43:List LV:=[.simm [.str ⟨#[114]⟩, .bool true, .int .i64 2, .str ⟨#[103]⟩, .bool false, .int .i64 2] 2, .agg [.simm [.int .i64 9, .str ⟨#[]⟩, .int .i64 0, .int .i64 0, .simm [.int .i64 1, .str ⟨#[]⟩, .int .i64 0, .int .i64 0, .nils, .int .i64 3, .str ⟨#[103]⟩, .int .i64 1, .int .i64 0, .nils] 2] 1, .nils, .simm [.int .i64 0] 1], .int .i64 0, .int .i64 0, .nils]
def r43:LV:=.tup [.simm [.simm [] 0] 1, .simm [.simm [] 0] 1]
theorem p43:pureB T0 J42 20000 142 a43 r43 true=true:=by decide +kernel
abbrev J43:PTab:=(142,a43,r43)::J42
theorem tab43:Tab Tryz.prog GO T0 J43:=Tab.cons tab42 (pure_ev tab42 p43 how)
def a44:List LV:=[.simm [.str ⟨#[114]⟩, .bool true, .int .i64 2, .str ⟨#[103]⟩, .bool false, .int .i64 2] 2, .agg [.simm [.int .i64 9, .str ⟨#[]⟩, .int .i64 0, .int .i64 0, .simm [.int .i64 1, .str ⟨#[]⟩, .int .i64 0, .int .i64 0, .nils, .int .i64 3, .str ⟨#[103]⟩, .int .i64 1, .int .i64 0, .nils] 2] 1, .nils, .simm [.int .i64 0] 1], .int .i64 0, .int .i64 1, .nils]
def r44:LV:=.tup [.simm [.simm [] 0] 1, .simm [.simm [] 0] 1]
theorem p44:pureB T0 J43 20000 142 a44 r44 true=true:=by decide +kernel
abbrev J44:PTab:=(142,a44,r44)::J43
theorem tab44:Tab Tryz.prog GO T0 J44:=Tab.cons tab43 (pure_ev tab43 p44 how)
def a45:List LV:=[.simm [.str ⟨#[114]⟩, .bool true, .int .i64 2, .str ⟨#[103]⟩, .bool false, .int .i64 2] 2, .agg [.simm [.int .i64 9, .str ⟨#[]⟩, .int .i64 0, .int .i64 0, .simm [.int .i64 1, .str ⟨#[]⟩, .int .i64 0, .int .i64 0, .nils, .int .i64 3, .str ⟨#[103]⟩, .int .i64 1, .int .i64 0, .nils] 2] 1, .nils, .simm [.int .i64 0] 1], .int .i64 0, .int .i64 2, .nils]
def r45:LV:=.tup [.simm [.simm [] 0] 1, .simm [.simm [] 0] 1]
theorem p45:pureB T0 J44 20000 142 a45 r45 true=true:=by decide +kernel
abbrev J45:PTab:=(142,a45,r45)::J44
theorem tab45:Tab Tryz.prog GO T0 J45:=Tab.cons tab44 (pure_ev tab44 p45 how)
def a46:List LV:=[.simm [.str ⟨#[114]⟩, .bool true, .int .i64 2, .str ⟨#[103]⟩, .bool false, .int .i64 2] 2, .agg [.simm [.int .i64 9, .str ⟨#[]⟩, .int .i64 0, .int .i64 0, .simm [.int .i64 1, .str ⟨#[]⟩, .int .i64 0, .int .i64 0, .nils, .int .i64 3, .str ⟨#[103]⟩, .int .i64 1, .int .i64 0, .nils] 2] 1, .nils, .simm [.int .i64 0] 1], .int .i64 0, .int .i64 3, .nils]
def r46:LV:=.tup [.simm [.simm [] 0] 1, .simm [.simm [] 0] 1]
theorem p46:pureB T0 J45 20000 142 a46 r46 true=true:=by decide +kernel
abbrev J46:PTab:=(142,a46,r46)::J45
theorem tab46:Tab Tryz.prog GO T0 J46:=Tab.cons tab45 (pure_ev tab45 p46 how)
def a47:List LV:=[.simm [.str ⟨#[114]⟩, .bool true, .int .i64 2, .str ⟨#[103]⟩, .bool false, .int .i64 2] 2, .agg [.int .i64 9, .str ⟨#[]⟩, .int .i64 0, .int .i64 0, .simm [.int .i64 1, .str ⟨#[]⟩, .int .i64 0, .int .i64 0, .nils, .int .i64 3, .str ⟨#[103]⟩, .int .i64 1, .int .i64 0, .nils] 2], .int .i64 5]
def r47:LV:=.tup [.agg [.int .i64 4, .simm [.int .i64 0] 1, .simm [.simm [.simm [.int .i64 0, .bool false] 1, .simm [.int .i64 0, .bool false] 1, .simm [.int .i64 1, .bool true] 1, .simm [.int .i64 1, .bool true] 1] 4, .simm [.simm [.int .i64 1, .bool true] 1, .simm [.int .i64 1, .bool true] 1, .simm [.int .i64 1, .bool true] 1, .simm [.int .i64 1, .bool true] 1] 4] 2], .int .i64 0]
theorem p47:pureB T0 J46 20000 25 a47 r47 true=true:=by decide +kernel
abbrev J47:PTab:=(25,a47,r47)::J46
theorem tab47:Tab Tryz.prog GO T0 J47:=Tab.cons tab46 (pure_ev tab46 p47 how)
def a48:List LV:=[.simm [.str ⟨#[114]⟩, .bool true, .int .i64 2, .str ⟨#[103]⟩, .bool false, .int .i64 2] 2, .agg [.int .i64 9, .str ⟨#[]⟩, .int .i64 0, .int .i64 0, .simm [.int .i64 1, .str ⟨#[]⟩, .int .i64 0, .int .i64 0, .nils, .int .i64 3, .str ⟨#[103]⟩, .int .i64 1, .int .i64 0, .nils] 2], .int .i64 1]
def r48:LV:=.tup [.agg [.int .i64 0, .nils, .nils], .int .i64 2]
theorem p48:pureB T0 J47 20000 25 a48 r48 true=true:=by decide +kernel
abbrev J48:PTab:=(25,a48,r48)::J47
theorem tab48:Tab Tryz.prog GO T0 J48:=Tab.cons tab47 (pure_ev tab47 p48 how)
def a49:List LV:=[.agg [.int .i64 4, .simm [.int .i64 0] 1, .simm [.simm [.simm [.int .i64 0, .bool false] 1, .simm [.int .i64 0, .bool false] 1, .simm [.int .i64 1, .bool true] 1, .simm [.int .i64 1, .bool true] 1] 4, .simm [.simm [.int .i64 1, .bool true] 1, .simm [.int .i64 1, .bool true] 1, .simm [.int .i64 1, .bool true] 1, .simm [.int .i64 1, .bool true] 1] 4] 2]]
def r49:LV:=.bool true
theorem p49:pureB T0 J48 20000 9 a49 r49 true=true:=by decide +kernel
abbrev J49:PTab:=(9,a49,r49)::J48
theorem tab49:Tab Tryz.prog GO T0 J49:=Tab.cons tab48 (pure_ev tab48 p49 how)
def a50:List LV:=[.agg [.int .i64 4, .simm [.int .i64 0] 1, .simm [.simm [.simm [.int .i64 0, .bool true] 1, .simm [.int .i64 0, .bool true] 1, .simm [.int .i64 0, .bool true] 1, .simm [.int .i64 0, .bool true] 1] 4] 1]]
def r50:LV:=.bool true
theorem p50:pureB T0 J49 20000 9 a50 r50 true=true:=by decide +kernel
abbrev J50:PTab:=(9,a50,r50)::J49
theorem tab50:Tab Tryz.prog GO T0 J50:=Tab.cons tab49 (pure_ev tab49 p50 how)
def a51:List LV:=[.simm [.int .i64 0] 1, .simm [.int .i64 0] 1]
def r51:LV:=.bool true
theorem p51:pureB T0 J50 20000 26 a51 r51 true=true:=by decide +kernel
abbrev J51:PTab:=(26,a51,r51)::J50
theorem tab51:Tab Tryz.prog GO T0 J51:=Tab.cons tab50 (pure_ev tab50 p51 how)
def a52:List LV:=[.agg [.int .i64 4, .simm [.int .i64 0] 1, .simm [.simm [.simm [.int .i64 0, .bool false] 1, .simm [.int .i64 0, .bool false] 1, .simm [.int .i64 1, .bool true] 1, .simm [.int .i64 1, .bool true] 1] 4, .simm [.simm [.int .i64 1, .bool true] 1, .simm [.int .i64 1, .bool true] 1, .simm [.int .i64 1, .bool true] 1, .simm [.int .i64 1, .bool true] 1] 4] 2], .agg [.int .i64 4, .simm [.int .i64 0] 1, .simm [.simm [.simm [.int .i64 0, .bool false] 1, .simm [.int .i64 0, .bool false] 1, .simm [.int .i64 1, .bool true] 1, .simm [.int .i64 1, .bool true] 1] 4, .simm [.simm [.int .i64 1, .bool true] 1, .simm [.int .i64 1, .bool true] 1, .simm [.int .i64 1, .bool true] 1, .simm [.int .i64 1, .bool true] 1] 4] 2]]
def r52:LV:=.bool true
theorem p52:pureB T0 J51 20000 11 a52 r52 true=true:=by decide +kernel
abbrev J52:PTab:=(11,a52,r52)::J51
theorem tab52:Tab Tryz.prog GO T0 J52:=Tab.cons tab51 (pure_ev tab51 p52 how)
def a53:List LV:=[.simm [.int .i64 0, .int .i64 1] 2, .simm [.int .i64 0, .int .i64 1] 2]
def r53:LV:=.bool true
theorem p53:pureB T0 J52 20000 26 a53 r53 true=true:=by decide +kernel
abbrev J53:PTab:=(26,a53,r53)::J52
theorem tab53:Tab Tryz.prog GO T0 J53:=Tab.cons tab52 (pure_ev tab52 p53 how)
def a54:List LV:=[.agg [.int .i64 0, .nils, .nils]]
def r54:LV:=.bool false
theorem p54:pureB T0 J53 20000 9 a54 r54 true=true:=by decide +kernel
abbrev J54:PTab:=(9,a54,r54)::J53
theorem tab54:Tab Tryz.prog GO T0 J54:=Tab.cons tab53 (pure_ev tab53 p54 how)
def a55:List LV:=[]
def r55:LV:=.bool true
theorem p55:pureB T0 J54 20000 5 a55 r55 true=true:=by decide +kernel
theorem head_true:PureOk Tryz.prog GL (.fn (.func 5) [] []) [] (.bool true):=pure_unflag (how rfl) (pure_ev tab54 p55 how)
end Go.Proofs.YtgobbogomchnhaaGreatDoor
