/- The law of what two automata accept, run. -/
import Derived.Test.YtohldpfjnllkdaaDoorPdiff
import Derived.Test.YtohldpfjnllkdaaDoorArgs
import Derived.Test.YtohldpfjnllkdaaDoorHead
import Derived.Test.YtohldpfjnllkdaaDoorRval
import Derived.Test.YtohldpfjnllkdaaDoorRfew
import Derived.Test.YtohldpfjnllkdaaDoorWref
import Derived.Test.YtohldpfjnllkdaaDoorPvRow
set_option linter.unusedSimpArgs false
set_option linter.unusedVariables false
set_option maxRecDepth 100000
namespace Go.Proofs.YtohldpfjnllkdaaDoor
open Go Go.Pv Go.Aut
open Classical
set_option maxHeartbeats 16000000 in
theorem lawDiffer:∀ lvs,HasArgs Tryd.prog 9 Tryd.f6.params.toList lvs→LawOkG Tryd.prog GL 6 lvs:=by
  intro lvs h
  rw [Tryd.params6] at h
  cases h with | cons a h=>cases h with | cons b h=>cases h with | cons c h=>
  cases h
  obtain ⟨A,sa,na,hA,-⟩:=argB a
  obtain ⟨B,sb,nb,hB,-⟩:=argB b
  obtain ⟨ws,wl,S0,L0,rfl,hS0,hL0⟩:=argL c
  refine ⟨Tryd.f6,[],l6,Tryd.func6,by decide +kernel,c6,Nat.le_of_ble_eq_true rfl,CodeOk.mono (Q:=fun o e s=>(o = .normal∨o = .jmp .ret)∧e.at 6 = .bool true) (Cd.out ?_) fun o e s hh=>⟨hh.1,by simp [l6,resVal,resOne,hh.2]⟩⟩
  have hcA:=hA.closed
  have hcB:=hB.closed
  have hcl2:(LV.agg [ws,wl]).closed=true:=by simp [LV.closed,LV.closed.closedAll,hS0.closed,hL0.closed]
  have hcw:=hS0.sl.cell
  have hcw2:=hL0.sl.cell
  have hfewA:=rbfew_ok hA
  have hfewB:=rbfew_ok hB
  have hvalA:=rbvalid_ok hA
  have hvalB:=rbvalid_ok hB
  have hawA:=aword_ok hA hS0 hL0
  have hawB:=aword_ok hB hS0 hL0
  have hawA2:=fun {st lo:LV} {S L:List Int} (h1:IsInts st S) (h2:IsInts lo L)=>aword_ok hA h1 h2
  have hawB2:=fun {st lo:LV} {S L:List Int} (h1:IsInts st S) (h2:IsInts lo L)=>aword_ok hB h1 h2
  have hsh:=short_ok hS0 hL0
  have hrw:=rwvalid_ok hS0 hL0 A.L
  have hd1:=fun okA okB hL hN=>pdiffer_ok hA hB okA okB hL (most:=100) (by decide) hN (by decide)
  have hd2:=fun okB okA hL hN=>pdiffer_ok hB hA okB okA hL (most:=100) (by decide) hN (by decide)
  obtain ⟨rfl,htA,vsA,hnA⟩:=hA
  obtain ⟨rfl,htB,vsB,hnB⟩:=hB
  have hc1:=htA.sl.cell
  have hc2:=hnA.sl.cell
  have hc3:=htB.sl.cell
  have hc4:=hnB.sl.cell
  have hnlA:=hnA.sl.len
  have hnlB:=hnB.sl.len
  have e0:(envOf [LV.agg [.int .i64 A.L,sa,na], .agg [.int .i64 B.L,sb,nb], .agg [ws,wl]]).at 0 = .agg [.int .i64 A.L,sa,na]:=by rw [envOf_at];rfl
  have e1:(envOf [LV.agg [.int .i64 A.L,sa,na], .agg [.int .i64 B.L,sb,nb], .agg [ws,wl]]).at 1 = .agg [.int .i64 B.L,sb,nb]:=by rw [envOf_at];rfl
  have e2:(envOf [LV.agg [.int .i64 A.L,sa,na], .agg [.int .i64 B.L,sb,nb], .agg [ws,wl]]).at 2 = .agg [ws,wl]:=by rw [envOf_at];rfl
  generalize envOf [LV.agg [.int .i64 A.L,sa,na], .agg [.int .i64 B.L,sb,nb], .agg [ws,wl]]=e at *
  unfold l6
  dsimp only [jA,jC,jD,jG,qM,qL,qN,qF,qS,qK,qO,qP,qG,qm]
  repeat' (first | refine gA trivial ?_ | (refine gB trivial ?_;intro bb hbb;cases bb<;>(try simp only [hbs,if_false,reduceCtorEq] at hbb)) | apply qc_seq | fail)
  refine q_pure hG0 (head_true) (by first | exact wN | (apply wG;(simp only [lk,Nat.reduceEqDiff,reduceIte,e0,e1,e2];(try rfl);done))) (by simp only [List.map,lk,Nat.reduceEqDiff,reduceIte,e0,e1,e2];try rfl) (by first | trivial | (simp only [Chks,wantedG,LOp.run,Env.put_some,Env.put_none,lk,sv1,sv2,sv3,Nat.reduceEqDiff,Nat.reduceAdd,Nat.reduceLeDiff,reduceIte,if_false,if_true,mkVal,unLV,List.map,optTmps,beq_self_eq_true,reduceCtorEq,false_or,true_and,and_true,Option.some.injEq, *];done)) ?_
  simp only [Env.put_some]
  repeat' (first | refine gA trivial ?_ | (refine gB trivial ?_;intro bb hbb;cases bb<;>(try simp only [hbs,if_false,reduceCtorEq] at hbb)) | apply qc_seq | fail)
  refine q_pureEx hG0 hfewA wN (by simp only [List.map,lk,sv1,sv2,sv3,Nat.reduceEqDiff,Nat.reduceAdd,Nat.reduceLeDiff,reduceIte,if_false,if_true,mkVal,unLV,List.map,optTmps]) (fun r hr hrc=>⟨trivial,?_⟩)
  obtain ⟨b,rfl,hb⟩:=hr
  clear hb
  simp only [Env.put_some]
  cases b with
  | false=>
    repeat' (first | refine gA trivial ?_ | (refine gB trivial ?_;intro bb hbb;cases bb<;>(try simp only [hbs,if_false,reduceCtorEq] at hbb)) | apply qc_seq | fail)
    exact ⟨.inr trivial,ef⟩
  | true=>
  repeat' (first | refine gA trivial ?_ | (refine gB trivial ?_;intro bb hbb;cases bb<;>(try simp only [hbs,if_false,reduceCtorEq] at hbb)) | apply qc_seq | fail)
  refine q_pureEx hG0 hfewB (by first | exact wN | (apply wG;simp only [lk,sv1,sv2,sv3,Nat.reduceEqDiff,Nat.reduceAdd,Nat.reduceLeDiff,reduceIte,if_false,if_true,mkVal,unLV,List.map,optTmps])) (by simp only [List.map,lk,sv1,sv2,sv3,Nat.reduceEqDiff,Nat.reduceAdd,Nat.reduceLeDiff,reduceIte,if_false,if_true,mkVal,unLV,List.map,optTmps]) (fun r hr hrc=>⟨trivial,?_⟩)
  obtain ⟨b,rfl,hb⟩:=hr
  clear hb
  simp only [Env.put_some]
  cases b with
  | false=>
    repeat' (first | refine gA trivial ?_ | (refine gB trivial ?_;intro bb hbb;cases bb<;>(try simp only [hbs,if_false,reduceCtorEq] at hbb)) | apply qc_seq | fail)
    exact ⟨.inr trivial,ef⟩
  | true=>
  repeat' (first | refine gA trivial ?_ | (refine gB trivial ?_;intro bb hbb;cases bb<;>(try simp only [hbs,if_false,reduceCtorEq] at hbb)) | apply qc_seq | fail)
  refine q_pureB hG0 (hvalA) (by first | exact wN | (apply wG;(simp only [lk,Nat.reduceEqDiff,reduceIte,e0,e1,e2];(try rfl);done))) (by simp only [List.map,lk,Nat.reduceEqDiff,reduceIte,e0,e1,e2];try rfl) (fun bb hbb=>⟨by first | trivial | (simp only [Chks,wantedG,LOp.run,Env.put_some,Env.put_none,lk,sv1,sv2,sv3,Nat.reduceEqDiff,Nat.reduceAdd,Nat.reduceLeDiff,reduceIte,if_false,if_true,mkVal,unLV,List.map,optTmps,beq_self_eq_true,reduceCtorEq,false_or,true_and,and_true,Option.some.injEq, *];done),?_⟩)
  simp only [Env.put_some]
  cases bb<;>simp only [decide_eq_true_eq,decide_eq_false_iff_not] at hbb
  · repeat' (first | refine gA trivial ?_ | (refine gB trivial ?_;intro bb hbb;cases bb<;>(try simp only [hbs,if_false,reduceCtorEq] at hbb)) | apply qc_seq | fail)
    exact ⟨.inr trivial,ef⟩
  have okA:=hbb
  repeat' (first | refine gA trivial ?_ | (refine gB trivial ?_;intro bb hbb;cases bb<;>(try simp only [hbs,if_false,reduceCtorEq] at hbb)) | apply qc_seq | fail)
  refine q_pureB hG0 (hvalB) (by first | exact wN | (apply wG;(simp only [lk,Nat.reduceEqDiff,reduceIte,e0,e1,e2];(try rfl);done))) (by simp only [List.map,lk,Nat.reduceEqDiff,reduceIte,e0,e1,e2];try rfl) (fun bb hbb=>⟨by first | trivial | (simp only [Chks,wantedG,LOp.run,Env.put_some,Env.put_none,lk,sv1,sv2,sv3,Nat.reduceEqDiff,Nat.reduceAdd,Nat.reduceLeDiff,reduceIte,if_false,if_true,mkVal,unLV,List.map,optTmps,beq_self_eq_true,reduceCtorEq,false_or,true_and,and_true,Option.some.injEq, *];done),?_⟩)
  simp only [Env.put_some]
  cases bb<;>simp only [decide_eq_true_eq,decide_eq_false_iff_not] at hbb
  · repeat' (first | refine gA trivial ?_ | (refine gB trivial ?_;intro bb hbb;cases bb<;>(try simp only [hbs,if_false,reduceCtorEq] at hbb)) | apply qc_seq | fail)
    exact ⟨.inr trivial,ef⟩
  have okB:=hbb
  clear hvalA hvalB hfewA hfewB
  repeat' (first | refine gA (And.intro @hnlA @hnlB) ?_ | (refine gB (And.intro @hnlA @hnlB) ?_;intro bb hbb;cases bb<;>(try simp only [hbs,if_false,reduceCtorEq] at hbb)) | apply qc_seq | fail)
  rotate_left
  · exact ⟨.inr trivial,ef⟩
  · exact ⟨.inr trivial,ef⟩
  · exact ⟨.inr trivial,ef⟩
  have hAB:A.L=B.L:=by assumption
  have hAB':Hd (A.L=B.L):=⟨hAB⟩
  have hlA:A.next.length≤6:=by omega
  have hlB:B.next.length≤6:=by omega
  have hN1:((A.next.length*B.next.length*2:Nat):Int)≤100:=by
    have:A.next.length*B.next.length≤6*6:=Nat.mul_le_mul hlA hlB
    omega
  have hN2:((B.next.length*A.next.length*2:Nat):Int)≤100:=by rw [Nat.mul_comm B.next.length];exact hN1
  have hD1:=hd1 okA okB hAB hN1
  have hD2:=hd2 okB okA hAB.symm hN2
  clear hd1 hd2 hN1 hN2 hlA hlB hAB
  refine w_gen (fun e' s'=>s'.n=0∧e'.at 3 = .pimm [.int .i64 A.L,sa,na] 0∧e'.at 4 = .pimm [.int .i64 B.L,sb,nb] 0∧e'.at 5 = .pimm [ws,wl] 0∧e'.at 7 = .bool true∧e'.at 52 = .bool false∧e'.at 53 = .agg [ws,wl]) ⟨rfl,ef,ef,ef,ef,ef,ef⟩ ?_
  clear e0 e1 e2
  clear e
  rintro e s ⟨hn0,e3,e4,e5,e7,e52,e53⟩
  refine q_pureB hG0 (hsh) (by first | exact wN | (apply wG;(simp only [lk,Nat.reduceEqDiff,reduceIte,e3,e4,e5,e7,e52,e53];(try rfl);done))) (by simp only [List.map,lk,Nat.reduceEqDiff,reduceIte,e3,e4,e5,e7,e52,e53];try rfl) (fun bb hbb=>⟨by first | trivial | (simp only [Chks,wantedG,LOp.run,Env.put_some,Env.put_none,lk,sv1,sv2,sv3,Nat.reduceEqDiff,Nat.reduceAdd,Nat.reduceLeDiff,reduceIte,if_false,if_true,mkVal,unLV,List.map,optTmps,beq_self_eq_true,reduceCtorEq,false_or,true_and,and_true,Option.some.injEq, *];done),?_⟩)
  simp only [Env.put_some]
  cases bb<;>simp only [decide_eq_true_eq,decide_eq_false_iff_not] at hbb
  · repeat' (first | refine gA trivial ?_ | (refine gB trivial ?_;intro bb hbb;cases bb<;>(try simp only [hbs,if_false,reduceCtorEq] at hbb)) | apply qc_seq | fail)
    exact ⟨.inr trivial,ef⟩
  clear hsh
  repeat' (first | refine gA trivial ?_ | (refine gB trivial ?_;intro bb hbb;cases bb<;>(try simp only [hbs,if_false,reduceCtorEq] at hbb)) | apply qc_seq | fail)
  refine q_pureEx hG0 hD1 wN (by simp only [List.map,lk,sv1,sv2,sv3,Nat.reduceEqDiff,Nat.reduceAdd,Nat.reduceLeDiff,reduceIte,if_false,if_true,mkVal,unLV,List.map,optTmps]) (fun r hr hrc=>⟨trivial,?_⟩)
  obtain ⟨st,lo,S,L,ok,rfl,hS,hL,hR⟩:=hr
  have hcs:=hS.sl.cell
  have hcL:=hL.sl.cell
  simp only [Env.put_some]
  clear hD1 hrc
  repeat' (first | refine gA trivial ?_ | (refine gB trivial ?_;intro bb hbb;cases bb<;>(try simp only [hbs,if_false,reduceCtorEq] at hbb)) | apply qc_seq | fail)
  refine w_gen (fun e' s'=>s'.get 0=some (.cells .mut [st,lo])∧s'.n=1∧e'.at 3 = .pimm [.int .i64 A.L,sa,na] 0∧e'.at 4 = .pimm [.int .i64 B.L,sb,nb] 0∧e'.at 5 = .pimm [ws,wl] 0∧e'.at 7 = .bool true∧e'.at 8 = .pref 0 0∧e'.at 9 = .bool ok∧e'.at 10 = .int .i64 0∧e'.at 66 = .agg [.int .i64 B.L,sb,nb]∧e'.at 67 = .agg [.int .i64 A.L,sa,na]) ⟨by rw [St.get_put,if_pos (by first | rfl | omega)],by simp only [St.n_put,St.n_new,hn0],ef,ef,ef,ef,ef,ef,ef,ef,ef⟩ ?_
  clear e3 e4 e5 e7 e52 e53 hn0
  clear e
  rintro e s ⟨g8,hn1,e3,e4,e5,e7,e8,e9,e10,e66,e67⟩
  refine q_pureEx hG0 hD2 wN (by simp only [List.map,lk,sv1,sv2,sv3,Nat.reduceEqDiff,Nat.reduceAdd,Nat.reduceLeDiff,reduceIte,if_false,if_true,mkVal,unLV,List.map,optTmps,e66,e67]) (fun r hr hrc=>⟨trivial,?_⟩)
  obtain ⟨st2,lo2,S2,L2,ok2,rfl,hS2,hL2,hR2⟩:=hr
  have hcs2:=hS2.sl.cell
  have hcL2:=hL2.sl.cell
  have hoo:ok2=ok:=by
    rw [Bool.eq_iff_iff,hR.ex,hR2.ex]
    exact ⟨fun ⟨w,h⟩=>⟨w,h.2,h.1⟩,fun ⟨w,h⟩=>⟨w,h.2,h.1⟩⟩
  subst hoo
  simp only [Env.put_some]
  clear hD2 hrc hR2 hS2 hL2
  have g8':((s.new (.cells .mut [.nils, .nils])).put 1 (.cells .mut [st2,lo2])).get 0=some (.cells .mut [st,lo]):=by rw [St.get_put,if_neg (by decide),St.get_new,if_neg (by omega)];exact g8
  cases ok2 with
  | false=>
    repeat' (first | refine gA trivial ?_ | (refine gB trivial ?_;intro bb hbb;cases bb<;>(try simp only [hbs,if_false,reduceCtorEq] at hbb)) | apply qc_seq | fail)
    all_goals first | (exfalso;first | (exact absurd hbb (by decide)) | (cases hbb;done) | (exact hbb rfl) | omega) | skip
    refine w_gen (fun e' s'=>e'.at 3 = .pimm [.int .i64 A.L,sa,na] 0∧e'.at 4 = .pimm [.int .i64 B.L,sb,nb] 0∧e'.at 5 = .pimm [ws,wl] 0∧e'.at 103 = .bool true∧e'.at 105 = .bool false∧e'.at 107 = .int .i64 A.L∧e'.at 108 = .agg [ws,wl]) ⟨ef,ef,ef,ef,ef,ef,ef⟩ ?_
    clear e3 e4 e5 e7 e8 e9 e10 g8 g8' hn1 e66 e67
    clear e
    rintro e s ⟨e3,e4,e5,e103,e105,e107,e108⟩
    clear hawA2 hawB2 hS hL
    refine q_pureB hG0 (hrw) (by first | exact wN | (apply wG;(simp only [lk,Nat.reduceEqDiff,reduceIte,e3,e4,e5,e103,e105,e107,e108];(try rfl);done))) (by simp only [List.map,lk,Nat.reduceEqDiff,reduceIte,e3,e4,e5,e103,e105,e107,e108];try rfl) (fun bb hbb=>⟨by first | trivial | (simp only [Chks,wantedG,LOp.run,Env.put_some,Env.put_none,lk,sv1,sv2,sv3,Nat.reduceEqDiff,Nat.reduceAdd,Nat.reduceLeDiff,reduceIte,if_false,if_true,mkVal,unLV,List.map,optTmps,beq_self_eq_true,reduceCtorEq,false_or,true_and,and_true,Option.some.injEq, *];done),?_⟩)
    simp only [Env.put_some]
    cases bb<;>simp only [decide_eq_true_eq,decide_eq_false_iff_not] at hbb
    · repeat' (first | refine gA trivial ?_ | (refine gB trivial ?_;intro bb hbb;cases bb<;>(try simp only [hbs,if_false,reduceCtorEq] at hbb)) | apply qc_seq | fail)
      exact ⟨.inr trivial,ef⟩
    clear hrw
    repeat' (first | refine gA trivial ?_ | (refine gB trivial ?_;intro bb hbb;cases bb<;>(try simp only [hbs,if_false,reduceCtorEq] at hbb)) | apply qc_seq | fail)
    refine q_pureB hG0 (hawA) (by first | exact wN | (apply wG;(simp only [lk,Nat.reduceEqDiff,reduceIte,e3,e4,e5,e103,e105,e107,e108];(try rfl);done))) (by simp only [List.map,lk,Nat.reduceEqDiff,reduceIte,e3,e4,e5,e103,e105,e107,e108];try rfl) (fun bb hbb=>⟨by first | trivial | (simp only [Chks,wantedG,LOp.run,Env.put_some,Env.put_none,lk,sv1,sv2,sv3,Nat.reduceEqDiff,Nat.reduceAdd,Nat.reduceLeDiff,reduceIte,if_false,if_true,mkVal,unLV,List.map,optTmps,beq_self_eq_true,reduceCtorEq,false_or,true_and,and_true,Option.some.injEq, *];done),?_⟩)
    simp only [Env.put_some]
    cases bb<;>simp only [decide_eq_true_eq,decide_eq_false_iff_not] at hbb
    · repeat' (first | refine gA trivial ?_ | (refine gB trivial ?_;intro bb hbb;cases bb<;>(try simp only [hbs,if_false,reduceCtorEq] at hbb)) | apply qc_seq | fail)
      exact ⟨.inr trivial,ef⟩
    have hA1:=hbb
    clear hawA
    repeat' (first | refine gA trivial ?_ | (refine gB trivial ?_;intro bb hbb;cases bb<;>(try simp only [hbs,if_false,reduceCtorEq] at hbb)) | apply qc_seq | fail)
    refine q_pureB hG0 (hawB) (by first | exact wN | (apply wG;(simp only [lk,Nat.reduceEqDiff,reduceIte,e3,e4,e5,e103,e105,e107,e108];(try rfl);done))) (by simp only [List.map,lk,Nat.reduceEqDiff,reduceIte,e3,e4,e5,e103,e105,e107,e108];try rfl) (fun bb hbb=>⟨by first | trivial | (simp only [Chks,wantedG,LOp.run,Env.put_some,Env.put_none,lk,sv1,sv2,sv3,Nat.reduceEqDiff,Nat.reduceAdd,Nat.reduceLeDiff,reduceIte,if_false,if_true,mkVal,unLV,List.map,optTmps,beq_self_eq_true,reduceCtorEq,false_or,true_and,and_true,Option.some.injEq, *];done),?_⟩)
    simp only [Env.put_some]
    cases bb<;>simp only [decide_eq_true_eq,decide_eq_false_iff_not] at hbb
    · repeat' (first | refine gA trivial ?_ | (refine gB trivial ?_;intro bb hbb;cases bb<;>(try simp only [hbs,if_false,reduceCtorEq] at hbb)) | apply qc_seq | fail)
      exact ⟨.inr trivial,ef⟩
    exfalso
    have:=hR.ex.2 ⟨_,hA1.2.2,hbb.2.2⟩
    cases this
  | true=>
    have hacc:=hR.acc rfl
    have hx1:=hawA2 hS hL
    have hx2:=hawB2 hS hL
    have hrx:=rwvalid_ok hS hL A.L
    clear hawA2 hawB2
    repeat' (first | refine gA trivial ?_ | (refine gB trivial ?_;intro bb hbb;cases bb<;>(try simp only [hbs,if_false,reduceCtorEq] at hbb)) | apply qc_seq | fail)
    all_goals first | (exfalso;first | (exact absurd hbb (by decide)) | (cases hbb;done) | (exact hbb rfl) | omega) | skip
    refine w_gen (fun e' s'=>s'.get 0=some (.cells .mut [st,lo])∧e'.at 3 = .pimm [.int .i64 A.L,sa,na] 0∧e'.at 4 = .pimm [.int .i64 B.L,sb,nb] 0∧e'.at 5 = .pimm [ws,wl] 0∧e'.at 7 = .bool true∧e'.at 8 = .pref 0 0∧e'.at 9 = .bool true∧e'.at 84 = .bool true∧e'.at 86 = .int .i64 A.L∧e'.at 87 = .agg [st,lo]) ⟨g8',ef,ef,ef,ef,ef,ef,ef,ef,ef⟩ ?_
    clear e3 e4 e5 e7 e8 e9 e10 g8 g8' hn1 e66 e67
    clear e
    rintro e s ⟨g9,e3,e4,e5,e7,e8,e9,e84,e86,e87⟩
    clear hawA hawB hrw
    refine q_pureB hG0 (hrx) (by first | exact wN | (apply wG;(simp only [lk,Nat.reduceEqDiff,reduceIte,e3,e4,e5,e7,e8,e9,e84,e86,e87];(try rfl);done))) (by simp only [List.map,lk,Nat.reduceEqDiff,reduceIte,e3,e4,e5,e7,e8,e9,e84,e86,e87];try rfl) (fun bb hbb=>⟨by first | trivial | (simp only [Chks,wantedG,LOp.run,Env.put_some,Env.put_none,lk,sv1,sv2,sv3,Nat.reduceEqDiff,Nat.reduceAdd,Nat.reduceLeDiff,reduceIte,if_false,if_true,mkVal,unLV,List.map,optTmps,beq_self_eq_true,reduceCtorEq,false_or,true_and,and_true,Option.some.injEq, *];done),?_⟩)
    simp only [Env.put_some]
    cases bb<;>simp only [decide_eq_true_eq,decide_eq_false_iff_not] at hbb
    · repeat' (first | refine gA trivial ?_ | (refine gB trivial ?_;intro bb hbb;cases bb<;>(try simp only [hbs,if_false,reduceCtorEq] at hbb)) | apply qc_seq | fail)
      exact ⟨.inr trivial,ef⟩
    have hall:∀ (l:List Nat) (z:Int),(∀ j,j<(zints l).length→(zints l).getD j 0<z)→AllB (zints l) z:=fun l z hz j hj=>⟨by rw [zints_getD];omega,hz j hj⟩
    have hAA:AW A (zints S) (zints L):=⟨okA,⟨hbb.2.2,hall _ _ hbb.1,hall _ _ hbb.2.1⟩,hacc.1⟩
    have hBB:AW B (zints S) (zints L):=⟨okB,⟨hbb.2.2,hall _ _ (by rw [← hAB'.out];exact hbb.1),hall _ _ (by rw [← hAB'.out];exact hbb.2.1)⟩,hacc.2⟩
    rw [decide_eq_true hAA] at hx1
    rw [decide_eq_true hBB] at hx2
    clear hall hAA hBB hacc hrx
    repeat' (first | refine gA trivial ?_ | (refine gB trivial ?_;intro bb hbb;cases bb<;>(try simp only [hbs,if_false,reduceCtorEq] at hbb)) | apply qc_seq | fail)
    refine q_pure hG0 (hx1) (by first | exact wN | (apply wG;(simp only [lk,Nat.reduceEqDiff,reduceIte,e3,e4,e5,e7,e8,e9,e84,e86,e87];(try rfl);done))) (by simp only [List.map,lk,Nat.reduceEqDiff,reduceIte,e3,e4,e5,e7,e8,e9,e84,e86,e87];try rfl) (by first | trivial | (simp only [Chks,wantedG,LOp.run,Env.put_some,Env.put_none,lk,sv1,sv2,sv3,Nat.reduceEqDiff,Nat.reduceAdd,Nat.reduceLeDiff,reduceIte,if_false,if_true,mkVal,unLV,List.map,optTmps,beq_self_eq_true,reduceCtorEq,false_or,true_and,and_true,Option.some.injEq, *];done)) ?_
    simp only [Env.put_some]
    repeat' (first | refine gA trivial ?_ | (refine gB trivial ?_;intro bb hbb;cases bb<;>(try simp only [hbs,if_false,reduceCtorEq] at hbb)) | apply qc_seq | fail)
    refine q_pure hG0 (hx2) (by first | exact wN | (apply wG;(simp only [lk,Nat.reduceEqDiff,reduceIte,e3,e4,e5,e7,e8,e9,e84,e86,e87];(try rfl);done))) (by simp only [List.map,lk,Nat.reduceEqDiff,reduceIte,e3,e4,e5,e7,e8,e9,e84,e86,e87];try rfl) (by first | trivial | (simp only [Chks,wantedG,LOp.run,Env.put_some,Env.put_none,lk,sv1,sv2,sv3,Nat.reduceEqDiff,Nat.reduceAdd,Nat.reduceLeDiff,reduceIte,if_false,if_true,mkVal,unLV,List.map,optTmps,beq_self_eq_true,reduceCtorEq,false_or,true_and,and_true,Option.some.injEq, *];done)) ?_
    simp only [Env.put_some]
    repeat' (first | refine gA trivial ?_ | (refine gB trivial ?_;intro bb hbb;cases bb<;>(try simp only [hbs,if_false,reduceCtorEq] at hbb)) | apply qc_seq | fail)
    exact ⟨.inr trivial,ef⟩
end Go.Proofs.YtohldpfjnllkdaaDoor
