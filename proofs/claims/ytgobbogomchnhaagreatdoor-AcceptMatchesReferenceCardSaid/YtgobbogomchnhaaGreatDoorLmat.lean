/- The law of matching, run: the code's run answers as the reference's. -/
import Derived.Test.YtgobbogomchnhaaGreatDoorNewtrack
import Derived.Test.YtgobbogomchnhaaGreatDoorChk3
import Derived.Test.YtgobbogomchnhaaGreatDoorArgs
import Derived.Test.YtgobbogomchnhaaGreatDoorRval
import Derived.Test.YtgobbogomchnhaaGreatDoorHead
import Derived.Test.YtgobbogomchnhaaGreatDoorRsame
import Derived.Test.YtgobbogomchnhaaGreatDoorRfrun
import Derived.Test.YtgobbogomchnhaaGreatDoorRnrm
import Derived.Test.YtgobbogomchnhaaGreatDoorRchk
import Derived.Test.YtgobbogomchnhaaGreatDoorPvRow
set_option linter.unusedSimpArgs false
set_option linter.unusedVariables false
set_option maxRecDepth 100000
namespace Go.Proofs.YtgobbogomchnhaaGreatDoor
open Go Go.Pv Go.Aut
open Classical
set_option maxHeartbeats 16000000 in
theorem lawMat:∀ lvs,HasArgs Tryz.prog 9 Tryz.f4.params.toList lvs→LawOkG Tryz.prog GL 4 lvs:=by
 intro lvs h
 rw [Tryz.params4] at h
 cases h with | cons a h=>
 cases h with | cons c h=>
 cases h with | cons p h=>
 cases h
 obtain ⟨B,sb,nb,hB,-⟩:=argB a
 obtain ⟨st,lo,S,L,rfl,hS,hL⟩:=argL c
 obtain ⟨pv,qv,P,Q,rfl,hP,hQ⟩:=argP p
 refine ⟨Tryz.f4,[],l4,Tryz.func4,by decide +kernel,c4,Nat.le_of_ble_eq_true rfl,CodeOk.mono (Q:=fun o e s=>(o = .normal∨o = .jmp .ret)∧e.at 6 = .bool true) (Cd.out ?_) fun o e s hh=>⟨hh.1,by simp [l4,resVal,resOne,hh.2]⟩⟩
 clear a c p
 have hcB:=hB.closed
 have hcw:(LV.agg [st,lo]).closed=true:=by simp [LV.closed,LV.closed.closedAll,hS.closed,hL.closed]
 have hcp:(LV.agg [pv,qv]).closed=true:=by simp [LV.closed,LV.closed.closedAll,hP.closed,hQ.closed]
 have cs:=hS.sl.cell
 have cl:=hL.sl.cell
 have cp:=hP.sl.cell
 have cq:=hQ.sl.cell
 have hPl:=hP.sl.len
 have hQl:=hQ.sl.len
 have hfw:=few_ok hB hS hL
 have hwd:=aword_ok hB hS hL
 have hrn:=run_ok hB hS hL
 have hrf:=rfrun_ok hB hS hL
 have hB2:=hB
 have hck:=fun {pv qv:LV} {P Q:List Int} (hP:IsInts pv P) (hQ:IsInts qv Q) (h1:P.length≤600000) (h2:Q.length≤600001)=>check_ok hB hS hL hP hQ h1 h2
 obtain ⟨rfl,hsb,vb,hnb⟩:=hB
 have cb1:=hsb.sl.cell
 have cb2:=hnb.sl.cell
 have e0:(envOf [LV.agg [.int .i64 B.L,sb,nb], .agg [st,lo], .agg [pv,qv]]).at 0 = .agg [.int .i64 B.L,sb,nb]:=by rw [envOf_at];rfl
 have e1:(envOf [LV.agg [.int .i64 B.L,sb,nb], .agg [st,lo], .agg [pv,qv]]).at 1 = .agg [st,lo]:=by rw [envOf_at];rfl
 have e2:(envOf [LV.agg [.int .i64 B.L,sb,nb], .agg [st,lo], .agg [pv,qv]]).at 2 = .agg [pv,qv]:=by rw [envOf_at];rfl
 generalize envOf [LV.agg [.int .i64 B.L,sb,nb], .agg [st,lo], .agg [pv,qv]]=e at *
 unfold l4
 dsimp only [jA,jB,jC,jE,jG,qM,qL,qN,qF,qS,qK,qO,qP,qm]
 repeat' (first | refine gA trivial ?_ | (refine gB trivial ?_;intro bb hbb;cases bb<;>(try simp only [hbs,if_false,reduceCtorEq] at hbb)) | apply qc_seq | fail)
 refine q_pure hG0 (head_true) (by first | exact wN | (apply wG;(simp only [lk,Nat.reduceEqDiff,reduceIte,e0,e1,e2];(try rfl);done))) (by simp only [List.map,lk,Nat.reduceEqDiff,reduceIte,e0,e1,e2];try rfl) (by first | trivial | (simp only [Chks,wantedG,LOp.run,Env.put_some,Env.put_none,lk,sv1,sv2,sv3,Nat.reduceEqDiff,Nat.reduceAdd,Nat.reduceLeDiff,reduceIte,if_false,if_true,mkVal,unLV,List.map,optTmps,beq_self_eq_true,reduceCtorEq,false_or,true_and,and_true,Option.some.injEq, *];done)) ?_
 simp only [Env.put_some]
 repeat' (first | refine gA trivial ?_ | (refine gB trivial ?_;intro bb hbb;cases bb<;>(try simp only [hbs,if_false,reduceCtorEq] at hbb)) | apply qc_seq | fail)
 refine q_pureEx hG0 hfw wN (by simp only [List.map,lk,sv1,sv2,sv3,Nat.reduceEqDiff,Nat.reduceAdd,Nat.reduceLeDiff,reduceIte,if_false,if_true,mkVal,unLV,List.map,optTmps]) (fun r hr hrc=>⟨trivial,?_⟩)
 obtain ⟨b,rfl,-⟩:=hr
 simp only [Env.put_some]
 cases b with
 | false=>
  repeat' (first | refine gA trivial ?_ | (refine gB trivial ?_;intro bb hbb;cases bb<;>(try simp only [hbs,if_false,reduceCtorEq] at hbb)) | apply qc_seq | fail)
  exact ⟨.inr trivial,ef⟩
 | true=>
 clear hrc hfw
 repeat' (first | refine gA (And.intro @hPl @hQl) ?_ | (refine gB (And.intro @hPl @hQl) ?_;intro bb hbb;cases bb<;>(try simp only [hbs,if_false,reduceCtorEq] at hbb)) | apply qc_seq | fail)
 rotate_left
 ·exact ⟨.inr trivial,ef⟩
 ·exact ⟨.inr trivial,ef⟩
 refine q_pureEx hG0 hrn wN (by simp only [List.map,lk,sv1,sv2,sv3,Nat.reduceEqDiff,Nat.reduceAdd,Nat.reduceLeDiff,reduceIte,if_false,if_true,mkVal,unLV,List.map,optTmps]) (fun r hr hrc=>⟨trivial,?_⟩)
 obtain ⟨xv,yv,X,Y,ok,rfl,hX,hY,hA⟩:=hr
 have cx:=hX.sl.cell
 have cy:=hY.sl.cell
 have hcx:(LV.agg [xv,yv]).closed=true:=by simp [LV.closed,LV.closed.closedAll,hX.closed,hY.closed]
 simp only [Env.put_some]
 have hq40:=hbb
 clear hbb
 repeat' (first | refine gA trivial ?_ | (refine gB trivial ?_;intro bb hbb;cases bb<;>(try simp only [hbs,if_false,reduceCtorEq] at hbb)) | apply qc_seq | fail)
 refine q_pureEx hG0 hrf wN (by simp only [List.map,lk,sv1,sv2,sv3,Nat.reduceEqDiff,Nat.reduceAdd,Nat.reduceLeDiff,reduceIte,if_false,if_true,mkVal,unLV,List.map,optTmps]) (fun r hr hrc2=>⟨trivial,?_⟩)
 obtain ⟨zv,wv,Z,W',ok',rfl,hZ,hW,hA'⟩:=hr
 simp only [Env.put_some]
 have cz:=hZ.sl.cell
 have cw:=hW.sl.cell
 have hcz:(LV.agg [zv,wv]).closed=true:=by simp [LV.closed,LV.closed.closedAll,hZ.closed,hW.closed]
 have hsa:=psame_ok hX hY hZ hW
 obtain ⟨k1,k2,k3⟩:=hA.uniq hA'
 subst k1
 subst k2
 subst k3
 obtain ⟨f1,f2,f3,f4,f5⟩:=hA.facts
 have hkp:=hck hP hQ (by omega) (by omega)
 have hkr:=rchk_ok hB2 hS hL hP hQ (by omega) (by omega)
 rw [← f1] at hwd
 rw [decide_eq_true ⟨rfl,rfl⟩] at hsa
 generalize decide (CK B S L P Q)=ck at *
 clear f1 f2 f3 f4 f5 hA hA' hck hrn hrf
 repeat' (first | refine gA trivial ?_ | (refine gB trivial ?_;intro bb hbb;cases bb<;>(try simp only [hbs,if_false,reduceCtorEq] at hbb)) | apply qc_seq | fail)
 ·simp at hbb
 clear hbb
 refine q_pure hG0 (hsa) (by first | exact wN | (apply wG;(simp only [lk,Nat.reduceEqDiff,reduceIte,e0,e1,e2];(try rfl);done))) (by simp only [List.map,lk,Nat.reduceEqDiff,reduceIte,e0,e1,e2];try rfl) (by first | trivial | (simp only [Chks,wantedG,LOp.run,Env.put_some,Env.put_none,lk,sv1,sv2,sv3,Nat.reduceEqDiff,Nat.reduceAdd,Nat.reduceLeDiff,reduceIte,if_false,if_true,mkVal,unLV,List.map,optTmps,beq_self_eq_true,reduceCtorEq,false_or,true_and,and_true,Option.some.injEq,loadLV,mkVal, *];done)) ?_
 simp only [Env.put_some]
 repeat' (first | refine gA trivial ?_ | (refine gB trivial ?_;intro bb hbb;cases bb<;>(try simp only [hbs,if_false,reduceCtorEq] at hbb)) | apply qc_seq | fail)
 refine q_pure hG0 (hwd) (by first | exact wN | (apply wG;(simp only [lk,Nat.reduceEqDiff,reduceIte,e0,e1,e2];(try rfl);done))) (by simp only [List.map,lk,Nat.reduceEqDiff,reduceIte,e0,e1,e2];try rfl) (by first | trivial | (simp only [Chks,wantedG,LOp.run,Env.put_some,Env.put_none,lk,sv1,sv2,sv3,Nat.reduceEqDiff,Nat.reduceAdd,Nat.reduceLeDiff,reduceIte,if_false,if_true,mkVal,unLV,List.map,optTmps,beq_self_eq_true,reduceCtorEq,false_or,true_and,and_true,Option.some.injEq, *];done)) ?_
 simp only [Env.put_some]
 repeat' (first | refine gA trivial ?_ | (refine gB trivial ?_;intro bb hbb;cases bb<;>(try simp only [hbs,if_false,reduceCtorEq] at hbb)) | apply qc_seq | fail)
 ·simp at hbb
 clear hbb
 refine q_pure hG0 (hkp) (by first | exact wN | (apply wG;(simp only [lk,Nat.reduceEqDiff,reduceIte,e0,e1,e2];(try rfl);done))) (by simp only [List.map,lk,Nat.reduceEqDiff,reduceIte,e0,e1,e2];try rfl) (by first | trivial | (simp only [Chks,wantedG,LOp.run,Env.put_some,Env.put_none,lk,sv1,sv2,sv3,Nat.reduceEqDiff,Nat.reduceAdd,Nat.reduceLeDiff,reduceIte,if_false,if_true,mkVal,unLV,List.map,optTmps,beq_self_eq_true,reduceCtorEq,false_or,true_and,and_true,Option.some.injEq, *];done)) ?_
 simp only [Env.put_some]
 repeat' (first | refine gA trivial ?_ | (refine gB trivial ?_;intro bb hbb;cases bb<;>(try simp only [hbs,if_false,reduceCtorEq] at hbb)) | apply qc_seq | fail)
 refine q_pure hG0 (hkr) (by first | exact wN | (apply wG;(simp only [lk,Nat.reduceEqDiff,reduceIte,e0,e1,e2];(try rfl);done))) (by simp only [List.map,lk,Nat.reduceEqDiff,reduceIte,e0,e1,e2];try rfl) (by first | trivial | (simp only [Chks,wantedG,LOp.run,Env.put_some,Env.put_none,lk,sv1,sv2,sv3,Nat.reduceEqDiff,Nat.reduceAdd,Nat.reduceLeDiff,reduceIte,if_false,if_true,mkVal,unLV,List.map,optTmps,beq_self_eq_true,reduceCtorEq,false_or,true_and,and_true,Option.some.injEq, *];done)) ?_
 simp only [Env.put_some]
 repeat' (first | refine gA trivial ?_ | (refine gB trivial ?_;intro bb hbb;cases bb<;>(try simp only [hbs,if_false,reduceCtorEq] at hbb)) | apply qc_seq | fail)
 ·simp at hbb
 exact ⟨.inr trivial,ef⟩
end Go.Proofs.YtgobbogomchnhaaGreatDoor
