/- The document's At: the letter at a position. -/
import Derived.Test.YtgobbogomchnhaaGreatDoorRval
import Derived.Test.YtgobbogomchnhaaGreatDoorRemn
import Derived.Test.YtgobbogomchnhaaGreatDoorWod
set_option linter.unusedSimpArgs false
set_option linter.unusedVariables false
namespace Go.Proofs.YtgobbogomchnhaaGreatDoor
open Go Go.Pv
open Classical
theorem rat_ok {st lo:LV} {S L:List Int} (hS:IsInts st S) (hL:IsInts lo L) (hf:Fm S L) {i:Nat} (hi:i≤1000000):PO 97 [.agg [st,lo], .int .i64 (i:Int)] (.int .i64 (lett S L i)):=by
 have hcl:(LV.agg [st,lo]).closed=true:=by simp [LV.closed,LV.closed.closedAll,hS.closed,hL.closed]
 have hc1:=hS.sl.cell
 have hc2:=hL.sl.cell
 obtain ⟨f1,f2,f3,-,-⟩:=hf
 have hSl:=hS.sl.len
 have hLl:=hL.sl.len
 refine q_fn (t:=4) hm Tryz.func97 (by decide +kernel) c97 (Nat.le_of_ble_eq_true rfl) (by simp [LV.closed.closedAll,hcl];rfl) rfl rfl ?_
 have e0:(envOf [LV.agg [st,lo], .int .i64 (i:Int)]).at 0 = .agg [st,lo]:=by rw [envOf_at];rfl
 have e1:(envOf [LV.agg [st,lo], .int .i64 (i:Int)]).at 1 = .int .i64 (i:Int):=by rw [envOf_at];rfl
 generalize envOf [LV.agg [st,lo], .int .i64 (i:Int)]=e at *
 unfold l97
 dsimp only [jA,jB,qM,qL,qF,qS,qI,qB,qC,qO,qm,ql]
 by_cases hil:i<S.length
 ·have hiI:(i:Int)<(S.length:Int):=by omega
  repeat' (first | refine gA (And.intro @hSl (And.intro (@iaN _ _ _ hS.sl) @ints_get)) ?_ | (refine gB (And.intro @hSl (And.intro (@iaN _ _ _ hS.sl) @ints_get)) ?_;intro bb hbb;cases bb<;>(try simp only [hbs,if_false,reduceCtorEq] at hbb)) | apply qc_seq | fail)
  all_goals first
   | (exfalso;omega)
   | skip
  refine ⟨.inr trivial,?_⟩
  simp only [lk,sv1,sv2,sv3,Nat.reduceEqDiff,Nat.reduceAdd,Nat.reduceLeDiff,reduceIte,if_false,if_true,mkVal,unLV,List.map,optTmps,lett,if_pos hil]
 ·have hw:IntKind.i64.wrap ((i:Int) - (S.length:Int))=((i - S.length:Nat):Int):=by rw [wrap_i64 _ (by omega) (by omega)];omega
  have hrem:=rem_nat (i - S.length) (m:=L.length) (by omega)
  have hlt:(i - S.length) % L.length<L.length:=Nat.mod_lt _ (by omega)
  have hiI:(((i - S.length) % L.length:Nat):Int)<(L.length:Int):=by omega
  have hlett:lett S L i=L.getD ((i - S.length) % L.length) 0:=by simp only [lett,if_neg hil]
  rw [hlett]
  generalize (i - S.length) % L.length=k at *
  repeat' (first | refine gA (And.intro @hSl (And.intro @hLl (And.intro @hw (And.intro @hrem (And.intro (@iaN _ _ _ hL.sl) @ints_get))))) ?_ | (refine gB (And.intro @hSl (And.intro @hLl (And.intro @hw (And.intro @hrem (And.intro (@iaN _ _ _ hL.sl) @ints_get))))) ?_;intro bb hbb;cases bb<;>(try simp only [hbs,if_false,reduceCtorEq] at hbb)) | apply qc_seq | fail)
  all_goals first
   | (exfalso;omega)
   | skip
  refine ⟨.inr trivial,?_⟩
  simp only [lk,sv1,sv2,sv3,Nat.reduceEqDiff,Nat.reduceAdd,Nat.reduceLeDiff,reduceIte,if_false,if_true,mkVal,unLV,List.map,optTmps]
theorem At_ok {st lo:LV} {S L:List Int} (hS:IsInts st S) (hL:IsInts lo L) (hf:Fm S L) {i:Nat} (hi:i≤1000000):PO 67 [.agg [st,lo], .int .i64 (i:Int)] (.int .i64 (lett S L i)):=by
 have hcl:(LV.agg [st,lo]).closed=true:=by simp [LV.closed,LV.closed.closedAll,hS.closed,hL.closed]
 have hc1:=hS.sl.cell
 have hc2:=hL.sl.cell
 have hfo:=rformed_ok hS hL
 rw [decide_eq_true hf] at hfo
 have hat:=rat_ok hS hL hf hi
 refine q_fn (t:=4) hm Tryz.func67 (by decide +kernel) c67 (Nat.le_of_ble_eq_true rfl) (by simp [LV.closed.closedAll,hcl];rfl) rfl rfl ?_
 have e0:(envOf [LV.agg [st,lo], .int .i64 (i:Int)]).at 0 = .agg [st,lo]:=by rw [envOf_at];rfl
 have e1:(envOf [LV.agg [st,lo], .int .i64 (i:Int)]).at 1 = .int .i64 (i:Int):=by rw [envOf_at];rfl
 generalize envOf [LV.agg [st,lo], .int .i64 (i:Int)]=e at *
 unfold l67
 dsimp only [jA,jC,qN,qC,qO,qP,qG,qm]
 repeat' (first | refine gA trivial ?_ | (refine gB trivial ?_;intro bb hbb;cases bb<;>(try simp only [hbs,if_false,reduceCtorEq] at hbb)) | apply qc_seq | fail)
 all_goals first
  | (exfalso;omega)
  | skip
 refine q_pure hG0 (hfo) (by first | exact wN | (apply wG;(simp only [lk,Nat.reduceEqDiff,reduceIte,e0,e1];(try rfl);done))) (by simp only [List.map,lk,Nat.reduceEqDiff,reduceIte,e0,e1];try rfl) (by first | trivial | (simp only [Chks,wantedG,LOp.run,Env.put_some,Env.put_none,lk,sv1,sv2,sv3,Nat.reduceEqDiff,Nat.reduceAdd,Nat.reduceLeDiff,reduceIte,if_false,if_true,mkVal,unLV,List.map,optTmps,beq_self_eq_true,reduceCtorEq,false_or,true_and,and_true,Option.some.injEq, *];done)) ?_
 simp only [Env.put_some]
 repeat' (first | refine gA trivial ?_ | (refine gB trivial ?_;intro bb hbb;cases bb<;>(try simp only [hbs,if_false,reduceCtorEq] at hbb)) | apply qc_seq | fail)
 refine q_pure hG0 (hat) (by first | exact wN | (apply wG;(simp only [lk,Nat.reduceEqDiff,reduceIte,e0,e1];(try rfl);done))) (by simp only [List.map,lk,Nat.reduceEqDiff,reduceIte,e0,e1];try rfl) (by first | trivial | (simp only [Chks,wantedG,LOp.run,Env.put_some,Env.put_none,lk,sv1,sv2,sv3,Nat.reduceEqDiff,Nat.reduceAdd,Nat.reduceLeDiff,reduceIte,if_false,if_true,mkVal,unLV,List.map,optTmps,beq_self_eq_true,reduceCtorEq,false_or,true_and,and_true,Option.some.injEq, *];done)) ?_
 simp only [Env.put_some]
 repeat' (first | refine gA trivial ?_ | (refine gB trivial ?_;intro bb hbb;cases bb<;>(try simp only [hbs,if_false,reduceCtorEq] at hbb)) | apply qc_seq | fail)
 refine ⟨.inr trivial,?_⟩
 simp only [lk,sv1,sv2,sv3,Nat.reduceEqDiff,Nat.reduceAdd,Nat.reduceLeDiff,reduceIte,if_false,if_true,mkVal,unLV,List.map,optTmps]
end Go.Proofs.YtgobbogomchnhaaGreatDoor
