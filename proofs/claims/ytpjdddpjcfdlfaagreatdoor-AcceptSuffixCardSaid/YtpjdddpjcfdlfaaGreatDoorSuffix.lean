/- The word package: Suffix by one letter. -/
import Derived.Test.YtpjdddpjcfdlfaaGreatDoorWod
import Derived.Test.YtpjdddpjcfdlfaaGreatDoorAt
import Derived.Test.YtpjdddpjcfdlfaaGreatDoorSufp
set_option linter.unusedSimpArgs false
set_option linter.unusedVariables false
namespace Go.Proofs.YtpjdddpjcfdlfaaGreatDoor
open Go Go.Pv
open Classical
theorem nil_ints:IsInts .nils []:=⟨.nil,by decide,fun x hx=>by cases hx⟩
set_option maxHeartbeats 8000000 in
theorem suffix_ok {st lo:LV} {S L:List Int} (hS:IsInts st S) (hL:IsInts lo L) (hf:Fm S L) :
    PE 9 [.agg [st,lo], .int .i64 1] (fun r=>∃ st' lo' S' L',r = .agg [st',lo']∧IsInts st' S'∧IsInts lo' L'∧Fm S' L'∧(∀ x∈S',x∈S∨x∈L)∧(∀ x∈L',x∈L)∧∀ i,lett S' L' i=lett S L (i+1)):=by
  have hcl:(LV.agg [st,lo]).closed=true:=by simp [LV.closed,LV.closed.closedAll,hS.closed,hL.closed]
  have hc1:=hS.sl.cell
  have hc2:=hL.sl.cell
  have hfo:=formed_ok hS hL
  rw [decide_eq_true hf] at hfo
  have hSl:=hS.sl.len
  have hLl:=hL.sl.len
  obtain ⟨f1,f2,f3,f4,f5⟩:=hf
  refine q_fnExR Tryz.func9 (by decide +kernel) c9 (Nat.le_of_ble_eq_true rfl) (by simp [LV.closed.closedAll,hcl];rfl) ?_
  have e0:(envOf [LV.agg [st,lo], .int .i64 1]).at 0 = .agg [st,lo]:=by rw [envOf_at];rfl
  have e1:(envOf [LV.agg [st,lo], .int .i64 1]).at 1 = .int .i64 1:=by rw [envOf_at];rfl
  generalize envOf [LV.agg [st,lo], .int .i64 1]=e at *
  unfold l9
  dsimp only [jA,jB,jC,jG,jH,qM,qL,qN,qF,qS,qO,qP,qG,qm,ql]
  repeat' (first | refine gA trivial ?_ | (refine gB trivial ?_;intro bb hbb;cases bb<;>(try simp only [hbs,if_false,reduceCtorEq] at hbb)) | apply qc_seq | fail)
  all_goals first
    | (exfalso;omega)
    | skip
  refine q_pure hG0 (hfo) (by first | exact wN | (apply wG;(simp only [lk,Nat.reduceEqDiff,reduceIte,e0,e1];(try rfl);done))) (by simp only [List.map,lk,Nat.reduceEqDiff,reduceIte,e0,e1];try rfl) (by first | trivial | (simp only [Chks,wantedG,LOp.run,Env.put_some,Env.put_none,lk,sv1,sv2,sv3,Nat.reduceEqDiff,Nat.reduceAdd,Nat.reduceLeDiff,reduceIte,if_false,if_true,mkVal,unLV,List.map,optTmps,beq_self_eq_true,reduceCtorEq,false_or,true_and,and_true,Option.some.injEq, *];done)) ?_
  simp only [Env.put_some]
  clear hbb
  repeat' (first | refine gA @hSl ?_ | (refine gB @hSl ?_;intro bb hbb;cases bb<;>(try simp only [hbs,if_false,reduceCtorEq] at hbb)) | apply qc_seq | fail)
  · -- the loop is turned
    have hS0:S=[]:=List.length_eq_zero_iff.1 (by omega)
    subst hS0
    have hw:IntKind.i64.wrap ((1:Int) - (([]:List Int).length:Int))=((1:Nat):Int):=by decide
    have hrem:=rem_nat 1 (m:=L.length) (by omega)
    have hk:1 % L.length≤L.length:=Nat.le_of_lt (Nat.mod_lt _ (by omega))
    have hrl:=fun i=>lett_rot (L:=L) f2 i
    have htu:=turned_ok hL (by omega) f2 hk
    repeat' (first | refine gA (And.intro @hSl (And.intro @hLl (And.intro @hw @hrem))) ?_ | (refine gB (And.intro @hSl (And.intro @hLl (And.intro @hw @hrem))) ?_;intro bb hbb;cases bb<;>(try simp only [hbs,if_false,reduceCtorEq] at hbb)) | apply qc_seq | fail)
    refine q_pureEx hG0 htu wN (by simp only [List.map,lk,sv1,sv2,sv3,Nat.reduceEqDiff,Nat.reduceAdd,Nat.reduceLeDiff,reduceIte,if_false,if_true,mkVal,unLV,List.map,optTmps]) (fun r hr hrc=>⟨trivial,?_⟩)
    simp only [Env.put_some]
    have hcr:=hr.sl.cell
    have hfr:Fm [] (rot L (1 % L.length)):=⟨by simp,by rw [rot_len hk];exact f2,by rw [rot_len hk];exact f3,fun j hj=>absurd hj (Nat.not_lt_zero _),fun j hj=>f5.mem (rot_mem (List.getD_mem hj))⟩
    refine q_gen (v:=.agg [.nils,r]) wN (by simp only [LOp.run,fillParts,evParts,List.map,lk,sv1,sv2,sv3,Nat.reduceEqDiff,Nat.reduceAdd,Nat.reduceLeDiff,reduceIte,if_false,if_true,mkVal,unLV,List.map,optTmps,cells_cell hcr];rfl) rfl trivial ?_
    simp only [Env.put_some]
    refine q_pureEx hG0 (normal_ok nil_ints hr hfr) wN (by simp only [List.map,lk,sv1,sv2,sv3,Nat.reduceEqDiff,Nat.reduceAdd,Nat.reduceLeDiff,reduceIte,if_false,if_true,mkVal,unLV,List.map,optTmps]) (fun r2 hr2 hrc2=>⟨trivial,?_⟩)
    obtain ⟨st',lo',sl',ll',rfl,hS',hL',g1,g2,g3,g4,g5,g6,-⟩:=hr2
    have hca:=hS'.sl.cell
    have hcb:=hL'.sl.cell
    simp only [Env.put_some]
    refine q_storeG (i:=0) (o:=0) (n:=2) (cs:=[.nils, .nils]) (vs:=[st',lo']) (cs':=[st',lo']) (v:=.agg [st',lo']) ef ef (by simp [cells_agg,hca,hcb]) (by simp [n_empty]) rfl (by simp) rfl ?_
    repeat' (first | refine gA trivial ?_ | (refine gB trivial ?_;intro bb hbb;cases bb<;>(try simp only [hbs,if_false,reduceCtorEq] at hbb)) | apply qc_seq | fail)
    exact ⟨.inr trivial, .agg [st',lo'],by simp [resVal,resOne,mkVal], .agg [st',lo'],_,frzD_closed hrc2,hrc2,_,_,_,_,rfl,hS',hL',Fm.sub hfr g1 g2 g3 (fun x hx=>.inl (g4 x hx)) g5,fun x hx=>absurd (g4 x hx) (by simp),fun x hx=>rot_mem (g5 x hx),fun i=>by rw [g6 i];exact hrl i⟩
  · have hS1:1≤S.length:=by omega
    have hsub:IsInts (.simm (((ints S).drop 1).take (S.length - 1)) (S.length - 1)) (S.drop 1):=by
      have:=sub_ints (l:=S) (k:=1) (n:=S.length - 1) hS.rng (by omega) hS.len
      rwa [List.take_of_length_le (by simp) (l:=S.drop 1)] at this
    have hfr:Fm (S.drop 1) L:=⟨by simp;omega,f2,f3,fun j hj=>f4.mem (List.mem_of_mem_drop (List.getD_mem hj)),f5⟩
    have hld:=fun i=>lett_drop (L:=L) hS1 i
    have hcr:=hsub.sl.cell
    repeat' (first | refine gA (And.intro @hSl @hLl) ?_ | (refine gB (And.intro @hSl @hLl) ?_;intro bb hbb;cases bb<;>(try simp only [hbs,if_false,reduceCtorEq] at hbb)) | apply qc_seq | fail)
    refine q_gen (v:=.simm (((ints S).drop 1).take (S.length - 1)) (S.length - 1)) wN (run_slice (h:=S.length) (k:=1) (lov:=some (.int .i64 ((1:Nat):Int))) (hiv:=none) (by simp only [lk,sv1,sv2,sv3,Nat.reduceEqDiff,Nat.reduceAdd,Nat.reduceLeDiff,reduceIte,if_false,if_true,mkVal,unLV,List.map,optTmps];exact hS.sl.pos (by omega)) (by simp only [Option.map_some,lk,sv1,sv2,sv3,Nat.reduceEqDiff,Nat.reduceAdd,Nat.reduceLeDiff,reduceIte,if_false,if_true,mkVal,unLV,List.map,optTmps];rfl) rfl rfl (bnd_int hS1) (ints_length S)) rfl trivial ?_
    simp only [Env.put_some]
    generalize LV.simm (((ints S).drop 1).take (S.length - 1)) (S.length - 1)=dv at *
    repeat' (first | refine gA trivial ?_ | (refine gB trivial ?_;intro bb hbb;cases bb<;>(try simp only [hbs,if_false,reduceCtorEq] at hbb)) | apply qc_seq | fail)
    refine q_gen (v:=.agg [dv,lo]) wN (by simp only [LOp.run,fillParts,evParts,List.map,lk,sv1,sv2,sv3,Nat.reduceEqDiff,Nat.reduceAdd,Nat.reduceLeDiff,reduceIte,if_false,if_true,mkVal,unLV,List.map,optTmps,cells_cell hcr,cells_cell hc2];rfl) rfl trivial ?_
    simp only [Env.put_some]
    refine q_pureEx hG0 (normal_ok hsub hL hfr) wN (by simp only [List.map,lk,sv1,sv2,sv3,Nat.reduceEqDiff,Nat.reduceAdd,Nat.reduceLeDiff,reduceIte,if_false,if_true,mkVal,unLV,List.map,optTmps]) (fun r2 hr2 hrc2=>⟨trivial,?_⟩)
    obtain ⟨st',lo',sl',ll',rfl,hS',hL',g1,g2,g3,g4,g5,g6,-⟩:=hr2
    have hca:=hS'.sl.cell
    have hcb:=hL'.sl.cell
    simp only [Env.put_some]
    refine q_storeG (i:=0) (o:=0) (n:=2) (cs:=[.nils, .nils]) (vs:=[st',lo']) (cs':=[st',lo']) (v:=.agg [st',lo']) ef ef (by simp [cells_agg,hca,hcb]) (by simp [n_empty]) rfl (by simp) rfl ?_
    repeat' (first | refine gA trivial ?_ | (refine gB trivial ?_;intro bb hbb;cases bb<;>(try simp only [hbs,if_false,reduceCtorEq] at hbb)) | apply qc_seq | fail)
    exact ⟨.inr trivial, .agg [st',lo'],by simp [resVal,resOne,mkVal], .agg [st',lo'],_,frzD_closed hrc2,hrc2,_,_,_,_,rfl,hS',hL',Fm.sub hfr g1 g2 g3 (fun x hx=>.inl (g4 x hx)) g5,fun x hx=>.inl (List.mem_of_mem_drop (g4 x hx)),g5,fun i=>by rw [g6 i];exact hld i⟩
end Go.Proofs.YtpjdddpjcfdlfaaGreatDoor
