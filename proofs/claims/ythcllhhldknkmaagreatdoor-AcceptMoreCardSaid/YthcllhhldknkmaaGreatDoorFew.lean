/- The document's Few of automata and lassos, and Ready. -/
import Derived.Test.YthcllhhldknkmaaGreatDoorRval
import Derived.Test.YthcllhhldknkmaaGreatDoorWref2
set_option linter.unusedSimpArgs false
set_option linter.unusedVariables false
namespace Go.Proofs.YthcllhhldknkmaaGreatDoor
open Go Go.Pv
open Classical
set_option maxHeartbeats 8000000 in
theorem few14_ok {v st lo:LV} {B:Bu} {sv nv:LV} {S L:List Int} (hB:IsB v B sv nv) (hS:IsInts st S) (hL:IsInts lo L) (most:Int):PE 18 [v, .agg [st,lo], .int .i64 most] (fun r=>∃ b,r = .bool b∧(b=true→(B.next.length:Int)≤most∧B.start.length≤60∧S.length≤12∧L.length≤12)):=by
  have hcl:=hB.closed
  have hclw:(LV.agg [st,lo]).closed=true:=by simp [LV.closed,LV.closed.closedAll,hS.closed,hL.closed]
  obtain ⟨rfl,hs,hn⟩:=hB
  obtain ⟨vs,hn'⟩:=hn
  have hnl:=hn'.sl.len
  have hsl:=hs.sl.len
  have hc1:=hs.sl.cell
  have hc2:=hn'.sl.cell
  have hc3:=hS.sl.cell
  have hc4:=hL.sl.cell
  have hSl:=hS.sl.len
  have hLl:=hL.sl.len
  have hmx:maxLen=9223372036854775807:=by decide
  refine q_fnEx (t:=6) hm Tryz.func18 (by decide +kernel) c18 (Nat.le_of_ble_eq_true rfl) (by simp [LV.closed.closedAll,hcl,hclw];rfl) rfl ?_
  have e0:(envOf [LV.agg [.int .i64 B.L,sv,nv], .agg [st,lo], .int .i64 most]).at 0 = .agg [.int .i64 B.L,sv,nv]:=by rw [envOf_at];rfl
  have e1:(envOf [LV.agg [.int .i64 B.L,sv,nv], .agg [st,lo], .int .i64 most]).at 1 = .agg [st,lo]:=by rw [envOf_at];rfl
  have e2:(envOf [LV.agg [.int .i64 B.L,sv,nv], .agg [st,lo], .int .i64 most]).at 2 = .int .i64 most:=by rw [envOf_at];rfl
  generalize envOf [LV.agg [.int .i64 B.L,sv,nv], .agg [st,lo], .int .i64 most]=e at *
  unfold l18
  dsimp only [jA,jC,jD,qM,qL,qF,qS,qI,qA,qB,qC,qK,qO,qP,qm,ql]
  repeat' (first | refine gA (And.intro @hnl (And.intro @hsl (And.intro @hSl @hLl))) ?_ | (refine gB (And.intro @hnl (And.intro @hsl (And.intro @hSl @hLl))) ?_;intro bb hbb;cases bb<;>(try simp only [hbs,if_false,reduceCtorEq] at hbb)) | apply qc_seq | fail)
  all_goals first
    | (refine ⟨.inr trivial, .bool false,_,by simp only [lk,sv1,sv2,sv3,Nat.reduceEqDiff,Nat.reduceAdd,Nat.reduceLeDiff,reduceIte,if_false,if_true,mkVal,unLV,List.map,optTmps];exact frzD_closed rfl,rfl,false,rfl,fun h=>by cases h⟩)
    | skip
  all_goals
    have h1:(B.next.length:Int)≤most:=by omega
    have h2:B.start.length≤60:=by omega
    have h3:S.length≤12:=by omega
    have h4:L.length≤12:=by omega
    clear hbb
    refine qc_loop (fun m e s=>∃ i:Nat,m=B.next.length - i∧i≤B.next.length∧e.at 3 = .pimm [.int .i64 B.L,sv,nv] 0∧e.at 7 = .int .i64 (i:Int)) _
      ⟨0,rfl,by omega,ef,by simp only [lk,sv1,sv2,sv3,Nat.reduceEqDiff,Nat.reduceAdd,Nat.reduceLeDiff,reduceIte,if_false,if_true,mkVal,unLV,List.map,optTmps];rfl⟩ ?_
    clear e0 e1 e2
    clear e
    rintro m e s ⟨i,rfl,hi,e3,e7⟩
    have hws:∀ j:Nat,(j:Int)<9223372036854775807→IntKind.i64.wrap ((j:Int)+1)=((j+1:Nat):Int):=fun j hj=>by rw [wrap_i64 _ (by omega) (by omega)];rfl
    have hnll:=hn'.len
    by_cases hil:i<B.next.length
    · have hiI:(i:Int)<(B.next.length:Int):=by omega
      have hw:=hws i (by omega)
      have g1:vs[i]? = some (vs.getD i .top):=hn'.get hil
      obtain ⟨ws,hr⟩:=hn'.row i hil
      have hrl:=hr.sl.len
      generalize B.next.getD i []=row at *
      generalize vs.getD i .top=rv at *
      repeat' (first | refine gA (And.intro @hnl (And.intro (@iaN _ _ _ hn'.sl) (And.intro @g1 @hrl))) ?_ | (refine gB (And.intro @hnl (And.intro (@iaN _ _ _ hn'.sl) (And.intro @g1 @hrl))) ?_;intro bb hbb;cases bb<;>(try simp only [hbs,if_false,reduceCtorEq] at hbb)) | apply qc_seq | fail)
      · exfalso;omega
      rotate_left
      · refine ⟨.inr trivial, .bool false,_,by simp only [lk,sv1,sv2,sv3,Nat.reduceEqDiff,Nat.reduceAdd,Nat.reduceLeDiff,reduceIte,if_false,if_true,mkVal,unLV,List.map,optTmps];exact frzD_closed rfl,rfl,false,rfl,fun h=>by cases h⟩
      have hr64:row.length≤64:=by omega
      refine qc_loop (fun m e s=>∃ a:Nat,m=row.length - a∧a≤row.length∧e.at 3 = .pimm [.int .i64 B.L,sv,nv] 0∧e.at 7 = .int .i64 (i:Int)∧e.at 8 = .int .i64 (a:Int)) _
        ⟨0,rfl,by omega,ef,ef,by simp only [lk,sv1,sv2,sv3,Nat.reduceEqDiff,Nat.reduceAdd,Nat.reduceLeDiff,reduceIte,if_false,if_true,mkVal,unLV,List.map,optTmps];rfl⟩ ?_
      clear e3 e7
      clear e
      rintro m e s ⟨a,rfl,ha,e3,e7,e8⟩
      by_cases hal:a<row.length
      · have haI:(a:Int)<(row.length:Int):=by omega
        have hwa:=hws a (by omega)
        have g2:ws[a]? = some (ws.getD a .top):=hr.get hal
        have hml:=(hr.row a hal).sl.len
        generalize row.getD a []=ms at *
        generalize ws.getD a .top=mv at *
        repeat' (first | refine gA (And.intro (@iaN _ _ _ hn'.sl) (And.intro @g1 (And.intro @hrl (And.intro (@iaN _ _ _ hr.sl) (And.intro @g2 @hml))))) ?_ | (refine gB (And.intro (@iaN _ _ _ hn'.sl) (And.intro @g1 (And.intro @hrl (And.intro (@iaN _ _ _ hr.sl) (And.intro @g2 @hml))))) ?_;intro bb hbb;cases bb<;>(try simp only [hbs,if_false,reduceCtorEq] at hbb)) | apply qc_seq | fail)
        · exfalso;omega
        · refine ⟨row.length - (a+1),by omega,a+1,rfl,by omega,?_⟩
          simp only [lk,sv1,sv2,sv3,Nat.reduceEqDiff,Nat.reduceAdd,Nat.reduceLeDiff,reduceIte,if_false,if_true,mkVal,unLV,List.map,optTmps,hwa,e3,e7,and_self]
        · refine ⟨.inr trivial, .bool false,_,by simp only [lk,sv1,sv2,sv3,Nat.reduceEqDiff,Nat.reduceAdd,Nat.reduceLeDiff,reduceIte,if_false,if_true,mkVal,unLV,List.map,optTmps];exact frzD_closed rfl,rfl,false,rfl,fun h=>by cases h⟩
      · repeat' (first | refine gA (And.intro (@iaN _ _ _ hn'.sl) (And.intro @g1 @hrl)) ?_ | (refine gB (And.intro (@iaN _ _ _ hn'.sl) (And.intro @g1 @hrl)) ?_;intro bb hbb;cases bb<;>(try simp only [hbs,if_false,reduceCtorEq] at hbb)) | apply qc_seq | fail)
        · refine ⟨B.next.length - (i+1),by omega,i+1,rfl,by omega,?_⟩
          simp only [lk,sv1,sv2,sv3,Nat.reduceEqDiff,Nat.reduceAdd,Nat.reduceLeDiff,reduceIte,if_false,if_true,mkVal,unLV,List.map,optTmps,hw,e3,and_self]
        · exfalso;omega
    · repeat' (first | refine gA @hnl ?_ | (refine gB @hnl ?_;intro bb hbb;cases bb<;>(try simp only [hbs,if_false,reduceCtorEq] at hbb)) | apply qc_seq | fail)
      · refine ⟨.inr trivial, .bool true,_,by simp only [lk,sv1,sv2,sv3,Nat.reduceEqDiff,Nat.reduceAdd,Nat.reduceLeDiff,reduceIte,if_false,if_true,mkVal,unLV,List.map,optTmps];exact frzD_closed rfl,rfl,true,rfl,fun _=>⟨h1,h2,h3,h4⟩⟩
      · exfalso;omega
theorem few_ok {v st lo:LV} {B:Bu} {sv nv:LV} {S L:List Int} (hB:IsB v B sv nv) (hS:IsInts st S) (hL:IsInts lo L):PE 8 [v, .agg [st,lo]] (fun r=>∃ b,r = .bool b∧(b=true→(B.next.length:Int)≤12∧B.start.length≤60∧S.length≤12∧L.length≤12)):=by
  have hcl:=hB.closed
  have hclw:(LV.agg [st,lo]).closed=true:=by simp [LV.closed,LV.closed.closedAll,hS.closed,hL.closed]
  have hfe:=few14_ok hB hS hL 12
  obtain ⟨rfl,hs,hn⟩:=hB
  obtain ⟨vs,hn'⟩:=hn
  have hc1:=hs.sl.cell
  have hc2:=hn'.sl.cell
  have hc3:=hS.sl.cell
  have hc4:=hL.sl.cell
  refine q_fnEx (t:=4) hm Tryz.func8 (by decide +kernel) c8 (Nat.le_of_ble_eq_true rfl) (by simp [LV.closed.closedAll,hcl,hclw]) rfl ?_
  have e0:(envOf [LV.agg [.int .i64 B.L,sv,nv], .agg [st,lo]]).at 0 = .agg [.int .i64 B.L,sv,nv]:=by rw [envOf_at];rfl
  have e1:(envOf [LV.agg [.int .i64 B.L,sv,nv], .agg [st,lo]]).at 1 = .agg [st,lo]:=by rw [envOf_at];rfl
  generalize envOf [LV.agg [.int .i64 B.L,sv,nv], .agg [st,lo]]=e at *
  unfold l8
  dsimp only [jA,qN,qK,qO,qm]
  repeat' (first | refine gA trivial ?_ | (refine gB trivial ?_;intro bb hbb;cases bb<;>(try simp only [hbs,if_false,reduceCtorEq] at hbb)) | apply qc_seq | fail)
  refine q_pureEx hG0 hfe wN (by simp only [List.map,lk,sv1,sv2,sv3,Nat.reduceEqDiff,Nat.reduceAdd,Nat.reduceLeDiff,reduceIte,if_false,if_true,mkVal,unLV,List.map,optTmps]) (fun r hr hrc=>⟨trivial,?_⟩)
  obtain ⟨b,rfl,hb⟩:=hr
  simp only [Env.put_some]
  repeat' (first | refine gA trivial ?_ | (refine gB trivial ?_;intro bb hbb;cases bb<;>(try simp only [hbs,if_false,reduceCtorEq] at hbb)) | apply qc_seq | fail)
  exact ⟨.inr trivial, .bool b,_,by simp only [lk,sv1,sv2,sv3,Nat.reduceEqDiff,Nat.reduceAdd,Nat.reduceLeDiff,reduceIte,if_false,if_true,mkVal,unLV,List.map,optTmps];exact frzD_closed rfl,rfl,b,rfl,hb⟩
def Rdy (B:Bu) (S L:List Int):Prop:=Vb B∧Fm S L∧AllB S B.L∧AllB L B.L
theorem ready_ok {v st lo:LV} {B:Bu} {sv nv:LV} {S L:List Int} (hB:IsB v B sv nv) (hS:IsInts st S) (hL:IsInts lo L):PO 12 [v, .agg [st,lo]] (.bool (decide (Rdy B S L))):=by
  have hcl:=hB.closed
  have hclw:(LV.agg [st,lo]).closed=true:=by simp [LV.closed,LV.closed.closedAll,hS.closed,hL.closed]
  have hbv:=rbvalid_ok hB
  have hwv:=rwvalid_ok hS hL B.L
  obtain ⟨rfl,hs,hn⟩:=hB
  obtain ⟨vs,hn'⟩:=hn
  have hc1:=hs.sl.cell
  have hc2:=hn'.sl.cell
  have hc3:=hS.sl.cell
  have hc4:=hL.sl.cell
  refine q_fn (t:=4) hm Tryz.func12 (by decide +kernel) c12 (Nat.le_of_ble_eq_true rfl) (by simp [LV.closed.closedAll,hcl,hclw]) rfl rfl ?_
  have e0:(envOf [LV.agg [.int .i64 B.L,sv,nv], .agg [st,lo]]).at 0 = .agg [.int .i64 B.L,sv,nv]:=by rw [envOf_at];rfl
  have e1:(envOf [LV.agg [.int .i64 B.L,sv,nv], .agg [st,lo]]).at 1 = .agg [st,lo]:=by rw [envOf_at];rfl
  generalize envOf [LV.agg [.int .i64 B.L,sv,nv], .agg [st,lo]]=e at *
  unfold l12
  dsimp only [jA,jD,qL,qN,qF,qK,qO,qG,qm]
  repeat' (first | refine gA trivial ?_ | (refine gB trivial ?_;intro bb hbb;cases bb<;>(try simp only [hbs,if_false,reduceCtorEq] at hbb)) | apply qc_seq | fail)
  refine q_pureB hG0 (hbv) (by first | exact wN | (apply wG;(simp only [lk,Nat.reduceEqDiff,reduceIte,e0,e1];(try rfl);done))) (by simp only [List.map,lk,Nat.reduceEqDiff,reduceIte,e0,e1];try rfl) (fun bb hbb=>⟨by first | trivial | (simp only [Chks,wantedG,LOp.run,Env.put_some,Env.put_none,lk,sv1,sv2,sv3,Nat.reduceEqDiff,Nat.reduceAdd,Nat.reduceLeDiff,reduceIte,if_false,if_true,mkVal,unLV,List.map,optTmps,beq_self_eq_true,reduceCtorEq,false_or,true_and,and_true,Option.some.injEq, *];done),?_⟩)
  simp only [Env.put_some]
  cases bb<;>simp only [decide_eq_true_eq,decide_eq_false_iff_not] at hbb
  · repeat' (first | refine gA trivial ?_ | (refine gB trivial ?_;intro bb hbb;cases bb<;>(try simp only [hbs,if_false,reduceCtorEq] at hbb)) | apply qc_seq | fail)
    refine ⟨.inr trivial,?_⟩
    simp only [lk,sv1,sv2,sv3,Nat.reduceEqDiff,Nat.reduceAdd,Nat.reduceLeDiff,reduceIte,if_false,if_true,mkVal,unLV,List.map,optTmps]
    exact bool_f fun h=>hbb h.1
  have hb1:=hbb
  clear hbb
  repeat' (first | refine gA trivial ?_ | (refine gB trivial ?_;intro bb hbb;cases bb<;>(try simp only [hbs,if_false,reduceCtorEq] at hbb)) | apply qc_seq | fail)
  refine q_pureB hG0 (hwv) (by first | exact wN | (apply wG;(simp only [lk,Nat.reduceEqDiff,reduceIte,e0,e1];(try rfl);done))) (by simp only [List.map,lk,Nat.reduceEqDiff,reduceIte,e0,e1];try rfl) (fun bb hbb=>⟨by first | trivial | (simp only [Chks,wantedG,LOp.run,Env.put_some,Env.put_none,lk,sv1,sv2,sv3,Nat.reduceEqDiff,Nat.reduceAdd,Nat.reduceLeDiff,reduceIte,if_false,if_true,mkVal,unLV,List.map,optTmps,beq_self_eq_true,reduceCtorEq,false_or,true_and,and_true,Option.some.injEq, *];done),?_⟩)
  simp only [Env.put_some]
  cases bb<;>simp only [decide_eq_true_eq,decide_eq_false_iff_not] at hbb
  · repeat' (first | refine gA trivial ?_ | (refine gB trivial ?_;intro bb hbb;cases bb<;>(try simp only [hbs,if_false,reduceCtorEq] at hbb)) | apply qc_seq | fail)
    refine ⟨.inr trivial,?_⟩
    simp only [lk,sv1,sv2,sv3,Nat.reduceEqDiff,Nat.reduceAdd,Nat.reduceLeDiff,reduceIte,if_false,if_true,mkVal,unLV,List.map,optTmps]
    exact bool_f fun h=>hbb ⟨fun j hj=>(h.2.2.1 j hj).2,fun j hj=>(h.2.2.2 j hj).2,h.2.1⟩
  · repeat' (first | refine gA trivial ?_ | (refine gB trivial ?_;intro bb hbb;cases bb<;>(try simp only [hbs,if_false,reduceCtorEq] at hbb)) | apply qc_seq | fail)
    refine ⟨.inr trivial,?_⟩
    simp only [lk,sv1,sv2,sv3,Nat.reduceEqDiff,Nat.reduceAdd,Nat.reduceLeDiff,reduceIte,if_false,if_true,mkVal,unLV,List.map,optTmps]
    exact bool_t ⟨hb1,hbb.2.2,fun j hj=>⟨(hbb.2.2.2.2.2.1 j hj).1,hbb.1 j hj⟩,fun j hj=>⟨(hbb.2.2.2.2.2.2 j hj).1,hbb.2.1 j hj⟩⟩
end Go.Proofs.YthcllhhldknkmaaGreatDoor
