/- The document's Formed and Valid of words. -/
import Derived.Test.YthcllhhldknkmaaGreatDoorWoa
import Derived.Test.YthcllhhldknkmaaGreatDoorLitw
set_option linter.unusedSimpArgs false
set_option linter.unusedVariables false
namespace Go.Proofs.YthcllhhldknkmaaGreatDoor
open Go Go.Pv
open Classical
theorem rformed_ok {st lo:LV} {S L:List Int} (hS:IsInts st S) (hL:IsInts lo L):PO 78 [.agg [st,lo]] (.bool (decide (Fm S L))):=by
  have hcl:(LV.agg [st,lo]).closed=true:=by simp [LV.closed,LV.closed.closedAll,hS.closed,hL.closed]
  have hc1:=hS.sl.cell
  have hc2:=hL.sl.cell
  refine q_fn (t:=2) hm Tryz.func78 (by decide +kernel) c78 (Nat.le_of_ble_eq_true rfl) (by simp [LV.closed.closedAll,hcl]) rfl rfl ?_
  have h0:(envOf [LV.agg [st,lo]]).at 0 = .agg [st,lo]:=by rw [envOf_at];rfl
  generalize envOf [LV.agg [st,lo]]=e at *
  unfold l78
  dsimp only [jA,jC,qL,qF,qS,qI,qA,qB,qC,qK,qO,qP,qG,qm,ql]
  repeat' (first | refine gA (And.intro @hS.sl.len @hL.sl.len) ?_ | (refine gB (And.intro @hS.sl.len @hL.sl.len) ?_;intro bb hbb;cases bb<;>(try simp only [hbs,if_false,reduceCtorEq] at hbb)) | apply qc_seq | fail)
  all_goals first
    | (refine ⟨.inr trivial,?_⟩
       simp only [lk,sv1,sv2,sv3,Nat.reduceEqDiff,Nat.reduceAdd,Nat.reduceLeDiff,reduceIte,if_false,if_true,mkVal,unLV,List.map,optTmps]
       refine bool_f fun h=>?_
       obtain ⟨a,b,c,d,f⟩:=h
       omega)
    | skip
  refine qc_loop (fun n e s=>∃ i:Nat,n=S.length - i∧i≤S.length∧(∀ j,j<i→0≤S.getD j 0∧S.getD j 0<64)∧e.at 1 = .pimm [st,lo] 0∧e.at 3 = .int .i64 (i:Int)) _ ⟨0,rfl,by omega,fun j hj=>absurd hj (Nat.not_lt_zero _),ef,ef⟩ ?_
  have k1:S.length≤60∧1≤L.length∧L.length≤40:=by omega
  clear h0 hbb
  clear e
  rintro n e s ⟨i,rfl,hi,hall,e1,e3⟩
  by_cases hil:i<S.length
  · have hiI:(i:Int)<(S.length:Int):=by omega
    have hw:=wrap_succ (i:=i) hiI hS.len
    repeat' (first | refine gA (And.intro @hS.sl.len (And.intro (@iaN _ _ _ hS.sl) @ints_get)) ?_ | (refine gB (And.intro @hS.sl.len (And.intro (@iaN _ _ _ hS.sl) @ints_get)) ?_;intro bb hbb;cases bb<;>(try simp only [hbs,if_false,reduceCtorEq] at hbb)) | apply qc_seq | fail)
    all_goals first
      | (exfalso;omega)
      | skip
    refine q_pureB hG0 (letter_ok (S.getD i 0)) (by first | exact wN | (apply wG;(simp only [lk,Nat.reduceEqDiff,reduceIte,e1,e3];(try rfl);done))) (by simp only [List.map,lk,Nat.reduceEqDiff,reduceIte,e1,e3];try rfl) (fun bb hbb=>⟨by first | trivial | (simp only [Chks,wantedG,LOp.run,Env.put_some,Env.put_none,lk,sv1,sv2,sv3,Nat.reduceEqDiff,Nat.reduceAdd,Nat.reduceLeDiff,reduceIte,if_false,if_true,mkVal,unLV,List.map,optTmps,beq_self_eq_true,reduceCtorEq,false_or,true_and,and_true,Option.some.injEq, *];done),?_⟩)
    simp only [Env.put_some]
    cases bb<;>simp only [decide_eq_true_eq,decide_eq_false_iff_not] at hbb
    · repeat' (first | refine gA trivial ?_ | (refine gB trivial ?_;intro bb hbb;cases bb<;>(try simp only [hbs,if_false,reduceCtorEq] at hbb)) | apply qc_seq | fail)
      refine ⟨.inr trivial,?_⟩
      simp only [lk,sv1,sv2,sv3,Nat.reduceEqDiff,Nat.reduceAdd,Nat.reduceLeDiff,reduceIte,if_false,if_true,mkVal,unLV,List.map,optTmps]
      exact bool_f fun h=>hbb (h.2.2.2.1 i hil)
    · repeat' (first | refine gA trivial ?_ | (refine gB trivial ?_;intro bb hbb;cases bb<;>(try simp only [hbs,if_false,reduceCtorEq] at hbb)) | apply qc_seq | fail)
      refine ⟨_,by omega,i+1,rfl,by omega,fun j hj=>?_,?_⟩
      · rcases Nat.lt_succ_iff_lt_or_eq.1 hj with h | rfl
        · exact hall j h
        · exact hbb
      · simp only [lk,sv1,sv2,sv3,Nat.reduceEqDiff,Nat.reduceAdd,Nat.reduceLeDiff,reduceIte,if_false,if_true,mkVal,unLV,List.map,optTmps,hw,e1,e3,and_self]
  · repeat' (first | refine gA (And.intro @hS.sl.len @hL.sl.len) ?_ | (refine gB (And.intro @hS.sl.len @hL.sl.len) ?_;intro bb hbb;cases bb<;>(try simp only [hbs,if_false,reduceCtorEq] at hbb)) | apply qc_seq | fail)
    all_goals first
      | (exfalso;omega)
      | skip
    refine qc_loop (fun n e s=>∃ i:Nat,n=L.length - i∧i≤L.length∧(∀ j,j<i→0≤L.getD j 0∧L.getD j 0<64)∧e.at 1 = .pimm [st,lo] 0∧e.at 5 = .int .i64 (i:Int)) _ ⟨0,rfl,by omega,fun j hj=>absurd hj (Nat.not_lt_zero _),ef,ef⟩ ?_
    clear e1 e3 hbb
    clear e
    rintro n e s ⟨k,rfl,hk,hall2,e1,e5⟩
    by_cases hkl:k<L.length
    · have hiI:(k:Int)<(L.length:Int):=by omega
      have hw:=wrap_succ (i:=k) hiI hL.len
      repeat' (first | refine gA (And.intro @hL.sl.len (And.intro (@iaN _ _ _ hL.sl) @ints_get)) ?_ | (refine gB (And.intro @hL.sl.len (And.intro (@iaN _ _ _ hL.sl) @ints_get)) ?_;intro bb hbb;cases bb<;>(try simp only [hbs,if_false,reduceCtorEq] at hbb)) | apply qc_seq | fail)
      all_goals first
        | (exfalso;omega)
        | skip
      refine q_pureB hG0 (letter_ok (L.getD k 0)) (by first | exact wN | (apply wG;(simp only [lk,Nat.reduceEqDiff,reduceIte,e1,e5];(try rfl);done))) (by simp only [List.map,lk,Nat.reduceEqDiff,reduceIte,e1,e5];try rfl) (fun bb hbb=>⟨by first | trivial | (simp only [Chks,wantedG,LOp.run,Env.put_some,Env.put_none,lk,sv1,sv2,sv3,Nat.reduceEqDiff,Nat.reduceAdd,Nat.reduceLeDiff,reduceIte,if_false,if_true,mkVal,unLV,List.map,optTmps,beq_self_eq_true,reduceCtorEq,false_or,true_and,and_true,Option.some.injEq, *];done),?_⟩)
      simp only [Env.put_some]
      cases bb<;>simp only [decide_eq_true_eq,decide_eq_false_iff_not] at hbb
      · repeat' (first | refine gA trivial ?_ | (refine gB trivial ?_;intro bb hbb;cases bb<;>(try simp only [hbs,if_false,reduceCtorEq] at hbb)) | apply qc_seq | fail)
        refine ⟨.inr trivial,?_⟩
        simp only [lk,sv1,sv2,sv3,Nat.reduceEqDiff,Nat.reduceAdd,Nat.reduceLeDiff,reduceIte,if_false,if_true,mkVal,unLV,List.map,optTmps]
        exact bool_f fun h=>hbb (h.2.2.2.2 k hkl)
      · repeat' (first | refine gA trivial ?_ | (refine gB trivial ?_;intro bb hbb;cases bb<;>(try simp only [hbs,if_false,reduceCtorEq] at hbb)) | apply qc_seq | fail)
        refine ⟨_,by omega,k+1,rfl,by omega,fun j hj=>?_,?_⟩
        · rcases Nat.lt_succ_iff_lt_or_eq.1 hj with h | rfl
          · exact hall2 j h
          · exact hbb
        · simp only [lk,sv1,sv2,sv3,Nat.reduceEqDiff,Nat.reduceAdd,Nat.reduceLeDiff,reduceIte,if_false,if_true,mkVal,unLV,List.map,optTmps,hw,e1,e5,and_self]
    · repeat' (first | refine gA @hL.sl.len ?_ | (refine gB @hL.sl.len ?_;intro bb hbb;cases bb<;>(try simp only [hbs,if_false,reduceCtorEq] at hbb)) | apply qc_seq | fail)
      all_goals first
        | (exfalso;omega)
        | skip
      refine ⟨.inr trivial,?_⟩
      simp only [lk,sv1,sv2,sv3,Nat.reduceEqDiff,Nat.reduceAdd,Nat.reduceLeDiff,reduceIte,if_false,if_true,mkVal,unLV,List.map,optTmps]
      exact bool_t ⟨k1.1,k1.2.1,k1.2.2,fun j hj=>hall j (by omega),fun j hj=>hall2 j (by omega)⟩
theorem rwvalid_ok {st lo:LV} {S L:List Int} (hS:IsInts st S) (hL:IsInts lo L) (m:Int):PO 42 [.int .i64 m, .agg [st,lo]] (.bool (decide ((∀ j,j<S.length→S.getD j 0<m)∧(∀ j,j<L.length→L.getD j 0<m)∧Fm S L))):=by
  have hcl:(LV.agg [st,lo]).closed=true:=by simp [LV.closed,LV.closed.closedAll,hS.closed,hL.closed]
  have hc1:=hS.sl.cell
  have hc2:=hL.sl.cell
  refine q_fn (t:=4) hm Tryz.func42 (by decide +kernel) c42 (Nat.le_of_ble_eq_true rfl) (by simp [LV.closed.closedAll,hcl];rfl) rfl rfl ?_
  have h0:(envOf [.int .i64 m,LV.agg [st,lo]]).at 0 = .int .i64 m:=by rw [envOf_at];rfl
  have h1:(envOf [.int .i64 m,LV.agg [st,lo]]).at 1 = .agg [st,lo]:=by rw [envOf_at];rfl
  generalize envOf [.int .i64 m,LV.agg [st,lo]]=e at *
  unfold l42
  dsimp only [jA,qN,qF,qS,qI,qA,qB,qC,qK,qO,qG,qm,ql]
  repeat' (first | refine gA (And.intro @hS.sl.len @hL.sl.len) ?_ | (refine gB (And.intro @hS.sl.len @hL.sl.len) ?_;intro bb hbb;cases bb<;>(try simp only [hbs,if_false,reduceCtorEq] at hbb)) | apply qc_seq | fail)
  refine qc_loop (fun n e s=>∃ i:Nat,n=S.length - i∧i≤S.length∧(∀ j,j<i→S.getD j 0<m)∧e.at 0 = .int .i64 m∧e.at 3 = .pimm [st,lo] 0∧e.at 5 = .int .i64 (i:Int)) _ ⟨0,rfl,by omega,fun j hj=>absurd hj (Nat.not_lt_zero _),ef,ef,ef⟩ ?_
  clear h0 h1
  clear e
  rintro n e s ⟨i,rfl,hi,hall,e0,e3,e5⟩
  by_cases hil:i<S.length
  · have hiI:(i:Int)<(S.length:Int):=by omega
    have hw:=wrap_succ (i:=i) hiI hS.len
    repeat' (first | refine gA (And.intro @hS.sl.len (And.intro (@iaN _ _ _ hS.sl) @ints_get)) ?_ | (refine gB (And.intro @hS.sl.len (And.intro (@iaN _ _ _ hS.sl) @ints_get)) ?_;intro bb hbb;cases bb<;>(try simp only [hbs,if_false,reduceCtorEq] at hbb)) | apply qc_seq | fail)
    all_goals first
      | (exfalso;omega)
      | (refine ⟨.inr trivial,?_⟩;simp only [lk,sv1,sv2,sv3,Nat.reduceEqDiff,Nat.reduceAdd,Nat.reduceLeDiff,reduceIte,if_false,if_true,mkVal,unLV,List.map,optTmps];exact bool_f fun h=>by have:=h.1 i hil;omega)
      | (refine ⟨_,by omega,i+1,rfl,by omega,fun j hj=>?_,?_⟩
         · rcases Nat.lt_succ_iff_lt_or_eq.1 hj with h | rfl
           · exact hall j h
           · omega
         · simp only [lk,sv1,sv2,sv3,Nat.reduceEqDiff,Nat.reduceAdd,Nat.reduceLeDiff,reduceIte,if_false,if_true,mkVal,unLV,List.map,optTmps,hw,e0,e3,e5,and_self])
  · repeat' (first | refine gA (And.intro @hS.sl.len @hL.sl.len) ?_ | (refine gB (And.intro @hS.sl.len @hL.sl.len) ?_;intro bb hbb;cases bb<;>(try simp only [hbs,if_false,reduceCtorEq] at hbb)) | apply qc_seq | fail)
    all_goals first
      | (exfalso;omega)
      | skip
    refine qc_loop (fun n e s=>∃ i:Nat,n=L.length - i∧i≤L.length∧(∀ j,j<i→L.getD j 0<m)∧e.at 0 = .int .i64 m∧e.at 3 = .pimm [st,lo] 0∧e.at 6 = .int .i64 (i:Int)) _ ⟨0,rfl,by omega,fun j hj=>absurd hj (Nat.not_lt_zero _),ef,ef,ef⟩ ?_
    clear e0 e3 e5 hbb
    clear e
    rintro n e s ⟨k,rfl,hk,hall2,e0,e3,e6⟩
    by_cases hkl:k<L.length
    · have hiI:(k:Int)<(L.length:Int):=by omega
      have hw:=wrap_succ (i:=k) hiI hL.len
      repeat' (first | refine gA (And.intro @hL.sl.len (And.intro (@iaN _ _ _ hL.sl) @ints_get)) ?_ | (refine gB (And.intro @hL.sl.len (And.intro (@iaN _ _ _ hL.sl) @ints_get)) ?_;intro bb hbb;cases bb<;>(try simp only [hbs,if_false,reduceCtorEq] at hbb)) | apply qc_seq | fail)
      all_goals first
        | (exfalso;omega)
        | (refine ⟨.inr trivial,?_⟩;simp only [lk,sv1,sv2,sv3,Nat.reduceEqDiff,Nat.reduceAdd,Nat.reduceLeDiff,reduceIte,if_false,if_true,mkVal,unLV,List.map,optTmps];exact bool_f fun h=>by have:=h.2.1 k hkl;omega)
        | (refine ⟨_,by omega,k+1,rfl,by omega,fun j hj=>?_,?_⟩
           · rcases Nat.lt_succ_iff_lt_or_eq.1 hj with h | rfl
             · exact hall2 j h
             · omega
           · simp only [lk,sv1,sv2,sv3,Nat.reduceEqDiff,Nat.reduceAdd,Nat.reduceLeDiff,reduceIte,if_false,if_true,mkVal,unLV,List.map,optTmps,hw,e0,e3,e6,and_self])
    · repeat' (first | refine gA @hL.sl.len ?_ | (refine gB @hL.sl.len ?_;intro bb hbb;cases bb<;>(try simp only [hbs,if_false,reduceCtorEq] at hbb)) | apply qc_seq | fail)
      all_goals first
        | (exfalso;omega)
        | skip
      refine q_pureB hG0 (rformed_ok hS hL) (by first | exact wN | (apply wG;(simp only [lk,Nat.reduceEqDiff,reduceIte,e0,e3,e6];(try rfl);done))) (by simp only [List.map,lk,Nat.reduceEqDiff,reduceIte,e0,e3,e6];try rfl) (fun bb hbb=>⟨by first | trivial | (simp only [Chks,wantedG,LOp.run,Env.put_some,Env.put_none,lk,sv1,sv2,sv3,Nat.reduceEqDiff,Nat.reduceAdd,Nat.reduceLeDiff,reduceIte,if_false,if_true,mkVal,unLV,List.map,optTmps,beq_self_eq_true,reduceCtorEq,false_or,true_and,and_true,Option.some.injEq, *];done),?_⟩)
      simp only [Env.put_some]
      cases bb<;>simp only [decide_eq_true_eq,decide_eq_false_iff_not] at hbb
      · repeat' (first | refine gA trivial ?_ | (refine gB trivial ?_;intro bb hbb;cases bb<;>(try simp only [hbs,if_false,reduceCtorEq] at hbb)) | apply qc_seq | fail)
        refine ⟨.inr trivial,?_⟩
        simp only [lk,sv1,sv2,sv3,Nat.reduceEqDiff,Nat.reduceAdd,Nat.reduceLeDiff,reduceIte,if_false,if_true,mkVal,unLV,List.map,optTmps]
        exact bool_f fun h=>hbb h.2.2
      · repeat' (first | refine gA trivial ?_ | (refine gB trivial ?_;intro bb hbb;cases bb<;>(try simp only [hbs,if_false,reduceCtorEq] at hbb)) | apply qc_seq | fail)
        refine ⟨.inr trivial,?_⟩
        simp only [lk,sv1,sv2,sv3,Nat.reduceEqDiff,Nat.reduceAdd,Nat.reduceLeDiff,reduceIte,if_false,if_true,mkVal,unLV,List.map,optTmps]
        exact bool_t ⟨fun j hj=>hall j (by omega),fun j hj=>hall2 j (by omega),hbb⟩
end Go.Proofs.YthcllhhldknkmaaGreatDoor
