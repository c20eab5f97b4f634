/- The word package: letter, below, formed, Valid. -/
import Derived.Test.YtgobbogomchnhaaGreatDoorBase
import Derived.Test.YtgobbogomchnhaaGreatDoorLitw
set_option linter.unusedSimpArgs false
set_option linter.unusedVariables false
namespace Go.Proofs.YtgobbogomchnhaaGreatDoor
open Go Go.Pv
open Classical
def AllB (l:List Int) (m:Int):Prop:=∀ j,j<l.length→0≤l.getD j 0∧l.getD j 0<m
theorem letter_ok (n:Int):PO 122 [.int .i64 n] (.bool (decide (0≤n∧n<64))):=by
 refine q_fn (t:=2) hm Tryz.func122 (by decide +kernel) c122 (Nat.le_of_ble_eq_true rfl) rfl rfl rfl ?_
 have h0:(envOf [LV.int .i64 n]).at 0 = .int .i64 n:=by rw [envOf_at];rfl
 generalize envOf [LV.int .i64 n]=e at *
 unfold l122
 dsimp only [jA,jD,qM,qK,qm]
 repeat' (first | refine gA trivial ?_ | (refine gB trivial ?_;intro bb hbb;cases bb<;>(try simp only [hbs,if_false,reduceCtorEq] at hbb)) | apply qc_seq | fail)
 all_goals (refine ⟨.inr trivial,?_⟩;simp only [lk,sv1,sv2,sv3,Nat.reduceEqDiff,Nat.reduceAdd,Nat.reduceLeDiff,reduceIte,if_false,if_true,mkVal,unLV,List.map,optTmps];first | exact bool_t (by omega) | exact bool_f (by omega))
theorem below_ok {v:LV} {l:List Int} (hv:IsInts v l) (m:Int):PO 83 [v, .int .i64 m] (.bool (decide (AllB l m))):=by
  refine q_fn (t:=4) hm Tryz.func83 (by decide +kernel) c83 (Nat.le_of_ble_eq_true rfl) (by simp [LV.closed.closedAll,LV.closed,hv.closed]) rfl rfl ?_
  have h0:(envOf [v, .int .i64 m]).at 0=v:=by rw [envOf_at];rfl
  have h1:(envOf [v, .int .i64 m]).at 1 = .int .i64 m:=by rw [envOf_at];rfl
  generalize envOf [v, .int .i64 m]=e at *
  unfold l83
  dsimp only [jA,jC,qM,qS,qI,qA,qB,qC,qK,qP,qm,ql]
  repeat' (first | refine gA @hv.sl.len ?_ | (refine gB @hv.sl.len ?_;intro bb hbb;cases bb<;>(try simp only [hbs,if_false,reduceCtorEq] at hbb)) | apply qc_seq | fail)
  refine qc_loop (fun n e s=>∃ i:Nat,n=l.length - i∧i≤l.length∧(∀ j,j<i→0≤l.getD j 0∧l.getD j 0<m)∧e.at 1 = .int .i64 m∧e.at 7=v∧e.at 8 = .int .i64 (l.length:Int)∧e.at 9 = .int .i64 (i:Int)) _ ⟨0,rfl,by omega,fun j hj=>absurd hj (Nat.not_lt_zero _),ef,ef,ef,ef⟩ ?_
  clear h0 h1
  clear e
  rintro n e s ⟨i,rfl,hi,hall,e1,e7,e8,e9⟩
  by_cases hil:i<l.length
  · have hiI:(i:Int)<(l.length:Int):=by omega
    have hw:=wrap_succ (i:=i) hiI hv.len
    repeat' (first | refine gA (And.intro (@iaN _ _ _ hv.sl) @ints_get) ?_ | (refine gB (And.intro (@iaN _ _ _ hv.sl) @ints_get) ?_;intro bb hbb;cases bb<;>(try simp only [hbs,if_false,reduceCtorEq] at hbb)) | apply qc_seq | fail)
    all_goals first
      | (exfalso;omega)
      | (refine ⟨.inr trivial,?_⟩;simp only [lk,sv1,sv2,sv3,Nat.reduceEqDiff,Nat.reduceAdd,Nat.reduceLeDiff,reduceIte,if_false,if_true,mkVal,unLV,List.map,optTmps];exact bool_f fun h=>by have:=h i hil;omega)
      | (refine ⟨_,by omega,i+1,rfl,by omega,fun j hj=>?_,?_⟩
         · rcases Nat.lt_succ_iff_lt_or_eq.1 hj with h | rfl
           · exact hall j h
           · omega
         · simp only [lk,sv1,sv2,sv3,Nat.reduceEqDiff,Nat.reduceAdd,Nat.reduceLeDiff,reduceIte,if_false,if_true,mkVal,unLV,List.map,optTmps,hw,e1,e7,e8,e9,and_self])
  · repeat' (first | refine gA @hv.sl.len ?_ | (refine gB @hv.sl.len ?_;intro bb hbb;cases bb<;>(try simp only [hbs,if_false,reduceCtorEq] at hbb)) | apply qc_seq | fail)
    all_goals first
      | (exfalso;omega)
      | (refine ⟨.inr trivial,?_⟩;simp only [lk,sv1,sv2,sv3,Nat.reduceEqDiff,Nat.reduceAdd,Nat.reduceLeDiff,reduceIte,if_false,if_true,mkVal,unLV,List.map,optTmps];exact bool_t fun j hj=>hall j (by omega))
def Fm (S L:List Int):Prop:=S.length≤60∧1≤L.length∧L.length≤40∧AllB S 64∧AllB L 64
theorem formed_ok {st lo:LV} {S L:List Int} (hS:IsInts st S) (hL:IsInts lo L):PO 82 [.agg [st,lo]] (.bool (decide (Fm S L))):=by
  have hcl:(LV.agg [st,lo]).closed=true:=by simp [LV.closed,LV.closed.closedAll,hS.closed,hL.closed]
  have hc1:=hS.sl.cell
  have hc2:=hL.sl.cell
  refine q_fn (t:=2) hm Tryz.func82 (by decide +kernel) c82 (Nat.le_of_ble_eq_true rfl) (by simp [LV.closed.closedAll,hcl]) rfl rfl ?_
  have h0:(envOf [LV.agg [st,lo]]).at 0 = .agg [st,lo]:=by rw [envOf_at];rfl
  generalize envOf [LV.agg [st,lo]]=e at *
  unfold l82
  dsimp only [jA,jC,jD,qL,qF,qS,qK,qO,qP,qm,ql]
  repeat' (first | refine gA (And.intro @hS.sl.len @hL.sl.len) ?_ | (refine gB (And.intro @hS.sl.len @hL.sl.len) ?_;intro bb hbb;cases bb<;>(try simp only [hbs,if_false,reduceCtorEq] at hbb)) | apply qc_seq | fail)
  all_goals first
    | (refine ⟨.inr trivial,?_⟩
       simp only [lk,sv1,sv2,sv3,Nat.reduceEqDiff,Nat.reduceAdd,Nat.reduceLeDiff,reduceIte,if_false,if_true,mkVal,unLV,List.map,optTmps]
       refine bool_f fun h=>?_
       obtain ⟨a,b,c,d,f⟩:=h
       omega)
    | skip
  refine q_pureB hG0 (below_ok hS 64) (by first | exact wN | (apply wG;(simp only [lk,Nat.reduceEqDiff,reduceIte,h0];(try rfl);done))) (by simp only [List.map,lk,Nat.reduceEqDiff,reduceIte,h0];try rfl) (fun bb hbb=>⟨by first | trivial | (simp only [Chks,wantedG,LOp.run,Env.put_some,Env.put_none,lk,sv1,sv2,sv3,Nat.reduceEqDiff,Nat.reduceAdd,Nat.reduceLeDiff,reduceIte,if_false,if_true,mkVal,unLV,List.map,optTmps,beq_self_eq_true,reduceCtorEq,false_or,true_and,and_true,Option.some.injEq, *];done),?_⟩)
  simp only [Env.put_some]
  cases bb<;>simp only [decide_eq_true_eq,decide_eq_false_iff_not] at hbb
  · repeat' (first | refine gA trivial ?_ | (refine gB trivial ?_;intro bb hbb;cases bb<;>(try simp only [hbs,if_false,reduceCtorEq] at hbb)) | apply qc_seq | fail)
    refine ⟨.inr trivial,?_⟩
    simp only [lk,sv1,sv2,sv3,Nat.reduceEqDiff,Nat.reduceAdd,Nat.reduceLeDiff,reduceIte,if_false,if_true,mkVal,unLV,List.map,optTmps]
    exact bool_f fun h=>hbb h.2.2.2.1
  · repeat' (first | refine gA trivial ?_ | (refine gB trivial ?_;intro bb hbb;cases bb<;>(try simp only [hbs,if_false,reduceCtorEq] at hbb)) | apply qc_seq | fail)
    refine q_pureB hG0 (below_ok hL 64) (by first | exact wN | (apply wG;(simp only [lk,Nat.reduceEqDiff,reduceIte,h0];(try rfl);done))) (by simp only [List.map,lk,Nat.reduceEqDiff,reduceIte,h0];try rfl) (fun bb hbb=>⟨by first | trivial | (simp only [Chks,wantedG,LOp.run,Env.put_some,Env.put_none,lk,sv1,sv2,sv3,Nat.reduceEqDiff,Nat.reduceAdd,Nat.reduceLeDiff,reduceIte,if_false,if_true,mkVal,unLV,List.map,optTmps,beq_self_eq_true,reduceCtorEq,false_or,true_and,and_true,Option.some.injEq, *];done),?_⟩)
    simp only [Env.put_some]
    cases bb<;>simp only [decide_eq_true_eq,decide_eq_false_iff_not] at hbb
    · repeat' (first | refine gA trivial ?_ | (refine gB trivial ?_;intro bb hbb;cases bb<;>(try simp only [hbs,if_false,reduceCtorEq] at hbb)) | apply qc_seq | fail)
      refine ⟨.inr trivial,?_⟩
      simp only [lk,sv1,sv2,sv3,Nat.reduceEqDiff,Nat.reduceAdd,Nat.reduceLeDiff,reduceIte,if_false,if_true,mkVal,unLV,List.map,optTmps]
      exact bool_f fun h=>hbb h.2.2.2.2
    · repeat' (first | refine gA trivial ?_ | (refine gB trivial ?_;intro bb hbb;cases bb<;>(try simp only [hbs,if_false,reduceCtorEq] at hbb)) | apply qc_seq | fail)
      refine ⟨.inr trivial,?_⟩
      simp only [lk,sv1,sv2,sv3,Nat.reduceEqDiff,Nat.reduceAdd,Nat.reduceLeDiff,reduceIte,if_false,if_true,mkVal,unLV,List.map,optTmps]
      exact bool_t ⟨by omega,by omega,by omega,by assumption,hbb⟩
theorem wvalid_ok {st lo:LV} {S L:List Int} (hS:IsInts st S) (hL:IsInts lo L) (m:Int):PO 46 [.int .i64 m, .agg [st,lo]] (.bool (decide (Fm S L∧AllB S m∧AllB L m))):=by
 have hcl:(LV.agg [st,lo]).closed=true:=by simp [LV.closed,LV.closed.closedAll,hS.closed,hL.closed]
 have hc1:=hS.sl.cell
 have hc2:=hL.sl.cell
 refine q_fn (t:=4) hm Tryz.func46 (by decide +kernel) c46 (Nat.le_of_ble_eq_true rfl) (by simp [LV.closed.closedAll,hcl];rfl) rfl rfl ?_
 have h0:(envOf [.int .i64 m,LV.agg [st,lo]]).at 0 = .int .i64 m:=by rw [envOf_at];rfl
 have h1:(envOf [.int .i64 m,LV.agg [st,lo]]).at 1 = .agg [st,lo]:=by rw [envOf_at];rfl
 generalize envOf [.int .i64 m,LV.agg [st,lo]]=e at *
 unfold l46
 dsimp only [jA,jD,qM,qL,qN,qF,qK,qO,qG,qm]
 repeat' (first | refine gA trivial ?_ | (refine gB trivial ?_;intro bb hbb;cases bb<;>(try simp only [hbs,if_false,reduceCtorEq] at hbb)) | apply qc_seq | fail)
 refine q_pureB hG0 (formed_ok hS hL) (by first | exact wN | (apply wG;(simp only [lk,Nat.reduceEqDiff,reduceIte,h0,h1];(try rfl);done))) (by simp only [List.map,lk,Nat.reduceEqDiff,reduceIte,h0,h1];try rfl) (fun bb hbb=>⟨by first | trivial | (simp only [Chks,wantedG,LOp.run,Env.put_some,Env.put_none,lk,sv1,sv2,sv3,Nat.reduceEqDiff,Nat.reduceAdd,Nat.reduceLeDiff,reduceIte,if_false,if_true,mkVal,unLV,List.map,optTmps,beq_self_eq_true,reduceCtorEq,false_or,true_and,and_true,Option.some.injEq, *];done),?_⟩)
 simp only [Env.put_some]
 cases bb<;>simp only [decide_eq_true_eq,decide_eq_false_iff_not] at hbb
 ·repeat' (first | refine gA trivial ?_ | (refine gB trivial ?_;intro bb hbb;cases bb<;>(try simp only [hbs,if_false,reduceCtorEq] at hbb)) | apply qc_seq | fail)
  refine ⟨.inr trivial,?_⟩
  simp only [lk,sv1,sv2,sv3,Nat.reduceEqDiff,Nat.reduceAdd,Nat.reduceLeDiff,reduceIte,if_false,if_true,mkVal,unLV,List.map,optTmps]
  exact bool_f fun h=>hbb h.1
 ·repeat' (first | refine gA trivial ?_ | (refine gB trivial ?_;intro bb hbb;cases bb<;>(try simp only [hbs,if_false,reduceCtorEq] at hbb)) | apply qc_seq | fail)
  refine q_pureB hG0 (below_ok hS m) (by first | exact wN | (apply wG;(simp only [lk,Nat.reduceEqDiff,reduceIte,h0,h1];(try rfl);done))) (by simp only [List.map,lk,Nat.reduceEqDiff,reduceIte,h0,h1];try rfl) (fun bb hbb=>⟨by first | trivial | (simp only [Chks,wantedG,LOp.run,Env.put_some,Env.put_none,lk,sv1,sv2,sv3,Nat.reduceEqDiff,Nat.reduceAdd,Nat.reduceLeDiff,reduceIte,if_false,if_true,mkVal,unLV,List.map,optTmps,beq_self_eq_true,reduceCtorEq,false_or,true_and,and_true,Option.some.injEq, *];done),?_⟩)
  simp only [Env.put_some]
  cases bb<;>simp only [decide_eq_true_eq,decide_eq_false_iff_not] at hbb
  ·repeat' (first | refine gA trivial ?_ | (refine gB trivial ?_;intro bb hbb;cases bb<;>(try simp only [hbs,if_false,reduceCtorEq] at hbb)) | apply qc_seq | fail)
   refine ⟨.inr trivial,?_⟩
   simp only [lk,sv1,sv2,sv3,Nat.reduceEqDiff,Nat.reduceAdd,Nat.reduceLeDiff,reduceIte,if_false,if_true,mkVal,unLV,List.map,optTmps]
   exact bool_f fun h=>hbb h.2.1
  ·repeat' (first | refine gA trivial ?_ | (refine gB trivial ?_;intro bb hbb;cases bb<;>(try simp only [hbs,if_false,reduceCtorEq] at hbb)) | apply qc_seq | fail)
   refine q_pureB hG0 (below_ok hL m) (by first | exact wN | (apply wG;(simp only [lk,Nat.reduceEqDiff,reduceIte,h0,h1];(try rfl);done))) (by simp only [List.map,lk,Nat.reduceEqDiff,reduceIte,h0,h1];try rfl) (fun bb hbb=>⟨by first | trivial | (simp only [Chks,wantedG,LOp.run,Env.put_some,Env.put_none,lk,sv1,sv2,sv3,Nat.reduceEqDiff,Nat.reduceAdd,Nat.reduceLeDiff,reduceIte,if_false,if_true,mkVal,unLV,List.map,optTmps,beq_self_eq_true,reduceCtorEq,false_or,true_and,and_true,Option.some.injEq, *];done),?_⟩)
   simp only [Env.put_some]
   cases bb<;>simp only [decide_eq_true_eq,decide_eq_false_iff_not] at hbb
   ·repeat' (first | refine gA trivial ?_ | (refine gB trivial ?_;intro bb hbb;cases bb<;>(try simp only [hbs,if_false,reduceCtorEq] at hbb)) | apply qc_seq | fail)
    refine ⟨.inr trivial,?_⟩
    simp only [lk,sv1,sv2,sv3,Nat.reduceEqDiff,Nat.reduceAdd,Nat.reduceLeDiff,reduceIte,if_false,if_true,mkVal,unLV,List.map,optTmps]
    exact bool_f fun h=>hbb h.2.2
   ·repeat' (first | refine gA trivial ?_ | (refine gB trivial ?_;intro bb hbb;cases bb<;>(try simp only [hbs,if_false,reduceCtorEq] at hbb)) | apply qc_seq | fail)
    refine ⟨.inr trivial,?_⟩
    simp only [lk,sv1,sv2,sv3,Nat.reduceEqDiff,Nat.reduceAdd,Nat.reduceLeDiff,reduceIte,if_false,if_true,mkVal,unLV,List.map,optTmps]
    exact bool_t ⟨by assumption,by assumption,hbb⟩
end Go.Proofs.YtgobbogomchnhaaGreatDoor
