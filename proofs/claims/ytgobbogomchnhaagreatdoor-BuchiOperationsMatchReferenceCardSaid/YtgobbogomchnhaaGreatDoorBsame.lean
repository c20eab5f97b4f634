/- The document's comparisons: rows of numbers, moves, automata. -/
import Derived.Test.YtgobbogomchnhaaGreatDoorValid
import Derived.Test.YtgobbogomchnhaaGreatDoorPvRow
set_option linter.unusedSimpArgs false
set_option linter.unusedVariables false
section
set_option linter.unusedSimpArgs false
set_option linter.unusedVariables false
namespace Go.Proofs.YtgobbogomchnhaaGreatDoor
open Go Go.Pv
open Classical
theorem ext_getD {α:Type} {a b:List α} {d:α} (hl:a.length=b.length) (h:∀ k,k<a.length→a.getD k d=b.getD k d):a=b:=by
 apply List.ext_getElem hl
 intro k h1 h2
 have:=h k h1
 rwa [List.getD_eq_getElem?_getD,List.getD_eq_getElem?_getD,List.getElem?_eq_getElem h1,List.getElem?_eq_getElem h2] at this
set_option maxHeartbeats 4000000 in
theorem ints_eq {va vb:LV} {a b:List Int} (ha:IsInts va a) (hb:IsInts vb b):PO 26 [va,vb] (.bool (decide (a=b))):=by
 have hla:=ha.sl.len
 have hlb:=hb.sl.len
 refine q_fn (t:=4) hm Tryz.func26 (by decide +kernel) c26 (Nat.le_of_ble_eq_true rfl) (by simp [LV.closed.closedAll,ha.closed,hb.closed]) rfl rfl ?_
 have e0:(envOf [va,vb]).at 0=va:=by rw [envOf_at];rfl
 have e1:(envOf [va,vb]).at 1=vb:=by rw [envOf_at];rfl
 generalize envOf [va,vb]=e at *
 unfold l26
 dsimp only [jA,jB,qM,qL,qS,qI,qA,qB,qC,qK,qm]
 repeat' (first | refine gA (And.intro @hla @hlb) ?_ | (refine gB (And.intro @hla @hlb) ?_;intro bb hbb;cases bb<;>(try simp only [hbs,if_false,reduceCtorEq] at hbb)) | apply qc_seq | fail)
 rotate_left
 ·refine ⟨.inr trivial,?_⟩
  simp only [lk,sv1,sv2,sv3,Nat.reduceEqDiff,Nat.reduceAdd,Nat.reduceLeDiff,reduceIte,if_false,if_true,mkVal,unLV,List.map,optTmps]
  exact bool_f fun h=>by rw [h] at hbb;exact hbb rfl
 have hab:a.length=b.length:=by omega
 refine qc_loop (fun m e s=>∃ i:Nat,m=a.length - i∧i≤a.length∧(∀ k,k<i→a.getD k 0=b.getD k 0)∧e.at 0=va∧e.at 1=vb∧e.at 5 = .int .i64 (i:Int)) _
  ⟨0,rfl,by omega,fun k hk=>absurd hk (Nat.not_lt_zero _),ef,ef,by simp only [lk,sv1,sv2,sv3,Nat.reduceEqDiff,Nat.reduceAdd,Nat.reduceLeDiff,reduceIte,if_false,if_true,mkVal,unLV,List.map,optTmps];rfl⟩ ?_
 clear e0 e1 hbb
 rintro m e s ⟨i,rfl,hi,heq,e0,e1,e5⟩
 by_cases hil:i<a.length
 ·have hia:(i:Int)<(a.length:Int):=by omega
  have hib:(i:Int)<(b.length:Int):=by omega
  have hw:=wrap_succ hia ha.len
  repeat' (first | refine gA (And.intro @hla (And.intro (@iaN _ _ _ ha.sl) (And.intro (@iaN _ _ _ hb.sl) @ints_get))) ?_ | (refine gB (And.intro @hla (And.intro (@iaN _ _ _ ha.sl) (And.intro (@iaN _ _ _ hb.sl) @ints_get))) ?_;intro bb hbb;cases bb<;>(try simp only [hbs,if_false,reduceCtorEq] at hbb)) | apply qc_seq | fail)
  ·exfalso;omega
  ·refine ⟨a.length - (i+1),by omega,i+1,rfl,by omega,fun k hk=>?_,?_⟩
   ·by_cases h:k<i
    ·exact heq k h
    ·obtain rfl:k=i:=by omega
     exact hbb
   ·simp only [lk,sv1,sv2,sv3,Nat.reduceEqDiff,Nat.reduceAdd,Nat.reduceLeDiff,reduceIte,if_false,if_true,mkVal,unLV,List.map,optTmps,hw,e0,e1,and_self]
  ·refine ⟨.inr trivial,?_⟩
   simp only [lk,sv1,sv2,sv3,Nat.reduceEqDiff,Nat.reduceAdd,Nat.reduceLeDiff,reduceIte,if_false,if_true,mkVal,unLV,List.map,optTmps]
   exact bool_f fun h=>by rw [h] at hbb;exact hbb rfl
 ·repeat' (first | refine gA @hla ?_ | (refine gB @hla ?_;intro bb hbb;cases bb<;>(try simp only [hbs,if_false,reduceCtorEq] at hbb)) | apply qc_seq | fail)
  ·refine ⟨.inr trivial,?_⟩
   simp only [lk,sv1,sv2,sv3,Nat.reduceEqDiff,Nat.reduceAdd,Nat.reduceLeDiff,reduceIte,if_false,if_true,mkVal,unLV,List.map,optTmps]
   exact bool_t (ext_getD hab fun k hk=>heq k (by omega))
  ·exfalso;omega
theorem beq_is (a b:Int × Bool):eqLV (.struct [(0,(1, .int)),(1,(1, .bool))]) (.agg [.int .i64 a.1, .bool a.2]) (.agg [.int .i64 b.1, .bool b.2])=some (decide (a=b)):=by
 obtain ⟨x,p⟩:=a
 obtain ⟨y,q⟩:=b
 by_cases h:x=y
 ·subst h
  cases p<;>cases q<;>simp [eqLV,eqLV.eqFields,scEq]
 ·have hx:(x == y)=false:=by simpa using h
  simp [eqLV,eqLV.eqFields,scEq,hx,h]
set_option maxHeartbeats 4000000 in
theorem moves_eq {va vb:LV} {a b:Moves} (ha:IsMoves va a) (hb:IsMoves vb b):PO 36 [va,vb] (.bool (decide (a=b))):=by
 have hla:=ha.sl.len
 have hlb:=hb.sl.len
 refine q_fn (t:=4) hm Tryz.func36 (by decide +kernel) c36 (Nat.le_of_ble_eq_true rfl) (by simp [LV.closed.closedAll,ha.closed,hb.closed]) rfl rfl ?_
 have e0:(envOf [va,vb]).at 0=va:=by rw [envOf_at];rfl
 have e1:(envOf [va,vb]).at 1=vb:=by rw [envOf_at];rfl
 generalize envOf [va,vb]=e at *
 unfold l36
 dsimp only [jA,jB,qM,qN,qS,qI,qA,qB,qC,qK,qm]
 repeat' (first | refine gA (And.intro @hla @hlb) ?_ | (refine gB (And.intro @hla @hlb) ?_;intro bb hbb;cases bb<;>(try simp only [hbs,if_false,reduceCtorEq] at hbb)) | apply qc_seq | fail)
 rotate_left
 ·refine ⟨.inr trivial,?_⟩
  simp only [lk,sv1,sv2,sv3,Nat.reduceEqDiff,Nat.reduceAdd,Nat.reduceLeDiff,reduceIte,if_false,if_true,mkVal,unLV,List.map,optTmps]
  exact bool_f fun h=>by rw [h] at hbb;exact hbb rfl
 have hab:a.length=b.length:=by omega
 refine qc_loop (fun m e s=>∃ i:Nat,m=a.length - i∧i≤a.length∧(∀ k,k<i→a.getD k (0,false)=b.getD k (0,false))∧e.at 0=va∧e.at 1=vb∧e.at 5 = .int .i64 (i:Int)) _
  ⟨0,rfl,by omega,fun k hk=>absurd hk (Nat.not_lt_zero _),ef,ef,by simp only [lk,sv1,sv2,sv3,Nat.reduceEqDiff,Nat.reduceAdd,Nat.reduceLeDiff,reduceIte,if_false,if_true,mkVal,unLV,List.map,optTmps];rfl⟩ ?_
 clear e0 e1 hbb
 rintro m e s ⟨i,rfl,hi,heq,e0,e1,e5⟩
 by_cases hil:i<a.length
 ·have hia:(i:Int)<(a.length:Int):=by omega
  have hib:(i:Int)<(b.length:Int):=by omega
  have hw:=wrap_succ hia ha.len
  have lda:=fun s=>loadN_moves (s:=s) hil
  have ldb:=fun s=>loadN_moves (s:=s) (ms:=b) (k:=i) (by omega)
  have hq:=beq_is (a.getD i (0,false)) (b.getD i (0,false))
  repeat' (first | refine gA (And.intro @hla (And.intro (@iaN _ _ _ ha.sl) (And.intro (@iaN _ _ _ hb.sl) (And.intro @lda (And.intro @ldb @hq))))) ?_ | (refine gB (And.intro @hla (And.intro (@iaN _ _ _ ha.sl) (And.intro (@iaN _ _ _ hb.sl) (And.intro @lda (And.intro @ldb @hq))))) ?_;intro bb hbb;cases bb<;>(try simp only [hbs,if_false,reduceCtorEq] at hbb)) | apply qc_seq | fail)
  ·exfalso;omega
  ·refine ⟨a.length - (i+1),by omega,i+1,rfl,by omega,fun k hk=>?_,?_⟩
   ·by_cases h:k<i
    ·exact heq k h
    ·obtain rfl:k=i:=by omega
     simpa using hbb
   ·simp only [lk,sv1,sv2,sv3,Nat.reduceEqDiff,Nat.reduceAdd,Nat.reduceLeDiff,reduceIte,if_false,if_true,mkVal,unLV,List.map,optTmps,hw,e0,e1,and_self]
  ·refine ⟨.inr trivial,?_⟩
   simp only [lk,sv1,sv2,sv3,Nat.reduceEqDiff,Nat.reduceAdd,Nat.reduceLeDiff,reduceIte,if_false,if_true,mkVal,unLV,List.map,optTmps]
   exact bool_f fun h=>by rw [h] at hbb;simp at hbb
 ·repeat' (first | refine gA @hla ?_ | (refine gB @hla ?_;intro bb hbb;cases bb<;>(try simp only [hbs,if_false,reduceCtorEq] at hbb)) | apply qc_seq | fail)
  ·refine ⟨.inr trivial,?_⟩
   simp only [lk,sv1,sv2,sv3,Nat.reduceEqDiff,Nat.reduceAdd,Nat.reduceLeDiff,reduceIte,if_false,if_true,mkVal,unLV,List.map,optTmps]
   exact bool_t (ext_getD hab fun k hk=>heq k (by omega))
  ·exfalso;omega
theorem Bu.ext {A B:Bu} (h1:A.L=B.L) (h2:A.start=B.start) (h3:A.next=B.next):A=B:=by
 obtain ⟨a,b,c⟩:=A
 obtain ⟨d,e,f⟩:=B
 simp only at h1 h2 h3
 rw [h1,h2,h3]
set_option maxHeartbeats 8000000 in
theorem same_ok {va vb:LV} {A B:Bu} {sa na sb nb:LV} (hA:IsB va A sa na) (hB:IsB vb B sb nb):PO 11 [va,vb] (.bool (decide (A=B))):=by
 have hca:=hA.closed
 have hcb:=hB.closed
 obtain ⟨rfl,hsa,va,hna⟩:=hA
 obtain ⟨rfl,hsb,vb,hnb⟩:=hB
 have hint:=ints_eq hsa hsb
 have hla:=hna.sl.len
 have hlb:=hnb.sl.len
 have ca1:=hsa.sl.cell
 have ca2:=hna.sl.cell
 have cb1:=hsb.sl.cell
 have cb2:=hnb.sl.cell
 refine q_fn (t:=4) hm Tryz.func11 (by decide +kernel) c11 (Nat.le_of_ble_eq_true rfl) (by simp [LV.closed.closedAll,hca,hcb]) rfl rfl ?_
 have e0:(envOf [LV.agg [.int .i64 A.L,sa,na], .agg [.int .i64 B.L,sb,nb]]).at 0 = .agg [.int .i64 A.L,sa,na]:=by rw [envOf_at];rfl
 have e1:(envOf [LV.agg [.int .i64 A.L,sa,na], .agg [.int .i64 B.L,sb,nb]]).at 1 = .agg [.int .i64 B.L,sb,nb]:=by rw [envOf_at];rfl
 generalize envOf [LV.agg [.int .i64 A.L,sa,na], .agg [.int .i64 B.L,sb,nb]]=e at *
 unfold l11
 dsimp only [jA,jB,jC,qM,qL,qF,qS,qI,qA,qB,qC,qK,qO,qP,qm,ql]
 repeat' (first | refine gA (And.intro @hla @hlb) ?_ | (refine gB (And.intro @hla @hlb) ?_;intro bb hbb;cases bb<;>(try simp only [hbs,if_false,reduceCtorEq] at hbb)) | apply qc_seq | fail)
 rotate_left
 ·refine ⟨.inr trivial,?_⟩
  simp only [lk,sv1,sv2,sv3,Nat.reduceEqDiff,Nat.reduceAdd,Nat.reduceLeDiff,reduceIte,if_false,if_true,mkVal,unLV,List.map,optTmps]
  exact bool_f fun h=>by rw [h] at hbb;exact hbb rfl
 have hL:A.L=B.L:=hbb
 clear hbb
 refine q_pureB hG0 (hint) (by first | exact wN | (apply wG;(simp only [lk,Nat.reduceEqDiff,reduceIte,e0,e1];(try rfl);done))) (by simp only [List.map,lk,Nat.reduceEqDiff,reduceIte,e0,e1];try rfl) (fun bb hbb=>⟨by first | trivial | (simp only [Chks,wantedG,LOp.run,Env.put_some,Env.put_none,lk,sv1,sv2,sv3,Nat.reduceEqDiff,Nat.reduceAdd,Nat.reduceLeDiff,reduceIte,if_false,if_true,mkVal,unLV,List.map,optTmps,beq_self_eq_true,reduceCtorEq,false_or,true_and,and_true,Option.some.injEq, *];done),?_⟩)
 simp only [Env.put_some]
 cases bb<;>simp only [decide_eq_true_eq,decide_eq_false_iff_not] at hbb
 ·repeat' (first | refine gA trivial ?_ | (refine gB trivial ?_;intro bb hbb;cases bb<;>(try simp only [hbs,if_false,reduceCtorEq] at hbb)) | apply qc_seq | fail)
  refine ⟨.inr trivial,?_⟩
  simp only [lk,sv1,sv2,sv3,Nat.reduceEqDiff,Nat.reduceAdd,Nat.reduceLeDiff,reduceIte,if_false,if_true,mkVal,unLV,List.map,optTmps]
  exact bool_f fun h=>hbb (by rw [h])
 have hS:A.start=B.start:=hbb
 repeat' (first | refine gA (And.intro @hla @hlb) ?_ | (refine gB (And.intro @hla @hlb) ?_;intro bb hbb;cases bb<;>(try simp only [hbs,if_false,reduceCtorEq] at hbb)) | apply qc_seq | fail)
 rotate_left
 ·refine ⟨.inr trivial,?_⟩
  simp only [lk,sv1,sv2,sv3,Nat.reduceEqDiff,Nat.reduceAdd,Nat.reduceLeDiff,reduceIte,if_false,if_true,mkVal,unLV,List.map,optTmps]
  exact bool_f fun h=>by rw [h] at hbb;exact hbb rfl
 have hab:A.next.length=B.next.length:=by omega
 clear hbb
 refine qc_loop (fun m e s=>∃ i:Nat,m=A.next.length - i∧i≤A.next.length∧(∀ k,k<i→A.next.getD k []=B.next.getD k [])∧e.at 2 = .pimm [.int .i64 A.L,sa,na] 0∧e.at 3 = .pimm [.int .i64 B.L,sb,nb] 0∧e.at 5 = .int .i64 (i:Int)) _
  ⟨0,rfl,by omega,fun k hk=>absurd hk (Nat.not_lt_zero _),ef,ef,by simp only [lk,sv1,sv2,sv3,Nat.reduceEqDiff,Nat.reduceAdd,Nat.reduceLeDiff,reduceIte,if_false,if_true,mkVal,unLV,List.map,optTmps];rfl⟩ ?_
 clear e0 e1 hint
 clear e
 rintro m e s ⟨i,rfl,hi,heq,e2,e3,e5⟩
 by_cases hil:i<A.next.length
 ·have hia:(i:Int)<(A.next.length:Int):=by omega
  have hib:(i:Int)<(B.next.length:Int):=by omega
  have hw:=wrap_succ hia hna.len
  have ga:va[i]? = some (va.getD i .top):=hna.get (by omega)
  have gb:vb[i]? = some (vb.getD i .top):=hnb.get (by omega)
  obtain ⟨ra,hra⟩:=hna.row i (by omega)
  obtain ⟨rb,hrb⟩:=hnb.row i (by omega)
  have hral:=hra.sl.len
  have hrbl:=hrb.sl.len
  have hdone:A.next.getD i []=B.next.getD i []→∀ e:Env,e.at 2 = .pimm [.int .i64 A.L,sa,na] 0→e.at 3 = .pimm [.int .i64 B.L,sb,nb] 0→e.at 5 = .int .i64 ((i+1:Nat):Int) →
    ∃ m,m<A.next.length - i∧∃ i:Nat,m=A.next.length - i∧i≤A.next.length∧(∀ k,k<i→A.next.getD k []=B.next.getD k [])∧e.at 2 = .pimm [.int .i64 A.L,sa,na] 0∧e.at 3 = .pimm [.int .i64 B.L,sb,nb] 0∧e.at 5 = .int .i64 (i:Int):=fun hr e h1 h2 h3=>⟨A.next.length - (i+1),by omega,i+1,rfl,by omega,fun k hk=>by
     by_cases h:k<i
     ·exact heq k h
     ·obtain rfl:k=i:=by omega
      exact hr,h1,h2,h3⟩
  have hbad:A.next.getD i []≠B.next.getD i []→A≠B:=fun h h'=>h (by rw [h'])
  generalize A.next.getD i []=rwa at *
  generalize B.next.getD i []=rwb at *
  generalize va.getD i .top=rva at *
  generalize vb.getD i .top=rvb at *
  repeat' (first | refine gA (And.intro @hla (And.intro (@iaN _ _ _ hna.sl) (And.intro (@iaN _ _ _ hnb.sl) (And.intro @ga (And.intro @gb (And.intro @hral @hrbl)))))) ?_ | (refine gB (And.intro @hla (And.intro (@iaN _ _ _ hna.sl) (And.intro (@iaN _ _ _ hnb.sl) (And.intro @ga (And.intro @gb (And.intro @hral @hrbl)))))) ?_;intro bb hbb;cases bb<;>(try simp only [hbs,if_false,reduceCtorEq] at hbb)) | apply qc_seq | fail)
  ·exfalso;omega
  rotate_left
  ·refine ⟨.inr trivial,?_⟩
   simp only [lk,sv1,sv2,sv3,Nat.reduceEqDiff,Nat.reduceAdd,Nat.reduceLeDiff,reduceIte,if_false,if_true,mkVal,unLV,List.map,optTmps]
   exact bool_f (hbad fun h=>by rw [h] at hbb;exact hbb rfl)
  have hrr:rwa.length=rwb.length:=by omega
  clear hbb heq
  refine qc_loop (fun m e s=>∃ a:Nat,m=rwa.length - a∧a≤rwa.length∧(∀ k,k<a→rwa.getD k []=rwb.getD k [])∧e.at 2 = .pimm [.int .i64 A.L,sa,na] 0∧e.at 3 = .pimm [.int .i64 B.L,sb,nb] 0∧e.at 5 = .int .i64 (i:Int)∧e.at 6 = .int .i64 (a:Int)) _
   ⟨0,rfl,by omega,fun k hk=>absurd hk (Nat.not_lt_zero _),ef,ef,ef,by simp only [lk,sv1,sv2,sv3,Nat.reduceEqDiff,Nat.reduceAdd,Nat.reduceLeDiff,reduceIte,if_false,if_true,mkVal,unLV,List.map,optTmps];rfl⟩ ?_
  clear e2 e3 e5
  clear e
  rintro m e s ⟨a,rfl,ha,heq,e2,e3,e5,e6⟩
  by_cases hal:a<rwa.length
  ·have haa:(a:Int)<(rwa.length:Int):=by omega
   have hab2:(a:Int)<(rwb.length:Int):=by omega
   have hwa:=wrap_succ haa hra.len
   have ga2:ra[a]? = some (ra.getD a .top):=hra.get (by omega)
   have gb2:rb[a]? = some (rb.getD a .top):=hrb.get (by omega)
   have hmm:=moves_eq (hra.row a (by omega)) (hrb.row a (by omega))
   repeat' (first | refine gA (And.intro @hla (And.intro (@iaN _ _ _ hna.sl) (And.intro (@iaN _ _ _ hnb.sl) (And.intro @ga (And.intro @gb (And.intro @hral (And.intro @hrbl (And.intro (@iaN _ _ _ hra.sl) (And.intro (@iaN _ _ _ hrb.sl) (And.intro @ga2 @gb2)))))))))) ?_ | (refine gB (And.intro @hla (And.intro (@iaN _ _ _ hna.sl) (And.intro (@iaN _ _ _ hnb.sl) (And.intro @ga (And.intro @gb (And.intro @hral (And.intro @hrbl (And.intro (@iaN _ _ _ hra.sl) (And.intro (@iaN _ _ _ hrb.sl) (And.intro @ga2 @gb2)))))))))) ?_;intro bb hbb;cases bb<;>(try simp only [hbs,if_false,reduceCtorEq] at hbb)) | apply qc_seq | fail)
   ·exfalso;omega
   refine q_pureB hG0 (hmm) (by first | exact wN | (apply wG;(simp only [lk,Nat.reduceEqDiff,reduceIte,e2,e3,e5,e6];(try rfl);done))) (by simp only [List.map,lk,Nat.reduceEqDiff,reduceIte,e2,e3,e5,e6];try rfl) (fun bb hbb=>⟨by first | trivial | (simp only [Chks,wantedG,LOp.run,Env.put_some,Env.put_none,lk,sv1,sv2,sv3,Nat.reduceEqDiff,Nat.reduceAdd,Nat.reduceLeDiff,reduceIte,if_false,if_true,mkVal,unLV,List.map,optTmps,beq_self_eq_true,reduceCtorEq,false_or,true_and,and_true,Option.some.injEq, *];done),?_⟩)
   simp only [Env.put_some]
   cases bb<;>simp only [decide_eq_true_eq,decide_eq_false_iff_not] at hbb
   ·repeat' (first | refine gA trivial ?_ | (refine gB trivial ?_;intro bb hbb;cases bb<;>(try simp only [hbs,if_false,reduceCtorEq] at hbb)) | apply qc_seq | fail)
    refine ⟨.inr trivial,?_⟩
    simp only [lk,sv1,sv2,sv3,Nat.reduceEqDiff,Nat.reduceAdd,Nat.reduceLeDiff,reduceIte,if_false,if_true,mkVal,unLV,List.map,optTmps]
    exact bool_f (hbad fun h=>hbb (by rw [h]))
   ·repeat' (first | refine gA trivial ?_ | (refine gB trivial ?_;intro bb hbb;cases bb<;>(try simp only [hbs,if_false,reduceCtorEq] at hbb)) | apply qc_seq | fail)
    refine ⟨rwa.length - (a+1),by omega,a+1,rfl,by omega,fun k hk=>?_,?_⟩
    ·by_cases h:k<a
     ·exact heq k h
     ·obtain rfl:k=a:=by omega
      exact hbb
    ·simp only [lk,sv1,sv2,sv3,Nat.reduceEqDiff,Nat.reduceAdd,Nat.reduceLeDiff,reduceIte,if_false,if_true,mkVal,unLV,List.map,optTmps,hwa,e2,e3,e5,and_self]
  ·have hrow:rwa=rwb:=ext_getD hrr fun k hk=>heq k (by omega)
   repeat' (first | refine gA (And.intro @hla (And.intro (@iaN _ _ _ hna.sl) (And.intro @ga @hral))) ?_ | (refine gB (And.intro @hla (And.intro (@iaN _ _ _ hna.sl) (And.intro @ga @hral))) ?_;intro bb hbb;cases bb<;>(try simp only [hbs,if_false,reduceCtorEq] at hbb)) | apply qc_seq | fail)
   ·exact hdone hrow _ ef ef ef
   ·exfalso;omega
 ·repeat' (first | refine gA @hla ?_ | (refine gB @hla ?_;intro bb hbb;cases bb<;>(try simp only [hbs,if_false,reduceCtorEq] at hbb)) | apply qc_seq | fail)
  ·refine ⟨.inr trivial,?_⟩
   simp only [lk,sv1,sv2,sv3,Nat.reduceEqDiff,Nat.reduceAdd,Nat.reduceLeDiff,reduceIte,if_false,if_true,mkVal,unLV,List.map,optTmps]
   exact bool_t (Bu.ext hL hS (ext_getD hab fun k hk=>heq k (by omega)))
  ·exfalso;omega
end Go.Proofs.YtgobbogomchnhaaGreatDoor
end
section
set_option linter.unusedSimpArgs false
set_option linter.unusedVariables false
set_option maxRecDepth 100000
namespace Go.Proofs.YtgobbogomchnhaaGreatDoor
open Go Go.Pv
open Classical
theorem rowB:rowTy Tryz.prog 9 25=some [.int .i64, .sl [.int .i64], .sl [.sl [.sl [.int .i64, .bool]]]]:=by kernel_rfl
theorem argB {v:LV} (h:HasArg Tryz.prog 9 25 v):∃ B sv nv,IsB v B sv nv∧inI64 B.L:=by
 obtain ⟨row,lvs,h1,h2,h3⟩:=h
 rw [rowB] at h1
 cases h1
 rw [Tryz.underlying25] at h3
 cases h2 with | cons a h2=>cases h2 with | cons b h2=>cases h2 with | cons c h2=>
 cases h2
 obtain ⟨L,rfl,hL⟩:=hasC_int a
 obtain ⟨st,hst⟩:=hasC_ints b
 obtain ⟨nx,hnx⟩:=hasC_next c
 exact ⟨⟨L,st,nx⟩,_,_,⟨h3,hst,hnx⟩,hL⟩
theorem rowZ:rowTy Tryz.prog 9 3=some [.int .i64]:=by kernel_rfl
theorem argZ {v:LV} (h:HasArg Tryz.prog 9 3 v):∃ z,v = .int .i64 z∧inI64 z:=by
 obtain ⟨row,lvs,h1,h2,h3⟩:=h
 rw [rowZ] at h1
 cases h1
 rw [Tryz.underlying3] at h3
 cases h2 with | cons a h2=>
 cases h2
 simp only [List.cons.injEq,and_true] at h3
 subst h3
 exact hasC_int a
end Go.Proofs.YtgobbogomchnhaaGreatDoor
end
