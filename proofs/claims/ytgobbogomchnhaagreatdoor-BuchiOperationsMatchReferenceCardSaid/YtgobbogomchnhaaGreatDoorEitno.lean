/- buchi.Either, called. -/
import Derived.Test.YtgobbogomchnhaaGreatDoorAopl
import Derived.Test.YtgobbogomchnhaaGreatDoorValid
set_option linter.unusedSimpArgs false
set_option linter.unusedVariables false
section
set_option linter.unusedSimpArgs false
set_option linter.unusedVariables false
namespace Go.Proofs.YtgobbogomchnhaaGreatDoor
open Go Go.Pv
open Classical
set_option maxHeartbeats 8000000 in
theorem either_ok {vA vB:LV} {A B:Bu} {sa na sb nb:LV} (hA:IsB vA A sa na) (hB:IsB vB B sb nb) (okA:Vb A) (okB:Vb B) (hL:A.L=B.L) (hs:A.next.length+B.next.length≤3000) :
  PE 12 [vA,vB] (fun r=>∃ sv nv,IsB r (eiB A B) sv nv):=by
 have hcA:=hA.closed
 have hcB:=hB.closed
 have hbA:=bvalid_ok hA
 have hbB:=bvalid_ok hB
 rw [decide_eq_true okA] at hbA
 rw [decide_eq_true okB] at hbB
 have hpA:=fun (s:St) (h:EI s A.L .nils .nils [] [])=>put_ok h hA okA (m:=0) (by omega) (by simp) (by simp)
 have hpB:=fun (s:St) (stv nxv:LV) (h:EI s A.L stv nxv A.start A.next)=>put_ok h hB okB (m:=A.next.length) (by omega) (by have:=start_len okA;omega) (by omega)
 have hok:=vb_ei okA okB hL hs
 have e00:A.start=[]++shS 0 A.start∧A.next=[]++shN 0 A.next:=by
  constructor
  ·simp [shS]
  ·have h1:∀ ms:Moves,shM 0 ms=ms:=fun ms=>by simp [shM]
   have h2:shM 0=id:=funext h1
   simp [shN,h2]
 obtain ⟨rfl,hsa,va,hna⟩:=hA
 obtain ⟨rfl,hsb,vb,hnb⟩:=hB
 have ca1:=hsa.sl.cell
 have ca2:=hna.sl.cell
 have cb1:=hsb.sl.cell
 have cb2:=hnb.sl.cell
 have hla:=hna.sl.len
 have hlb:=hnb.sl.len
 have hw:IntKind.i64.wrap ((A.next.length:Int)+(B.next.length:Int))=(A.next.length:Int)+(B.next.length:Int):=wrap_i64 _ (by omega) (by omega)
 refine q_fnExR Tryz.func12 (by decide +kernel) c12 (Nat.le_of_ble_eq_true rfl) (by simp only [LV.closed.closedAll,hcA,hcB,Bool.and_self]) ?_
 have e0:(envOf [LV.agg [.int .i64 A.L,sa,na], .agg [.int .i64 B.L,sb,nb]]).at 0 = .agg [.int .i64 A.L,sa,na]:=by rw [envOf_at];rfl
 have e1:(envOf [LV.agg [.int .i64 A.L,sa,na], .agg [.int .i64 B.L,sb,nb]]).at 1 = .agg [.int .i64 B.L,sb,nb]:=by rw [envOf_at];rfl
 generalize envOf [LV.agg [.int .i64 A.L,sa,na], .agg [.int .i64 B.L,sb,nb]]=e at *
 rw [hL] at hpA hpB hbA hcA e0
 unfold l12
 dsimp only [jA,jC,jG,qM,qL,qN,qF,qS,qO,qP,qG,qm,ql]
 repeat' (first | refine gA (And.intro @hla @hlb) ?_ | (refine gB (And.intro @hla @hlb) ?_;intro bb hbb;cases bb<;>(try simp only [hbs,if_false,reduceCtorEq] at hbb)) | apply qc_seq | fail)
 refine q_pure hG0 (hbA) (by first | exact wN | (apply wG;(simp only [lk,Nat.reduceEqDiff,reduceIte,e0,e1];(try rfl);done))) (by simp only [List.map,lk,Nat.reduceEqDiff,reduceIte,e0,e1];try rfl) (by first | trivial | (simp only [Chks,wantedG,LOp.run,Env.put_some,Env.put_none,lk,sv1,sv2,sv3,Nat.reduceEqDiff,Nat.reduceAdd,Nat.reduceLeDiff,reduceIte,if_false,if_true,mkVal,unLV,List.map,optTmps,beq_self_eq_true,reduceCtorEq,false_or,true_and,and_true,Option.some.injEq, *];done)) ?_
 simp only [Env.put_some]
 repeat' (first | refine gA (And.intro @hla @hlb) ?_ | (refine gB (And.intro @hla @hlb) ?_;intro bb hbb;cases bb<;>(try simp only [hbs,if_false,reduceCtorEq] at hbb)) | apply qc_seq | fail)
 refine q_pure hG0 (hbB) (by first | exact wN | (apply wG;(simp only [lk,Nat.reduceEqDiff,reduceIte,e0,e1];(try rfl);done))) (by simp only [List.map,lk,Nat.reduceEqDiff,reduceIte,e0,e1];try rfl) (by first | trivial | (simp only [Chks,wantedG,LOp.run,Env.put_some,Env.put_none,lk,sv1,sv2,sv3,Nat.reduceEqDiff,Nat.reduceAdd,Nat.reduceLeDiff,reduceIte,if_false,if_true,mkVal,unLV,List.map,optTmps,beq_self_eq_true,reduceCtorEq,false_or,true_and,and_true,Option.some.injEq, *];done)) ?_
 simp only [Env.put_some]
 repeat' (first | refine gA (And.intro @hla (And.intro @hlb @hw)) ?_ | (refine gB (And.intro @hla (And.intro @hlb @hw)) ?_;intro bb hbb;cases bb<;>(try simp only [hbs,if_false,reduceCtorEq] at hbb)) | apply qc_seq | fail)
 any_goals (exfalso;omega)
 refine q_gen (v:=.agg [.int .i64 B.L, .nils, .nils]) (s':=St.empty.new (.cells .mut [.int .i64 0, .nils, .nils])) wN (by simp only [LOp.run,lk,sv1,sv2,sv3,Nat.reduceEqDiff,Nat.reduceAdd,Nat.reduceLeDiff,reduceIte,if_false,if_true,mkVal,unLV,List.map,optTmps,evParts,fillParts];rfl) rfl trivial ?_
 simp only [Env.put_some]
 repeat' (first | refine gA (And.intro @hla @hlb) ?_ | (refine gB (And.intro @hla @hlb) ?_;intro bb hbb;cases bb<;>(try simp only [hbs,if_false,reduceCtorEq] at hbb)) | apply qc_seq | fail)
 have hE0:EI (((St.empty.new (.cells .mut [.int .i64 0, .nils, .nils])).new (.cells .mut [.int .i64 0, .nils, .nils])).put 1 (.cells .mut [.int .i64 B.L, .nils, .nils])) B.L .nils .nils [] []:=by
  refine ⟨by simp [n_empty],by simp [St.get_put,St.get_new,n_empty],by simp [St.get_put,St.get_new,n_empty],SkC.nil _ _,⟨[],rfl,SkC.nil _ _,fun i hi=>absurd hi (Nat.not_lt_zero _)⟩,fun id hu=>by rcases hu with hu | hu<;>exact absurd hu (uses_nils id),fun id hu=>absurd hu (uses_nils id)⟩
 refine q_call wN (fv:=.fn (.func 37) [] [.pref 1 0]) (vs:=[.agg [.int .i64 B.L,sa,na], .int .i64 ((0:Nat):Int)]) (by simp only [lk,sv1,sv2,sv3,Nat.reduceEqDiff,Nat.reduceAdd,Nat.reduceLeDiff,reduceIte,if_false,if_true,mkVal,unLV,List.map,optTmps,List.map,n_empty]) (by simp only [List.map,lk,sv1,sv2,sv3,Nat.reduceEqDiff,Nat.reduceAdd,Nat.reduceLeDiff,reduceIte,if_false,if_true,mkVal,unLV,List.map,optTmps];rfl) (CallOk.mono (hpA _ hE0) fun r s1 hh=>⟨trivial,?_⟩)
 obtain ⟨stv,nxv,hE1⟩:=hh
 rw [← e00.1,← e00.2] at hE1
 simp only [Env.put_some]
 clear hE0 hpA hbA hbB
 repeat' (first | refine gA (And.intro @hla @hlb) ?_ | (refine gB (And.intro @hla @hlb) ?_;intro bb hbb;cases bb<;>(try simp only [hbs,if_false,reduceCtorEq] at hbb)) | apply qc_seq | fail)
 refine q_call wN (fv:=.fn (.func 37) [] [.pref 1 0]) (vs:=[.agg [.int .i64 B.L,sb,nb], .int .i64 (A.next.length:Int)]) (by simp only [lk,sv1,sv2,sv3,Nat.reduceEqDiff,Nat.reduceAdd,Nat.reduceLeDiff,reduceIte,if_false,if_true,mkVal,unLV,List.map,optTmps,List.map,n_empty]) (by simp only [List.map,lk,sv1,sv2,sv3,Nat.reduceEqDiff,Nat.reduceAdd,Nat.reduceLeDiff,reduceIte,if_false,if_true,mkVal,unLV,List.map,optTmps]) (CallOk.mono (hpB _ _ _ hE1) fun r s2 hh=>⟨trivial,?_⟩)
 obtain ⟨stv2,nxv2,hE2⟩:=hh
 simp only [Env.put_some]
 clear hE1 hpB
 have g0:=hE2.g0
 have g1:=hE2.g1
 have hcs:isCell stv2=true:=skc_cell hE2.ss
 have hcn:isCell nxv2=true:=by
  obtain ⟨rvs,_,h3,_⟩:=hE2.rows
  exact skc_cell h3
 have n2:=hE2.n2
 have hfin:∀ S:St,(∀ id,id≠0→S.get id=s2.get id)→S.n=s2.n→∃ r s',frz frzDepth (.agg [.int .i64 B.L,stv2,nxv2]) S=some (r,s')∧r.closed=true∧∃ sv nv,IsB r (eiB A B) sv nv:=fun S hS hn=>by
  obtain ⟨rvs,h1,h2,h3⟩:=hE2.rows
  have hmx:maxLen=9223372036854775807:=by decide
  have hsl:=start_len hok
  have hn3:=hok.2.2.1
  have f1:FZ (uses stv2) (fun v'=>IsInts v' (eiB A B).start) 39 stv2 s2:=(fz_skc 37 hE2.ss (ints_cl' _)).mono fun v hv=>⟨hv,by
   have:(A.start++shS A.next.length B.start).length=(eiB A B).start.length:=rfl
   omega,fun x hx=>by
   have:=start_nat hok hx
   unfold inI64
   omega⟩
  have f2:FZ (uses nxv2) (fun v'=>IsNext v' (eiB A B).next) 39 nxv2 s2:=(fz_skc 37 h2 (closedAll_of fun i hi=>(h3 i (by omega)).closed)).mono fun v hv=>⟨rvs,hv,h1,by
   have:(A.next++shN A.next.length B.next).length=(eiB A B).next.length:=rfl
   omega,h3⟩
  have hlo:=hE2.lo
  obtain ⟨r,s',sv',nv',a1,a2⟩:=frz_aut (f1.stable (s':=S) fun id hid=>hS id (by have:=hlo id (.inl hid);omega)) (f2.stable (s':=S) fun id hid=>hS id (by have:=hlo id (.inr hid);omega)) hE2.dj
  rw [show (eiB A B).L=B.L from hL] at a1
  exact ⟨r,s',a1,a2.closed,sv',nv',a2⟩
 clear hE2
 repeat' (first | refine gA (And.intro @hla @hlb) ?_ | (refine gB (And.intro @hla @hlb) ?_;intro bb hbb;cases bb<;>(try simp only [hbs,if_false,reduceCtorEq] at hbb)) | apply qc_seq | fail)
 refine ⟨.inr trivial, .agg [.int .i64 B.L,stv2,nxv2],by simp [resVal,resOne,mkVal,lk,St.get_put],hfin _ (fun id hid=>by rw [St.get_put,if_neg hid]) rfl⟩
end Go.Proofs.YtgobbogomchnhaaGreatDoor
end
section
set_option linter.unusedSimpArgs false
set_option linter.unusedVariables false
namespace Go.Proofs.YtgobbogomchnhaaGreatDoor
open Go Go.Pv
open Classical
set_option maxHeartbeats 8000000 in
theorem either_no {vA vB:LV} {A B:Bu} {sa na sb nb:LV} (hA:IsB vA A sa na) (hB:IsB vB B sb nb) (hno:¬ (Vb A∧Vb B∧A.L=B.L)) (hs:A.next.length+B.next.length≤3000) :
  PE 12 [vA,vB] (fun r=>r = .agg [.int .i64 0, .nils, .nils]):=by
 have hcA:=hA.closed
 have hcB:=hB.closed
 have hbA:=bvalid_ok hA
 have hbB:=bvalid_ok hB
 obtain ⟨rfl,hsa,va,hna⟩:=hA
 obtain ⟨rfl,hsb,vb,hnb⟩:=hB
 have ca1:=hsa.sl.cell
 have ca2:=hna.sl.cell
 have cb1:=hsb.sl.cell
 have cb2:=hnb.sl.cell
 have hla:=hna.sl.len
 have hlb:=hnb.sl.len
 have hw:IntKind.i64.wrap ((A.next.length:Int)+(B.next.length:Int))=(A.next.length:Int)+(B.next.length:Int):=wrap_i64 _ (by omega) (by omega)
 have hnx:Bx (¬ (Vb A∧Vb B∧A.L=B.L)):=⟨hno⟩
 clear hno
 refine q_fnExR Tryz.func12 (by decide +kernel) c12 (Nat.le_of_ble_eq_true rfl) (by simp only [LV.closed.closedAll,hcA,hcB,Bool.and_self]) ?_
 have e0:(envOf [LV.agg [.int .i64 A.L,sa,na], .agg [.int .i64 B.L,sb,nb]]).at 0 = .agg [.int .i64 A.L,sa,na]:=by rw [envOf_at];rfl
 have e1:(envOf [LV.agg [.int .i64 A.L,sa,na], .agg [.int .i64 B.L,sb,nb]]).at 1 = .agg [.int .i64 B.L,sb,nb]:=by rw [envOf_at];rfl
 generalize envOf [LV.agg [.int .i64 A.L,sa,na], .agg [.int .i64 B.L,sb,nb]]=e at *
 unfold l12
 dsimp only [jA,jC,jG,qM,qL,qN,qF,qS,qO,qP,qG,qm,ql]
 repeat' (first | refine gA (And.intro @hla @hlb) ?_ | (refine gB (And.intro @hla @hlb) ?_;intro bb hbb;cases bb<;>(try simp only [hbs,if_false,reduceCtorEq] at hbb)) | apply qc_seq | fail)
 refine q_pureB hG0 (hbA) (by first | exact wN | (apply wG;(simp only [lk,Nat.reduceEqDiff,reduceIte,e0,e1];(try rfl);done))) (by simp only [List.map,lk,Nat.reduceEqDiff,reduceIte,e0,e1];try rfl) (fun bb hbb=>⟨by first | trivial | (simp only [Chks,wantedG,LOp.run,Env.put_some,Env.put_none,lk,sv1,sv2,sv3,Nat.reduceEqDiff,Nat.reduceAdd,Nat.reduceLeDiff,reduceIte,if_false,if_true,mkVal,unLV,List.map,optTmps,beq_self_eq_true,reduceCtorEq,false_or,true_and,and_true,Option.some.injEq, *];done),?_⟩)
 simp only [Env.put_some]
 cases bb<;>simp only [decide_eq_true_eq,decide_eq_false_iff_not] at hbb
 ·repeat' (first | refine gA (And.intro @hla @hlb) ?_ | (refine gB (And.intro @hla @hlb) ?_;intro bb hbb;cases bb<;>(try simp only [hbs,if_false,reduceCtorEq] at hbb)) | apply qc_seq | fail)
  refine q_run0 (v:=.agg [.int .i64 0, .nils, .nils]) (by simp only [LOp.run,lk,sv1,sv2,sv3,Nat.reduceEqDiff,Nat.reduceAdd,Nat.reduceLeDiff,reduceIte,if_false,if_true,mkVal,unLV,List.map,optTmps,evParts,fillParts];rfl) ?_
  repeat' (first | refine gA trivial ?_ | (refine gB trivial ?_;intro bb hbb;cases bb<;>(try simp only [hbs,if_false,reduceCtorEq] at hbb)) | apply qc_seq | fail)
  exact ⟨.inr trivial, .agg [.int .i64 0, .nils, .nils],by simp [resVal,resOne,mkVal,lk,St.get_put],_,_,frzD_closed rfl,rfl,rfl⟩
 have okA:=hbb
 clear hbb hbA
 repeat' (first | refine gA (And.intro @hla @hlb) ?_ | (refine gB (And.intro @hla @hlb) ?_;intro bb hbb;cases bb<;>(try simp only [hbs,if_false,reduceCtorEq] at hbb)) | apply qc_seq | fail)
 refine q_pureB hG0 (hbB) (by first | exact wN | (apply wG;(simp only [lk,Nat.reduceEqDiff,reduceIte,e0,e1];(try rfl);done))) (by simp only [List.map,lk,Nat.reduceEqDiff,reduceIte,e0,e1];try rfl) (fun bb hbb=>⟨by first | trivial | (simp only [Chks,wantedG,LOp.run,Env.put_some,Env.put_none,lk,sv1,sv2,sv3,Nat.reduceEqDiff,Nat.reduceAdd,Nat.reduceLeDiff,reduceIte,if_false,if_true,mkVal,unLV,List.map,optTmps,beq_self_eq_true,reduceCtorEq,false_or,true_and,and_true,Option.some.injEq, *];done),?_⟩)
 simp only [Env.put_some]
 cases bb<;>simp only [decide_eq_true_eq,decide_eq_false_iff_not] at hbb
 ·repeat' (first | refine gA (And.intro @hla @hlb) ?_ | (refine gB (And.intro @hla @hlb) ?_;intro bb hbb;cases bb<;>(try simp only [hbs,if_false,reduceCtorEq] at hbb)) | apply qc_seq | fail)
  refine q_run0 (v:=.agg [.int .i64 0, .nils, .nils]) (by simp only [LOp.run,lk,sv1,sv2,sv3,Nat.reduceEqDiff,Nat.reduceAdd,Nat.reduceLeDiff,reduceIte,if_false,if_true,mkVal,unLV,List.map,optTmps,evParts,fillParts];rfl) ?_
  repeat' (first | refine gA trivial ?_ | (refine gB trivial ?_;intro bb hbb;cases bb<;>(try simp only [hbs,if_false,reduceCtorEq] at hbb)) | apply qc_seq | fail)
  exact ⟨.inr trivial, .agg [.int .i64 0, .nils, .nils],by simp [resVal,resOne,mkVal,lk,St.get_put],_,_,frzD_closed rfl,rfl,rfl⟩
 have okB:=hbb
 clear hbb hbB
 repeat' (first | refine gA (And.intro @hla (And.intro @hlb @hw)) ?_ | (refine gB (And.intro @hla (And.intro @hlb @hw)) ?_;intro bb hbb;cases bb<;>(try simp only [hbs,if_false,reduceCtorEq] at hbb)) | apply qc_seq | fail)
 ·exact (hnx.out ⟨okA,okB,by assumption⟩).elim
 ·exfalso;omega
 ·refine q_run0 (v:=.agg [.int .i64 0, .nils, .nils]) (by simp only [LOp.run,lk,sv1,sv2,sv3,Nat.reduceEqDiff,Nat.reduceAdd,Nat.reduceLeDiff,reduceIte,if_false,if_true,mkVal,unLV,List.map,optTmps,evParts,fillParts];rfl) ?_
  repeat' (first | refine gA trivial ?_ | (refine gB trivial ?_;intro bb hbb;cases bb<;>(try simp only [hbs,if_false,reduceCtorEq] at hbb)) | apply qc_seq | fail)
  exact ⟨.inr trivial, .agg [.int .i64 0, .nils, .nils],by simp [resVal,resOne,mkVal,lk,St.get_put],_,_,frzD_closed rfl,rfl,rfl⟩
end Go.Proofs.YtgobbogomchnhaaGreatDoor
end
