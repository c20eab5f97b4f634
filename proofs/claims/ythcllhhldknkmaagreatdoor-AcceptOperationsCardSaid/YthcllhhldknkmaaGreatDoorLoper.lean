/- The law of operations, run. -/
import Derived.Test.YthcllhhldknkmaaGreatDoorAeither
import Derived.Test.YthcllhhldknkmaaGreatDoorNewtrack
import Derived.Test.YthcllhhldknkmaaGreatDoorArgs
import Derived.Test.YthcllhhldknkmaaGreatDoorFew
import Derived.Test.YthcllhhldknkmaaGreatDoorHead
import Derived.Test.YthcllhhldknkmaaGreatDoorPvRow
set_option linter.unusedSimpArgs false
set_option linter.unusedVariables false
set_option maxRecDepth 100000
namespace Go.Proofs.YthcllhhldknkmaaGreatDoor
open Go Go.Pv Go.Aut
open Classical
theorem aw_iff {B C:Bu} {S L:List Int} (okC:Vb C) (hf:Fm S L) (ha:AllB S C.L∧AllB L C.L):AW C S L↔BAcc C fun i=>(lett S L i).toNat:=
  ⟨fun h=>h.2.2,fun h=>⟨okC,⟨hf,ha.1,ha.2⟩,h⟩⟩
theorem aw_both {A B C:Bu} {S L:List Int} (rA:Rdy A S L) (rB:Rdy B S L) (hL:A.L=B.L) (hN:((A.next.length*B.next.length*2:Nat):Int)≤200) (hT:AutoR (grB A B) C):decide (AW C S L)=(decide (AW A S L) && decide (AW B S L)):=by
  have okC:=vb_both rA.1 rB.1 hL hN (by decide) hT
  have e:C.L=A.L:=hT.L
  rw [Bool.eq_iff_iff,Bool.and_eq_true,decide_eq_true_eq,decide_eq_true_eq,decide_eq_true_eq,aw_iff (B:=A) okC rA.2.1 (by rw [e];exact rA.2.2),aw_iff (B:=A) rA.1 rA.2.1 rA.2.2,aw_iff (B:=A) rB.1 rB.2.1 rB.2.2]
  exact both_iff rA.1 rB.1 hL hN (by decide) hT
theorem aw_ei {A B:Bu} {S L:List Int} (rA:Rdy A S L) (rB:Rdy B S L) (hL:A.L=B.L) (hs:A.next.length+B.next.length≤3000):decide (AW (eiB A B) S L)=(decide (AW A S L) || decide (AW B S L)):=by
  have okC:=vb_ei rA.1 rB.1 hL hs
  rw [Bool.eq_iff_iff,Bool.or_eq_true,decide_eq_true_eq,decide_eq_true_eq,decide_eq_true_eq,aw_iff (B:=A) okC rA.2.1 rA.2.2,aw_iff (B:=A) rA.1 rA.2.1 rA.2.2,aw_iff (B:=A) rB.1 rB.2.1 rB.2.2]
  exact ei_acc rA.1 rB.1
theorem aw_trim {B C:Bu} {S L:List Int} (rB:Rdy B S L) (hT:TrimR B C):decide (AW C S L)=decide (AW B S L):=by
  have okC:=vb_trim rB.1 hT
  have e:C.L=B.L:=hT.L
  rw [Bool.eq_iff_iff,decide_eq_true_eq,decide_eq_true_eq,aw_iff (B:=B) okC rB.2.1 (by rw [e];exact rB.2.2),aw_iff (B:=B) rB.1 rB.2.1 rB.2.2]
  exact trim_acc rB.1 hT
set_option maxHeartbeats 16000000 in
theorem lawOps:∀ lvs,HasArgs Tryz.prog 9 Tryz.f6.params.toList lvs→LawOkG Tryz.prog GL 6 lvs:=by
  intro lvs h
  rw [Tryz.params6] at h
  cases h with | cons a h=>
  cases h with | cons b h=>
  cases h with | cons c h=>
  cases h
  obtain ⟨A,sa,na,hA,-⟩:=argB a
  obtain ⟨B,sb,nb,hB,-⟩:=argB b
  obtain ⟨st,lo,S,L,rfl,hS,hL⟩:=argL c
  refine ⟨Tryz.f6,[],l6,Tryz.func6,by decide +kernel,c6,Nat.le_of_ble_eq_true rfl,CodeOk.mono (Q:=fun o e s=>(o = .normal∨o = .jmp .ret)∧e.at 6 = .bool true) (Cd.out ?_) fun o e s hh=>⟨hh.1,by simp [l6,resVal,resOne,hh.2]⟩⟩
  clear a b c
  have hcA:=hA.closed
  have hcB:=hB.closed
  have hcw:(LV.agg [st,lo]).closed=true:=by simp [LV.closed,LV.closed.closedAll,hS.closed,hL.closed]
  have cs:=hS.sl.cell
  have cl:=hL.sl.cell
  have hfA:=few14_ok hA hS hL 8
  have hfB:=few14_ok hB hS hL 8
  have hrA:=ready_ok hA hS hL
  have hrB:=ready_ok hB hS hL
  have hwA:=aword_ok hA hS hL
  have hwB:=aword_ok hB hS hL
  have hwC:=fun {v:LV} {C:Bu} {sv nv:LV} (hC:IsB v C sv nv)=>aword_ok hC hS hL
  have hbo:=fun (okA:Vb A) (okB:Vb B) (hL:A.L=B.L) (hN:((A.next.length*B.next.length*2:Nat):Int)≤200)=>pboth_ok hA hB okA okB hL (most:=200) (by omega) hN (by omega)
  have hei:=fun (okA:Vb A) (okB:Vb B) (hL:A.L=B.L) (hs:A.next.length+B.next.length≤3000)=>either_ok hA hB okA okB hL hs
  have htr:=ttrim_ok hA
  obtain ⟨rfl,hsa,va,hna⟩:=hA
  obtain ⟨rfl,hsb,vb,hnb⟩:=hB
  have ca1:=hsa.sl.cell
  have ca2:=hna.sl.cell
  have cb1:=hsb.sl.cell
  have cb2:=hnb.sl.cell
  have e0:(envOf [LV.agg [.int .i64 A.L,sa,na], .agg [.int .i64 B.L,sb,nb], .agg [st,lo]]).at 0 = .agg [.int .i64 A.L,sa,na]:=by rw [envOf_at];rfl
  have e1:(envOf [LV.agg [.int .i64 A.L,sa,na], .agg [.int .i64 B.L,sb,nb], .agg [st,lo]]).at 1 = .agg [.int .i64 B.L,sb,nb]:=by rw [envOf_at];rfl
  have e2:(envOf [LV.agg [.int .i64 A.L,sa,na], .agg [.int .i64 B.L,sb,nb], .agg [st,lo]]).at 2 = .agg [st,lo]:=by rw [envOf_at];rfl
  generalize envOf [LV.agg [.int .i64 A.L,sa,na], .agg [.int .i64 B.L,sb,nb], .agg [st,lo]]=e at *
  unfold l6
  dsimp only [jA,jB,jC,jE,jF,jG,qM,qL,qN,qF,qK,qO,qP,qm]
  repeat' (first | refine gA trivial ?_ | (refine gB trivial ?_;intro bb hbb;cases bb<;>(try simp only [hbs,if_false,reduceCtorEq] at hbb)) | apply qc_seq | fail)
  refine q_pure hG0 (head_true) (by first | exact wN | (apply wG;(simp only [lk,Nat.reduceEqDiff,reduceIte,e0,e1,e2];(try rfl);done))) (by simp only [List.map,lk,Nat.reduceEqDiff,reduceIte,e0,e1,e2];try rfl) (by first | trivial | (simp only [Chks,wantedG,LOp.run,Env.put_some,Env.put_none,lk,sv1,sv2,sv3,Nat.reduceEqDiff,Nat.reduceAdd,Nat.reduceLeDiff,reduceIte,if_false,if_true,mkVal,unLV,List.map,optTmps,beq_self_eq_true,reduceCtorEq,false_or,true_and,and_true,Option.some.injEq, *];done)) ?_
  simp only [Env.put_some]
  repeat' (first | refine gA trivial ?_ | (refine gB trivial ?_;intro bb hbb;cases bb<;>(try simp only [hbs,if_false,reduceCtorEq] at hbb)) | apply qc_seq | fail)
  refine q_pureEx hG0 hfA wN (by simp only [List.map,lk,sv1,sv2,sv3,Nat.reduceEqDiff,Nat.reduceAdd,Nat.reduceLeDiff,reduceIte,if_false,if_true,mkVal,unLV,List.map,optTmps]) (fun r hr hrc=>⟨trivial,?_⟩)
  obtain ⟨b,rfl,hb⟩:=hr
  simp only [Env.put_some]
  cases b with
  | false=>
    repeat' (first | refine gA trivial ?_ | (refine gB trivial ?_;intro bb hbb;cases bb<;>(try simp only [hbs,if_false,reduceCtorEq] at hbb)) | apply qc_seq | fail)
    exact ⟨.inr trivial,ef⟩
  | true=>
  have hfa:=hb rfl
  clear hb hrc hfA
  repeat' (first | refine gA trivial ?_ | (refine gB trivial ?_;intro bb hbb;cases bb<;>(try simp only [hbs,if_false,reduceCtorEq] at hbb)) | apply qc_seq | fail)
  refine q_pureEx hG0 hfB (wG ef) (by simp only [List.map,lk,sv1,sv2,sv3,Nat.reduceEqDiff,Nat.reduceAdd,Nat.reduceLeDiff,reduceIte,if_false,if_true,mkVal,unLV,List.map,optTmps]) (fun r hr hrc=>⟨trivial,?_⟩)
  obtain ⟨b,rfl,hb⟩:=hr
  simp only [Env.put_some]
  cases b with
  | false=>
    repeat' (first | refine gA trivial ?_ | (refine gB trivial ?_;intro bb hbb;cases bb<;>(try simp only [hbs,if_false,reduceCtorEq] at hbb)) | apply qc_seq | fail)
    exact ⟨.inr trivial,ef⟩
  | true=>
  have hfb:=hb rfl
  clear hb hrc hfB
  repeat' (first | refine gA trivial ?_ | (refine gB trivial ?_;intro bb hbb;cases bb<;>(try simp only [hbs,if_false,reduceCtorEq] at hbb)) | apply qc_seq | fail)
  refine q_pureB hG0 (hrA) (by first | exact wN | (apply wG;(simp only [lk,Nat.reduceEqDiff,reduceIte,e0,e1,e2];(try rfl);done))) (by simp only [List.map,lk,Nat.reduceEqDiff,reduceIte,e0,e1,e2];try rfl) (fun bb hbb=>⟨by first | trivial | (simp only [Chks,wantedG,LOp.run,Env.put_some,Env.put_none,lk,sv1,sv2,sv3,Nat.reduceEqDiff,Nat.reduceAdd,Nat.reduceLeDiff,reduceIte,if_false,if_true,mkVal,unLV,List.map,optTmps,beq_self_eq_true,reduceCtorEq,false_or,true_and,and_true,Option.some.injEq, *];done),?_⟩)
  simp only [Env.put_some]
  cases bb<;>simp only [decide_eq_true_eq,decide_eq_false_iff_not] at hbb
  · repeat' (first | refine gA trivial ?_ | (refine gB trivial ?_;intro bb hbb;cases bb<;>(try simp only [hbs,if_false,reduceCtorEq] at hbb)) | apply qc_seq | fail)
    exact ⟨.inr trivial,ef⟩
  have rA:=hbb
  clear hbb hrA
  repeat' (first | refine gA trivial ?_ | (refine gB trivial ?_;intro bb hbb;cases bb<;>(try simp only [hbs,if_false,reduceCtorEq] at hbb)) | apply qc_seq | fail)
  refine q_pureB hG0 (hrB) (by first | exact wN | (apply wG;(simp only [lk,Nat.reduceEqDiff,reduceIte,e0,e1,e2];(try rfl);done))) (by simp only [List.map,lk,Nat.reduceEqDiff,reduceIte,e0,e1,e2];try rfl) (fun bb hbb=>⟨by first | trivial | (simp only [Chks,wantedG,LOp.run,Env.put_some,Env.put_none,lk,sv1,sv2,sv3,Nat.reduceEqDiff,Nat.reduceAdd,Nat.reduceLeDiff,reduceIte,if_false,if_true,mkVal,unLV,List.map,optTmps,beq_self_eq_true,reduceCtorEq,false_or,true_and,and_true,Option.some.injEq, *];done),?_⟩)
  simp only [Env.put_some]
  cases bb<;>simp only [decide_eq_true_eq,decide_eq_false_iff_not] at hbb
  · repeat' (first | refine gA trivial ?_ | (refine gB trivial ?_;intro bb hbb;cases bb<;>(try simp only [hbs,if_false,reduceCtorEq] at hbb)) | apply qc_seq | fail)
    exact ⟨.inr trivial,ef⟩
  have rB:=hbb
  clear hbb hrB
  repeat' (first | refine gA trivial ?_ | (refine gB trivial ?_;intro bb hbb;cases bb<;>(try simp only [hbs,if_false,reduceCtorEq] at hbb)) | apply qc_seq | fail)
  rotate_left
  · exact ⟨.inr trivial,ef⟩
  have hLx:Bx (A.L=B.L):=by
    refine ⟨?_⟩
    assumption
  have h300:((A.next.length*B.next.length*2:Nat):Int)≤200:=by
    have:=Nat.mul_le_mul (show A.next.length≤8 by omega) (show B.next.length≤8 by omega)
    omega
  have h3000:A.next.length+B.next.length≤3000:=by omega
  have hb1:=hbo rA.1 rB.1 hLx.out h300
  have he1:=hei rA.1 rB.1 hLx.out h3000
  have ht1:=fun (C:Bu) (hT:AutoR (grB A B) C)=>aw_both rA rB hLx.out h300 hT
  have ht2:=aw_ei rA rB hLx.out h3000
  have ht3:=fun (C:Bu) (hT:TrimR A C)=>aw_trim rA hT
  have hV:=rA.1
  clear hbo hei hfa hfb h300 h3000 rA rB
  generalize decide (AW A S L)=xa at *
  generalize decide (AW B S L)=xb at *
  refine q_pure hG0 (hwA) (by first | exact wN | (apply wG;(simp only [lk,Nat.reduceEqDiff,reduceIte,e0,e1,e2];(try rfl);done))) (by simp only [List.map,lk,Nat.reduceEqDiff,reduceIte,e0,e1,e2];try rfl) (by first | trivial | (simp only [Chks,wantedG,LOp.run,Env.put_some,Env.put_none,lk,sv1,sv2,sv3,Nat.reduceEqDiff,Nat.reduceAdd,Nat.reduceLeDiff,reduceIte,if_false,if_true,mkVal,unLV,List.map,optTmps,beq_self_eq_true,reduceCtorEq,false_or,true_and,and_true,Option.some.injEq, *];done)) ?_
  simp only [Env.put_some]
  repeat' (first | refine gA trivial ?_ | (refine gB trivial ?_;intro bb hbb;cases bb<;>(try simp only [hbs,if_false,reduceCtorEq] at hbb)) | apply qc_seq | fail)
  refine q_pure hG0 (hwB) (by first | exact wN | (apply wG;(simp only [lk,Nat.reduceEqDiff,reduceIte,e0,e1,e2];(try rfl);done))) (by simp only [List.map,lk,Nat.reduceEqDiff,reduceIte,e0,e1,e2];try rfl) (by first | trivial | (simp only [Chks,wantedG,LOp.run,Env.put_some,Env.put_none,lk,sv1,sv2,sv3,Nat.reduceEqDiff,Nat.reduceAdd,Nat.reduceLeDiff,reduceIte,if_false,if_true,mkVal,unLV,List.map,optTmps,beq_self_eq_true,reduceCtorEq,false_or,true_and,and_true,Option.some.injEq, *];done)) ?_
  simp only [Env.put_some]
  repeat' (first | refine gA trivial ?_ | (refine gB trivial ?_;intro bb hbb;cases bb<;>(try simp only [hbs,if_false,reduceCtorEq] at hbb)) | apply qc_seq | fail)
  refine q_pureEx hG0 hb1 wN (by simp only [List.map,lk,sv1,sv2,sv3,Nat.reduceEqDiff,Nat.reduceAdd,Nat.reduceLeDiff,reduceIte,if_false,if_true,mkVal,unLV,List.map,optTmps]) (fun r hr hrc=>⟨trivial,?_⟩)
  obtain ⟨v,C,sc,nc,rfl,hC,hT⟩:=hr
  have hwC1:=hwC hC
  rw [ht1 C hT] at hwC1
  have hclC:=hC.closed
  obtain ⟨rfl,hsc,vc,hnc⟩:=hC
  have cc1:=hsc.sl.cell
  have cc2:=hnc.sl.cell
  simp only [Env.put_some]
  clear hb1 hrc ht1 hT hwA hwB
  refine w_gen (fun e' s'=>s'=St.empty∧e'.at 3 = .pimm [.int .i64 A.L,sa,na] 0∧e'.at 4 = .pimm [.int .i64 B.L,sb,nb] 0∧e'.at 5 = .pimm [st,lo] 0∧e'.at 7 = .bool true∧e'.at 8 = .bool xa∧e'.at 9 = .bool xb∧e'.at 52 = .tup [.agg [.int .i64 C.L,sc,nc], .int .i64 0]) ⟨by rfl,ef,ef,ef,ef,ef,ef,ef⟩ ?_
  clear e0 e1 e2
  clear e
  rintro e s ⟨rfl,e3,e4,e5,e7,e8,e9,e52⟩
  cases xa<;>cases xb
  all_goals
    simp only [Bool.and_self,Bool.and_true,Bool.true_and,Bool.and_false,Bool.false_and,Bool.or_self,Bool.or_true,Bool.true_or,Bool.or_false,Bool.false_or] at hwC1 ht2
  all_goals
    repeat' (first | refine gA trivial ?_ | (refine gB trivial ?_;intro bb hbb;cases bb<;>(try simp only [hbs,if_false,reduceCtorEq] at hbb)) | apply qc_seq | fail)
    · first | exact hbb.elim | exact absurd rfl hbb | exact absurd hbb (by decide) | (exfalso;omega)
    clear hbb
    refine q_pure hG0 (hwC1) (by first | exact wN | (apply wG;(simp only [lk,Nat.reduceEqDiff,reduceIte,e3,e4,e5,e7,e8,e9,e52];(try rfl);done))) (by simp only [List.map,lk,Nat.reduceEqDiff,reduceIte,e3,e4,e5,e7,e8,e9,e52];try rfl) (by first | trivial | (simp only [Chks,wantedG,LOp.run,Env.put_some,Env.put_none,lk,sv1,sv2,sv3,Nat.reduceEqDiff,Nat.reduceAdd,Nat.reduceLeDiff,reduceIte,if_false,if_true,mkVal,unLV,List.map,optTmps,beq_self_eq_true,reduceCtorEq,false_or,true_and,and_true,Option.some.injEq, *];done)) ?_
    simp only [Env.put_some]
    repeat' (first | refine gA trivial ?_ | (refine gB trivial ?_;intro bb hbb;cases bb<;>(try simp only [hbs,if_false,reduceCtorEq] at hbb)) | apply qc_seq | fail)
    · first | exact hbb.elim | exact absurd rfl hbb | exact absurd hbb (by decide) | (exfalso;omega)
    clear hbb
    refine q_pureEx hG0 he1 (wG ef) (by simp only [List.map,lk,sv1,sv2,sv3,Nat.reduceEqDiff,Nat.reduceAdd,Nat.reduceLeDiff,reduceIte,if_false,if_true,mkVal,unLV,List.map,optTmps]) (fun r hr hrc=>?_)
    obtain ⟨sd,nd,hD⟩:=hr
    have hwD:=hwC hD
    rw [ht2] at hwD
    have hclD:=hD.closed
    obtain ⟨rfl,hsd,vd,hnd⟩:=hD
    have cd1:=hsd.sl.cell
    have cd2:=hnd.sl.cell
    refine ⟨by simp only [Chks,wantedG,LOp.run,Env.put_some,Env.put_none,lk,sv1,sv2,sv3,Nat.reduceEqDiff,Nat.reduceAdd,Nat.reduceLeDiff,reduceIte,if_false,if_true,mkVal,unLV,List.map,optTmps,beq_self_eq_true,reduceCtorEq,false_or,true_and,and_true,Option.some.injEq, *],?_⟩
    simp only [Env.put_some]
    refine q_pure hG0 (hwD) (by first | exact wN | (apply wG;(simp only [lk,Nat.reduceEqDiff,reduceIte,e3,e4,e5,e7,e8,e9,e52];(try rfl);done))) (by simp only [List.map,lk,Nat.reduceEqDiff,reduceIte,e3,e4,e5,e7,e8,e9,e52];try rfl) (by first | trivial | (simp only [Chks,wantedG,LOp.run,Env.put_some,Env.put_none,lk,sv1,sv2,sv3,Nat.reduceEqDiff,Nat.reduceAdd,Nat.reduceLeDiff,reduceIte,if_false,if_true,mkVal,unLV,List.map,optTmps,beq_self_eq_true,reduceCtorEq,false_or,true_and,and_true,Option.some.injEq, *];done)) ?_
    simp only [Env.put_some]
    repeat' (first | refine gA trivial ?_ | (refine gB trivial ?_;intro bb hbb;cases bb<;>(try simp only [hbs,if_false,reduceCtorEq] at hbb)) | apply qc_seq | fail)
    · first | exact hbb.elim | exact absurd rfl hbb | exact absurd hbb (by decide) | (exfalso;omega)
    clear hbb
    refine q_pureEx hG0 htr (wG ef) (by simp only [List.map,lk,sv1,sv2,sv3,Nat.reduceEqDiff,Nat.reduceAdd,Nat.reduceLeDiff,reduceIte,if_false,if_true,mkVal,unLV,List.map,optTmps]) (fun r hr hrc2=>?_)
    rcases hr with ⟨hr,_⟩ | ⟨_,D,sd,nd,hD,hTr⟩
    · exact absurd hV hr
    have hwT:=hwC hD
    rw [ht3 D hTr] at hwT
    have hclT:=hD.closed
    obtain ⟨rfl,hse,ve,hne⟩:=hD
    have ce1:=hse.sl.cell
    have ce2:=hne.sl.cell
    refine ⟨by simp only [Chks,wantedG,LOp.run,Env.put_some,Env.put_none,lk,sv1,sv2,sv3,Nat.reduceEqDiff,Nat.reduceAdd,Nat.reduceLeDiff,reduceIte,if_false,if_true,mkVal,unLV,List.map,optTmps,beq_self_eq_true,reduceCtorEq,false_or,true_and,and_true,Option.some.injEq, *],?_⟩
    simp only [Env.put_some]
    refine q_pure hG0 (hwT) (by first | exact wN | (apply wG;(simp only [lk,Nat.reduceEqDiff,reduceIte,e3,e4,e5,e7,e8,e9,e52];(try rfl);done))) (by simp only [List.map,lk,Nat.reduceEqDiff,reduceIte,e3,e4,e5,e7,e8,e9,e52];try rfl) (by first | trivial | (simp only [Chks,wantedG,LOp.run,Env.put_some,Env.put_none,lk,sv1,sv2,sv3,Nat.reduceEqDiff,Nat.reduceAdd,Nat.reduceLeDiff,reduceIte,if_false,if_true,mkVal,unLV,List.map,optTmps,beq_self_eq_true,reduceCtorEq,false_or,true_and,and_true,Option.some.injEq, *];done)) ?_
    simp only [Env.put_some]
    repeat' (first | refine gA trivial ?_ | (refine gB trivial ?_;intro bb hbb;cases bb<;>(try simp only [hbs,if_false,reduceCtorEq] at hbb)) | apply qc_seq | fail)
    · first | exact hbb.elim | exact absurd rfl hbb | exact absurd hbb (by decide) | (exfalso;omega)
    exact ⟨.inr trivial,ef⟩
end Go.Proofs.YthcllhhldknkmaaGreatDoor
