/- tree.Valid, tree.Names, tree.Start. -/
import Derived.Test.YtkbiecjdcjfhaaaTval
import Derived.Test.YtkbiecjdcjfhaaaWoc
import Derived.Test.YtkbiecjdcjfhaaaPvQ
set_option linter.unusedSimpArgs false
set_option linter.unusedVariables false
namespace Go.Proofs.Ytkbiecjdcjfhaaa
open Go Go.Pv Go.Tre
open Classical
set_option maxHeartbeats 8000000 in
theorem tvalidB_ok {bv tv:LV} {B:Bu} {sv nv:LV} (hB:IsB bv B sv nv) {t:List Nd} {rs:List (Int × Int × LV)} (ht:IsTr tv t rs):PO 61 [bv,tv] (.bool (decide (Vb B∧t.length≤B.next.length∧Tr B.next.length t))):=by
  have hcl:=hB.closed
  have htc:=ht.closed
  have hbv:=bvalid_ok hB
  obtain ⟨rfl,hs,hn⟩:=hB
  have hsc:=hs.closed
  have hnc:=hn.closed
  obtain ⟨vs,hn'⟩:=hn
  have hnl:=hn'.sl.len
  have hsc1:=hs.sl.cell
  have hnc1:=hn'.sl.cell
  have htl:=ht.sl.len
  refine q_fn (t:=4) hm Try.func61 (by decide +kernel) c61 (Nat.le_of_ble_eq_true rfl) (by simp [LV.closed.closedAll,hcl,htc]) rfl rfl ?_
  have e0:(envOf [LV.agg [.int .i64 B.L,sv,nv],tv]).at 0 = .agg [.int .i64 B.L,sv,nv]:=by rw [envOf_at];rfl
  have e1:(envOf [LV.agg [.int .i64 B.L,sv,nv],tv]).at 1=tv:=by rw [envOf_at];rfl
  generalize envOf [LV.agg [.int .i64 B.L,sv,nv],tv]=e at *
  unfold l61
  dsimp only [jA,jD,qM,qL,qN,qF,qS,qK,qO,qG,qm]
  by_cases hv:Vb B
  · have hv3:=hv.2.2.1
    have hcall:=tvalid_ok ht hv3
    rw [decide_eq_true hv] at hbv
    by_cases hl:t.length≤B.next.length
    · have hd:decide (Vb B∧t.length≤B.next.length∧Tr B.next.length t)=decide (Tr B.next.length t):=by simp [hv,hl]
      rw [hd]
      generalize Tr B.next.length t=TT at *
      generalize decide TT=bb at *
      clear hd hv
      repeat' (first | refine gA (And.intro @htl @hnl) ?_ | (refine gB (And.intro @htl @hnl) ?_;intro bb hbb;cases bb<;>(try simp only [hbs,if_false,reduceCtorEq] at hbb)<;>(try first | (exfalso;omega) | exact hbb.elim)) | apply qc_seq | fail)
      refine q_pure hG0 (hbv) (by first | exact wN | (apply wG;(simp only [lk,Nat.reduceEqDiff,reduceIte,e0,e1];(try rfl);done))) (by simp only [List.map,lk,Nat.reduceEqDiff,reduceIte,e0,e1];try rfl) (by first | trivial | (simp only [Chks,wantedG,LOp.run,Env.put_some,Env.put_none,lk,sv1,sv2,sv3,Nat.reduceEqDiff,Nat.reduceAdd,Nat.reduceLeDiff,reduceIte,if_false,if_true,mkVal,unLV,List.map,optTmps,beq_self_eq_true,reduceCtorEq,false_or,true_and,and_true,Option.some.injEq, *];done)) ?_
      simp only [Env.put_some]
      clear hbv
      repeat' (first | refine gA (And.intro @htl @hnl) ?_ | (refine gB (And.intro @htl @hnl) ?_;intro bb hbb;cases bb<;>(try simp only [hbs,if_false,reduceCtorEq] at hbb)<;>(try first | (exfalso;omega) | exact hbb.elim)) | apply qc_seq | fail)
      refine q_pure hG0 hcall (wG ef) (by simp only [List.map,lk,sv1,sv2,sv3,Nat.reduceEqDiff,Nat.reduceAdd,Nat.reduceLeDiff,reduceIte,if_false,if_true,mkVal,unLV,List.map,optTmps,e1]) trivial ?_
      repeat' (first | refine gA trivial ?_ | (refine gB trivial ?_;intro bb hbb;cases bb<;>(try simp only [hbs,if_false,reduceCtorEq] at hbb)<;>(try first | (exfalso;omega) | exact hbb.elim)) | apply qc_seq | fail)
      exact ⟨.inr trivial,ef⟩
    · have hd:Bx (decide (Vb B∧t.length≤B.next.length∧Tr B.next.length t)=false):=⟨by simp [hl]⟩
      clear hcall hv
      repeat' (first | refine gA (And.intro @htl @hnl) ?_ | (refine gB (And.intro @htl @hnl) ?_;intro bb hbb;cases bb<;>(try simp only [hbs,if_false,reduceCtorEq] at hbb)<;>(try first | (exfalso;omega) | exact hbb.elim)) | apply qc_seq | fail)
      refine q_pure hG0 (hbv) (by first | exact wN | (apply wG;(simp only [lk,Nat.reduceEqDiff,reduceIte,e0,e1];(try rfl);done))) (by simp only [List.map,lk,Nat.reduceEqDiff,reduceIte,e0,e1];try rfl) (by first | trivial | (simp only [Chks,wantedG,LOp.run,Env.put_some,Env.put_none,lk,sv1,sv2,sv3,Nat.reduceEqDiff,Nat.reduceAdd,Nat.reduceLeDiff,reduceIte,if_false,if_true,mkVal,unLV,List.map,optTmps,beq_self_eq_true,reduceCtorEq,false_or,true_and,and_true,Option.some.injEq, *];done)) ?_
      simp only [Env.put_some]
      clear hbv
      repeat' (first | refine gA (And.intro @htl @hnl) ?_ | (refine gB (And.intro @htl @hnl) ?_;intro bb hbb;cases bb<;>(try simp only [hbs,if_false,reduceCtorEq] at hbb)<;>(try first | (exfalso;omega) | exact hbb.elim)) | apply qc_seq | fail)
      refine ⟨.inr trivial,?_⟩
      rw [hd.out]
      exact ef
  · have hd:Bx (decide (Vb B∧t.length≤B.next.length∧Tr B.next.length t)=false):=⟨by simp [hv]⟩
    rw [decide_eq_false hv] at hbv
    clear hv
    repeat' (first | refine gA (And.intro @htl @hnl) ?_ | (refine gB (And.intro @htl @hnl) ?_;intro bb hbb;cases bb<;>(try simp only [hbs,if_false,reduceCtorEq] at hbb)<;>(try first | (exfalso;omega) | exact hbb.elim)) | apply qc_seq | fail)
    refine q_pure hG0 (hbv) (by first | exact wN | (apply wG;(simp only [lk,Nat.reduceEqDiff,reduceIte,e0,e1];(try rfl);done))) (by simp only [List.map,lk,Nat.reduceEqDiff,reduceIte,e0,e1];try rfl) (by first | trivial | (simp only [Chks,wantedG,LOp.run,Env.put_some,Env.put_none,lk,sv1,sv2,sv3,Nat.reduceEqDiff,Nat.reduceAdd,Nat.reduceLeDiff,reduceIte,if_false,if_true,mkVal,unLV,List.map,optTmps,beq_self_eq_true,reduceCtorEq,false_or,true_and,and_true,Option.some.injEq, *];done)) ?_
    simp only [Env.put_some]
    clear hbv
    repeat' (first | refine gA (And.intro @htl @hnl) ?_ | (refine gB (And.intro @htl @hnl) ?_;intro bb hbb;cases bb<;>(try simp only [hbs,if_false,reduceCtorEq] at hbb)<;>(try first | (exfalso;omega) | exact hbb.elim)) | apply qc_seq | fail)
    refine ⟨.inr trivial,?_⟩
    rw [hd.out]
    exact ef
set_option maxHeartbeats 8000000 in
theorem tnames_ok {bv:LV} {B:Bu} {sv nv:LV} (hB:IsB bv B sv nv) (hv:Vb B):PO 38 [bv] (.int .i64 ((2*B.next.length:Nat):Int)):=by
  have hcl:=hB.closed
  have hbv:=bvalid_ok hB
  obtain ⟨rfl,hs,hn⟩:=hB
  have hsc:=hs.closed
  have hnc:=hn.closed
  obtain ⟨vs,hn'⟩:=hn
  have hnl:=hn'.sl.len
  have hsc1:=hs.sl.cell
  have hnc1:=hn'.sl.cell
  have hv3:=hv.2.2.1
  have hw:IntKind.i64.wrap (2*(B.next.length:Int))=((2*B.next.length:Nat):Int):=by rw [wrap_i64 _ (by omega) (by omega)];rfl
  rw [decide_eq_true hv] at hbv
  clear hv
  refine q_fn (t:=2) hm Try.func38 (by decide +kernel) c38 (Nat.le_of_ble_eq_true rfl) (by simp [LV.closed.closedAll,hcl]) rfl rfl ?_
  have e0:(envOf [LV.agg [.int .i64 B.L,sv,nv]]).at 0 = .agg [.int .i64 B.L,sv,nv]:=by rw [envOf_at];rfl
  generalize envOf [LV.agg [.int .i64 B.L,sv,nv]]=e at *
  unfold l38
  dsimp only [jA,qN,qF,qS,qC,qO,qG,qm,ql]
  repeat' (first | refine gA @hnl ?_ | (refine gB @hnl ?_;intro bb hbb;cases bb<;>(try simp only [hbs,if_false,reduceCtorEq] at hbb)<;>(try first | (exfalso;omega) | exact hbb.elim)) | apply qc_seq | fail)
  refine q_pure hG0 (hbv) (by first | exact wN | (apply wG;(simp only [lk,Nat.reduceEqDiff,reduceIte,e0];(try rfl);done))) (by simp only [List.map,lk,Nat.reduceEqDiff,reduceIte,e0];try rfl) (by first | trivial | (simp only [Chks,wantedG,LOp.run,Env.put_some,Env.put_none,lk,sv1,sv2,sv3,Nat.reduceEqDiff,Nat.reduceAdd,Nat.reduceLeDiff,reduceIte,if_false,if_true,mkVal,unLV,List.map,optTmps,beq_self_eq_true,reduceCtorEq,false_or,true_and,and_true,Option.some.injEq, *];done)) ?_
  simp only [Env.put_some]
  clear hbv
  repeat' (first | refine gA (And.intro @hnl @hw) ?_ | (refine gB (And.intro @hnl @hw) ?_;intro bb hbb;cases bb<;>(try simp only [hbs,if_false,reduceCtorEq] at hbb)<;>(try first | (exfalso;omega) | exact hbb.elim)) | apply qc_seq | fail)
  exact ⟨.inr trivial,by rw [← hw];exact ef⟩
def trS (B:Bu):List Nd:=if B.start=[] then [] else [⟨1,-1,B.start⟩]
set_option maxHeartbeats 8000000 in
theorem tstart_ok {bv:LV} {B:Bu} {sv nv:LV} (hB:IsB bv B sv nv) (hv:Vb B) (hl:B.start.length≤64):PE 17 [bv] (fun v=>∃ rs,IsTr v (trS B) rs):=by
  have hcl:=hB.closed
  have hbv:=bvalid_ok hB
  obtain ⟨rfl,hs,hn⟩:=hB
  have hsc:=hs.closed
  have hnc:=hn.closed
  have hclone:=cloneEx hs hl
  obtain ⟨vs,hn'⟩:=hn
  have hsl:=hs.sl.len
  have hsc1:=hs.sl.cell
  have hnc1:=hn'.sl.cell
  rw [decide_eq_true hv] at hbv
  clear hv
  refine q_fnExR Try.func17 (by decide +kernel) c17 (Nat.le_of_ble_eq_true rfl) (by simp [LV.closed.closedAll,hcl]) ?_
  have e0:(envOf [LV.agg [.int .i64 B.L,sv,nv]]).at 0 = .agg [.int .i64 B.L,sv,nv]:=by rw [envOf_at];rfl
  generalize envOf [LV.agg [.int .i64 B.L,sv,nv]]=e at *
  unfold l17
  dsimp only [jA,jC,qL,qN,qF,qS,qO,qP,qG,qm,ql]
  have hE:Bx (B.start=[]↔B.start.length=0):=⟨List.length_eq_zero_iff.symm⟩
  repeat' (first | refine gA @hsl ?_ | (refine gB @hsl ?_;intro bb hbb;cases bb<;>(try simp only [hbs,if_false,reduceCtorEq] at hbb)<;>(try first | (exfalso;omega) | exact hbb.elim)) | apply qc_seq | fail)
  refine q_pure hG0 (hbv) (by first | exact wN | (apply wG;(simp only [lk,Nat.reduceEqDiff,reduceIte,e0];(try rfl);done))) (by simp only [List.map,lk,Nat.reduceEqDiff,reduceIte,e0];try rfl) (by first | trivial | (simp only [Chks,wantedG,LOp.run,Env.put_some,Env.put_none,lk,sv1,sv2,sv3,Nat.reduceEqDiff,Nat.reduceAdd,Nat.reduceLeDiff,reduceIte,if_false,if_true,mkVal,unLV,List.map,optTmps,beq_self_eq_true,reduceCtorEq,false_or,true_and,and_true,Option.some.injEq, *];done)) ?_
  simp only [Env.put_some]
  clear hbv
  repeat' (first | refine gA @hsl ?_ | (refine gB @hsl ?_;intro bb hbb;cases bb<;>(try simp only [hbs,if_false,reduceCtorEq] at hbb)<;>(try first | (exfalso;omega) | exact hbb.elim)) | apply qc_seq | fail)
  · refine q_pureEx hG0 hclone wN (by simp only [List.map,lk,sv1,sv2,sv3,Nat.reduceEqDiff,Nat.reduceAdd,Nat.reduceLeDiff,reduceIte,if_false,if_true,mkVal,unLV,List.map,optTmps]) fun r hr hcr=>⟨trivial,?_⟩
    simp only [Env.put_some]
    have hrc:=hr.sl.cell
    repeat' (first | refine gA @hrc ?_ | (refine gB @hrc ?_;intro bb hbb;cases bb<;>(try simp only [hbs,if_false,reduceCtorEq] at hbb)<;>(try first | (exfalso;omega) | exact hbb.elim)) | apply qc_seq | fail)
    have hcnd:cells? (.agg [.int .i64 1, .int .i64 (-1),r])=some [.int .i64 1, .int .i64 (-1),r]:=by
      have:[LV.int .i64 1, .int .i64 (-1),r].all isCell=true:=by simp only [List.all_cons,List.all_nil,Bool.and_true,hrc];rfl
      simp only [cells?,this,if_true]
    have hcr1:cells? r=some [r]:=by
      revert hrc
      cases r<;>simp [isCell,cells?]
    refine u_build (vs:=[.int .i64 1, .int .i64 (-1),r]) wN (by simp only [evParts,List.map,lk,sv1,sv2,sv3,Nat.reduceEqDiff,Nat.reduceAdd,Nat.reduceLeDiff,reduceIte,if_false,if_true,mkVal,unLV,List.map,optTmps];simp [fillParts,hcr1,splice,show ∀ (k:IntKind) (x:Int),cells? (.int k x)=some [.int k x] from fun _ _=>rfl]) ?_
    refine q_run0 (v:=.sref St.empty.n 0 1 3) (s':=St.empty.new (.cells .mut [.int .i64 1, .int .i64 (-1),r])) (by
      simp only [LOp.run,evParts,List.map,lk,sv1,sv2,sv3,Nat.reduceEqDiff,Nat.reduceAdd,Nat.reduceLeDiff,reduceIte,if_false,if_true,mkVal,unLV,List.map,optTmps]
      simp [fillParts,hcnd,splice,rep]) ?_
    have hS:SkC (St.empty.new (.cells .mut [.int .i64 1, .int .i64 (-1),r])) (.sref St.empty.n 0 1 3) 3 [.int .i64 1, .int .i64 (-1),r] 1:=⟨rfl, .inr ⟨_,rfl,by omega,by simp,by rw [St.get_new,if_pos rfl]⟩⟩
    obtain ⟨x,hf,hsl2⟩:=FV.row (T:=fun _=>True) (d:=0) hS (by simp [LV.closed.closedAll,LV.closed,hcr]) (fun _ _=>trivial)
    obtain ⟨s',hz,-⟩:=frzD_fv (by omega) hf
    generalize St.empty.new (.cells .mut [.int .i64 1, .int .i64 (-1),r])=s1 at *
    have hzB:=Bx.mk (And.intro hz (And.intro hf hsl2))
    clear hz hf hsl2 hS
    repeat' (first | refine gA trivial ?_ | (refine gB trivial ?_;intro bb hbb;cases bb<;>(try simp only [hbs,if_false,reduceCtorEq] at hbb)<;>(try first | (exfalso;omega) | exact hbb.elim)) | apply qc_seq | fail)
    refine ⟨.inr trivial, .sref St.empty.n 0 1 3,by simp [resVal,resOne,l17],x,s',hzB.out.1,hzB.out.2.1.closed,[(1,-1,r)],?_⟩
    have hne:B.start≠[]:=fun h=>by
      have:=hE.out.1 h
      omega
    have ht:trS B=[⟨1,-1,B.start⟩]:=by unfold trS;rw [if_neg hne]
    rw [ht]
    refine ⟨by simpa [wcl,trow] using hzB.out.2.2,rfl,by simp,fun i hi=>?_⟩
    have hi0:i=0:=by simp at hi;omega
    subst hi0
    exact ⟨rfl,rfl,hr,by unfold inI64;simp,by unfold inI64;simp⟩
  · have hne:B.start=[]:=hE.out.2 (by omega)
    have ht:trS B=[]:=by unfold trS;rw [if_pos hne]
    rw [ht]
    refine ⟨.inr trivial, .nils,by simp [resVal,resOne,l17], .nils,_,frzD_closed rfl,rfl,[],?_⟩
    exact ⟨.nil,rfl,by simp,fun i hi=>absurd hi (by simp)⟩
end Go.Proofs.Ytkbiecjdcjfhaaa
