/- The law of numbers, run. -/
import Derived.Test.YtkbiecjdcjfhaaaPnp
import Derived.Test.YtkbiecjdcjfhaaaPvRow
import Derived.Test.YtkbiecjdcjfhaaaArgs
import Derived.Test.YtkbiecjdcjfhaaaHead
import Derived.Test.YtkbiecjdcjfhaaaRval
set_option linter.unusedSimpArgs false
set_option linter.unusedVariables false
set_option maxRecDepth 100000
namespace Go.Proofs.Ytkbiecjdcjfhaaa
open Go Go.Pv Go.Tre
open Classical
set_option maxHeartbeats 16000000 in
theorem lawNumbers:∀ lvs,HasArgs Try.prog 9 Try.f4.params.toList lvs→LawOk Try.prog 4 lvs:=by
  intro lvs h
  rw [Try.params4] at h
  cases h with | cons a h=>
  cases h
  obtain ⟨B,sv,nv,hB,-⟩:=argB a
  refine ⟨Try.f4,[],l4,Try.func4,by decide +kernel,c4,Nat.le_of_ble_eq_true rfl,CodeOk.mono (Q:=fun o e s=>(o = .normal∨o = .jmp .ret)∧e.at 2 = .bool true) (Cd.out ?_) fun o e s hh=>⟨hh.1,by simp [l4,resVal,resOne,hh.2]⟩⟩
  have hcl:=hB.closed
  have hfew:=rbfew_ok hB
  have hval:=rbvalid_ok hB
  have hbld:=fun (hv:Vb B) (h1:B.next.length≤10) (h2:B.start.length≤20) s=>build_ok (most:=150) hB hv h1 (by omega) (mvs_len hv) (by decide) (by decide) s
  obtain ⟨rfl,hst,vs,hn⟩:=hB
  have hc1:=hst.sl.cell
  have hc2:=hn.sl.cell
  have hnl:=hn.sl.len
  have e0:(envOf [LV.agg [.int .i64 B.L,sv,nv]]).at 0 = .agg [.int .i64 B.L,sv,nv]:=by rw [envOf_at];rfl
  generalize envOf [LV.agg [.int .i64 B.L,sv,nv]]=e at *
  unfold l4
  dsimp only [jA,jB,jC,jD,jF,jG,qM,qL,qN,qF,qS,qI,qA,qB,qC,qK,qO,qP,qG,qm,ql]
  repeat' (first | refine gN @hcl ?_ | (refine gB @hcl ?_;intro bb hbb;cases bb<;>(try simp only [hbs,if_false,reduceCtorEq] at hbb)<;>(try first | (exfalso;omega) | exact hbb.elim)) | fail)
  refine q_pure hG0 (head_true) (by first | exact wN | (apply wG;(simp only [lk,Nat.reduceEqDiff,reduceIte,e0];(try rfl);done))) (by simp only [List.map,lk,Nat.reduceEqDiff,reduceIte,e0];try rfl) (by first | trivial | (simp only [Chks,wantedG,LOp.run,Env.put_some,Env.put_none,lk,sv1,sv2,sv3,Nat.reduceEqDiff,Nat.reduceAdd,Nat.reduceLeDiff,reduceIte,if_false,if_true,mkVal,unLV,List.map,optTmps,beq_self_eq_true,reduceCtorEq,false_or,true_and,and_true,Option.some.injEq, *];done)) ?_
  simp only [Env.put_some]
  repeat' (first | refine gA @hcl ?_ | (refine gB @hcl ?_;intro bb hbb;cases bb<;>(try simp only [hbs,if_false,reduceCtorEq] at hbb)<;>(try first | (exfalso;omega) | exact hbb.elim)) | apply qc_seq | fail)
  refine q_pureEx hG0 hfew wN (by simp only [List.map,lk,sv1,sv2,sv3,Nat.reduceEqDiff,Nat.reduceAdd,Nat.reduceLeDiff,reduceIte,if_false,if_true,mkVal,unLV,List.map,optTmps]) (fun r hr hrc=>⟨trivial,?_⟩)
  obtain ⟨b,rfl,hb⟩:=hr
  simp only [Env.put_some]
  cases b with
  | false=>
    repeat' (first | refine gA trivial ?_ | (refine gB trivial ?_;intro bb hbb;cases bb<;>(try simp only [hbs,if_false,reduceCtorEq] at hbb)<;>(try first | (exfalso;omega) | exact hbb.elim)) | apply qc_seq | fail)
    exact ⟨.inr trivial,ef⟩
  | true=>
    repeat' (first | refine gA trivial ?_ | (refine gB trivial ?_;intro bb hbb;cases bb<;>(try simp only [hbs,if_false,reduceCtorEq] at hbb)<;>(try first | (exfalso;omega) | exact hbb.elim)) | apply qc_seq | fail)
    refine q_pureB hG0 (hval) (by first | exact wN | (apply wG;(simp only [lk,Nat.reduceEqDiff,reduceIte,e0];(try rfl);done))) (by simp only [List.map,lk,Nat.reduceEqDiff,reduceIte,e0];try rfl) (fun bb hbb=>⟨by first | trivial | (simp only [Chks,wantedG,LOp.run,Env.put_some,Env.put_none,lk,sv1,sv2,sv3,Nat.reduceEqDiff,Nat.reduceAdd,Nat.reduceLeDiff,reduceIte,if_false,if_true,mkVal,unLV,List.map,optTmps,beq_self_eq_true,reduceCtorEq,false_or,true_and,and_true,Option.some.injEq, *];done),?_⟩)
    simp only [Env.put_some]
    cases bb<;>simp only [decide_eq_true_eq,decide_eq_false_iff_not] at hbb
    · repeat' (first | refine gA trivial ?_ | (refine gB trivial ?_;intro bb hbb;cases bb<;>(try simp only [hbs,if_false,reduceCtorEq] at hbb)<;>(try first | (exfalso;omega) | exact hbb.elim)) | apply qc_seq | fail)
      exact ⟨.inr trivial,ef⟩
    have hok:=hbb
    obtain ⟨hb1,hb2,hb3⟩:=hb rfl
    repeat' (first | refine gA trivial ?_ | (refine gB trivial ?_;intro bb hbb;cases bb<;>(try simp only [hbs,if_false,reduceCtorEq] at hbb)<;>(try first | (exfalso;omega) | exact hbb.elim)) | apply qc_seq | fail)
    refine q_call wN (fv:=.fn (.func 7) [] []) (vs:=[.agg [.int .i64 B.L,sv,nv], .int .i64 150]) ef (by simp only [List.map,lk,sv1,sv2,sv3,Nat.reduceEqDiff,Nat.reduceAdd,Nat.reduceLeDiff,reduceIte,if_false,if_true,mkVal,unLV,List.map,optTmps]) (CallOk.mono (hbld hok hb1 hb3 _) fun r s1 hh=>⟨trivial,?_⟩)
    simp only [Env.put_some]
    obtain ⟨hn1,-,⟨n,v1,v2,rfl,hF,⟨R1,hS1,hcl1,hr1⟩,⟨R2,hS2,hcl2,hr2⟩,-⟩ | ⟨rfl,-⟩⟩:=hh
    rotate_left
    · have hw0:IntKind.i64.wrap (((0:Nat):Int)+((0:Nat):Int))=0:=by decide
      repeat' (first | refine gA @hw0 ?_ | (refine gB @hw0 ?_;intro bb hbb;cases bb<;>(try simp only [hbs,if_false,reduceCtorEq] at hbb)<;>(try first | (exfalso;omega) | exact hbb.elim)) | apply qc_seq | fail)
      refine ⟨.inr trivial,?_⟩
      exact ef
    have hFB:=Bx.mk hF
    obtain ⟨hF1,hF2,hF3⟩:=hF
    have hn150:n≤150:=by have:=hF3 n (Nat.le_refl _);omega
    have hn0:0<n:=by
      rcases Nat.eq_zero_or_pos n with h | h
      · subst h;exact absurd hF1 (by show ¬ (0:Nat)=1;omega)
      · exact h
    obtain ⟨j1,rfl,hj1,hg1⟩:=hS1.pos hn0
    obtain ⟨j2,rfl,hj2,hg2⟩:=hS2.pos hn0
    have hRl1:=hS1.1
    have hRl2:=hS2.1
    have hv1l:=hS1.len
    have hv2l:=hS2.len
    clear hfew hval hbld hb hF1 hF2 hF3 hS1 hS2
    repeat' (first | refine gA trivial ?_ | (refine gB trivial ?_;intro bb hbb;cases bb<;>(try simp only [hbs,if_false,reduceCtorEq] at hbb)<;>(try first | (exfalso;omega) | exact hbb.elim)) | apply qc_seq | fail)
    have hs2n:∀ id,id<s1.n→((s1.new (.cells .mut [.int .i64 0, .int .i64 0, .nils, .nils])).put s1.n (.cells .mut [.int .i64 B.L, .int .i64 0, .sref j1 0 n 1, .sref j2 0 n 1])).get id=s1.get id:=fun id hid=>by rw [St.get_put,if_neg (by omega),St.get_new,if_neg (by omega)]
    have hgk:((s1.new (.cells .mut [.int .i64 0, .int .i64 0, .nils, .nils])).put s1.n (.cells .mut [.int .i64 B.L, .int .i64 0, .sref j1 0 n 1, .sref j2 0 n 1])).get s1.n=some (.cells .mut [.int .i64 B.L, .int .i64 0, .sref j1 0 n 1, .sref j2 0 n 1]):=by rw [St.get_put,if_pos rfl]
    have hg1':=(hs2n j1 hj1).trans hg1
    have hg2':=(hs2n j2 hj2).trans hg2
    generalize (s1.new (.cells .mut [.int .i64 0, .int .i64 0, .nils, .nils])).put s1.n (.cells .mut [.int .i64 B.L, .int .i64 0, .sref j1 0 n 1, .sref j2 0 n 1])=s2 at *
    clear hs2n hg1 hg2
    have hL1:=hok.1
    obtain ⟨Ln,hLn⟩:∃ Ln:Nat,B.L=(Ln:Int):=⟨B.L.toNat,by omega⟩
    have hLt:B.L.toNat=Ln:=by omega
    have hokB:=Bx.mk (And.intro hok hLn)
    clear hok
    rw [hLn] at hgk
    refine qc_loop (fun m e s'=>s'=s2∧∃ (i:Nat),m=n - i∧i≤n∧e.at 1 = .pimm [.int .i64 (Ln:Int),sv,nv] 0∧e.at 3 = .bool true∧e.at 4 = .pref s1.n 0∧e.at 6 = .int .i64 (seenN B i 0:Int)∧e.at 7 = .int .i64 (i:Int)) _ ⟨rfl,0,rfl,Nat.zero_le _,ef,ef,ef,by simp only [lk,sv1,sv2,sv3,Nat.reduceEqDiff,Nat.reduceAdd,Nat.reduceLeDiff,reduceIte,if_false,if_true,mkVal,unLV,List.map,optTmps,seen_start];rfl,by simp only [lk,sv1,sv2,sv3,Nat.reduceEqDiff,Nat.reduceAdd,Nat.reduceLeDiff,reduceIte,if_false,if_true,mkVal,unLV,List.map,optTmps];rfl⟩ ?_
    have hL1n:1≤Ln:=by omega
    have hL20:Ln≤20:=by omega
    clear e0 hLn hL1 hb2 hcl
    clear e
    rintro m e s' ⟨hss,i,rfl,hi,e1,e3,e4,e6,e7⟩
    subst hss
    by_cases hin:i<n
    · have hiI:(i:Int)<(n:Int):=by omega
      have hr1i:=hr1 i hin
      have hr2i:=hr2 i hin
      rw [nxB_eq,hLt] at hr1i
      rw [prB_eq,hLt] at hr2i
      have hsn0:i<seenN B i 0:=by rw [seen_zero];exact hFB.out.2.1 i hin
      have hsnI:(i:Int)<(seenN B i 0:Int):=by omega
      have hrow1:loadLV none (.pref j1 i) s'=some (.simm (ints ((List.range Ln).map fun a=>(nxC B i a:Int))) Ln):=by
        have h1:=hr1i.sl.pos (by simp;omega)
        rw [List.length_map,List.length_range] at h1
        rw [← h1]
        refine load_ref hg1' ?_
        rw [List.getD_eq_getElem?_getD,List.getElem?_eq_getElem (by omega)];rfl
      have hrow2:loadLV none (.pref j2 i) s'=some (.simm (ints ((List.range Ln).map fun a=>(prC B i a:Int))) Ln):=by
        have h1:=hr2i.sl.pos (by simp;omega)
        rw [List.length_map,List.length_range] at h1
        rw [← h1]
        refine load_ref hg2' ?_
        rw [List.getD_eq_getElem?_getD,List.getElem?_eq_getElem (by omega)];rfl
      clear hr1i hr2i
      have hrB:=Bx.mk (And.intro hRl1 (And.intro hRl2 (And.intro hr1 (And.intro hr2 (And.intro hg1' hg2')))))
      clear hRl1 hRl2 hr1 hr2 hg1' hg2' hLt hcl1 hcl2
      repeat' (first | refine gN (And.intro @hgk @iaS) ?_ | (refine gB (And.intro @hgk @iaS) ?_;intro bb hbb;cases bb<;>(try simp only [hbs,if_false,reduceCtorEq] at hbb)<;>(try first | (exfalso;omega) | exact hbb.elim)) | fail)
      repeat' (first | refine gA (And.intro @hgk @iaS) ?_ | (refine gB (And.intro @hgk @iaS) ?_;intro bb hbb;cases bb<;>(try simp only [hbs,if_false,reduceCtorEq] at hbb)<;>(try first | (exfalso;omega) | exact hbb.elim)) | apply qc_seq | fail)
      refine qc_loop (fun m e s''=>s''=s'∧∃ (x:Nat),m=Ln - x∧x≤Ln∧e.at 1 = .pimm [.int .i64 (Ln:Int),sv,nv] 0∧e.at 3 = .bool true∧e.at 4 = .pref s1.n 0∧e.at 6 = .int .i64 (seenN B i x:Int)∧e.at 7 = .int .i64 (i:Int)∧e.at 8 = .int .i64 (x:Int)) _ ⟨rfl,0,rfl,Nat.zero_le _,ef,ef,ef,ef,ef,by simp only [lk,sv1,sv2,sv3,Nat.reduceEqDiff,Nat.reduceAdd,Nat.reduceLeDiff,reduceIte,if_false,if_true,mkVal,unLV,List.map,optTmps];rfl⟩ ?_
      clear e1 e3 e4 e6 e7
      clear e
      rintro m e s'' ⟨hss,x,rfl,hx,e1,e3,e4,e6,e7,e8⟩
      subst hss
      by_cases hxL:x<Ln
      · have hxI:(x:Int)<(Ln:Int):=by omega
        have hel1:loadLV none (.pimm (ints ((List.range Ln).map fun a=>(nxC B i a:Int))) x) s''=some (.int .i64 (nxC B i x:Int)):=by
          refine load_imm ?_
          unfold ints
          rw [List.getElem?_map,map_at hxL];rfl
        have hel2:loadLV none (.pimm (ints ((List.range Ln).map fun a=>(prC B i a:Int))) x) s''=some (.int .i64 (prC B i x:Int)):=by
          refine load_imm ?_
          unfold ints
          rw [List.getElem?_map,map_at hxL];rfl
        have hp:=pr_rng hFB.out.2.1 hin x
        have hp1:(1:Int)≤(prC B i x:Int):=by omega
        have hp2:(prC B i x:Int)≤4*(B.next.length:Int)+1:=by omega
        have hnx:(nxC B i x:Int)≤(seenN B i x:Int):=by have:=nx_le B i x;omega
        have hsl:seenN B i x≤150:=by
          have h1:=seen_le (B:=B) (i:=i) (x:=x) (by rw [hokB.out.2];omega)
          have h2:=hFB.out.2.2 (i+1) (by omega)
          omega
        have hw1:IntKind.i64.wrap (4*(B.next.length:Int))=4*(B.next.length:Int):=wrap_i64 _ (by omega) (by omega)
        have hw2:IntKind.i64.wrap (4*(B.next.length:Int)+1)=4*(B.next.length:Int)+1:=wrap_i64 _ (by omega) (by omega)
        have hw3:IntKind.i64.wrap ((seenN B i x:Int)+1)=((seenN B i x+1:Nat):Int):=by rw [wrap_i64 _ (by omega) (by omega)];rfl
        have hw4:IntKind.i64.wrap ((x:Int)+1)=((x+1:Nat):Int):=by rw [wrap_i64 _ (by omega) (by omega)];rfl
        have hst1:=Bx.mk (seen_step B i x)
        have hpB:=Bx.mk hp
        clear hp
        have hRB:=Bx.mk hrow2
        repeat' (first | refine gN (And.intro @hgk @iaS) ?_ | (refine gB (And.intro @hgk @iaS) ?_;intro bb hbb;cases bb<;>(try simp only [hbs,if_false,reduceCtorEq] at hbb)<;>(try first | (exfalso;omega) | exact hbb.elim)) | fail)
        have hia1:iaLV 1 (.simm (ints ((List.range Ln).map fun a=>(nxC B i a:Int))) Ln) (.int .i64 (x:Int)) s''=some (.pimm (ints ((List.range Ln).map fun a=>(nxC B i a:Int))) x,s''):=by
          have:=iaN (Sl.simm (ints ((List.range Ln).map fun a=>(nxC B i a:Int))) Ln) (esz:=1) (k:=.i64) (s:=s'') hxI
          rwa [Nat.mul_one] at this
        have hia2:iaLV 1 (.simm (ints ((List.range Ln).map fun a=>(prC B i a:Int))) Ln) (.int .i64 (x:Int)) s''=some (.pimm (ints ((List.range Ln).map fun a=>(prC B i a:Int))) x,s''):=by
          have:=iaN (Sl.simm (ints ((List.range Ln).map fun a=>(prC B i a:Int))) Ln) (esz:=1) (k:=.i64) (s:=s'') hxI
          rwa [Nat.mul_one] at this
        repeat' (first | refine gA (And.intro @hgk (And.intro @iaS (And.intro @hw1 (And.intro @hw2 (And.intro @hw3 (And.intro @hw4 (And.intro @hia1 @hia2))))))) ?_ | (refine gB (And.intro @hgk (And.intro @iaS (And.intro @hw1 (And.intro @hw2 (And.intro @hw3 (And.intro @hw4 (And.intro @hia1 @hia2))))))) ?_;intro bb hbb;cases bb<;>(try simp only [hbs,if_false,reduceCtorEq] at hbb)<;>(try first | (exfalso;omega) | exact hbb.elim)) | apply qc_seq | fail)
        · have hs:=hst1.out
          rw [if_neg (by omega)] at hs
          refine ⟨Ln - (x+1),by omega,trivial,x+1,rfl,by omega,?_⟩
          rw [hs]
          simp only [lk,sv1,sv2,sv3,Nat.reduceEqDiff,Nat.reduceAdd,Nat.reduceLeDiff,reduceIte,if_false,if_true,mkVal,unLV,List.map,optTmps,hw4,e1,e3,e4,e6,e7,and_self]
        · have hs:=hst1.out
          rw [if_pos (by omega)] at hs
          refine ⟨Ln - (x+1),by omega,trivial,x+1,rfl,by omega,?_⟩
          rw [hs]
          simp only [lk,sv1,sv2,sv3,Nat.reduceEqDiff,Nat.reduceAdd,Nat.reduceLeDiff,reduceIte,if_false,if_true,mkVal,unLV,List.map,optTmps,hw3,hw4,e1,e3,e4,e6,e7,and_self]
        · exfalso
          rw [hw1,hw2] at hbb
          omega
      · have hx':x=Ln:=by omega
        have hwi:IntKind.i64.wrap ((i:Int)+1)=((i+1:Nat):Int):=by rw [wrap_i64 _ (by omega) (by omega)];rfl
        repeat' (first | refine gN (And.intro @hgk @hwi) ?_ | (refine gB (And.intro @hgk @hwi) ?_;intro bb hbb;cases bb<;>(try simp only [hbs,if_false,reduceCtorEq] at hbb)<;>(try first | (exfalso;omega) | exact hbb.elim)) | fail)
        refine ⟨n - (i+1),by omega,trivial,i+1,rfl,by omega,ef,ef,ef,?_,ef⟩
        simp only [lk,sv1,sv2,sv3,Nat.reduceEqDiff,Nat.reduceAdd,Nat.reduceLeDiff,reduceIte,if_false,if_true,mkVal,unLV,List.map,optTmps,e6]
        rw [hx',seen_zero]
        have:=seen_next B i
        rw [hokB.out.2] at this
        rw [← this];rfl
    · have hi':i=n:=by omega
      have hse:seenN B i 0=n:=by rw [seen_zero,hi'];exact hFB.out.1.symm
      have hB1:=Bx.mk (And.intro hr1 (And.intro hr2 (And.intro hg1' hg2')))
      clear hr1 hr2 hg1' hg2' hRl1 hRl2 hLt hcl1 hcl2
      rw [hse] at e6
      rw [hi'] at e7
      clear hi' hse hi hin
      repeat' (first | refine gN @hgk ?_ | (refine gB @hgk ?_;intro bb hbb;cases bb<;>(try simp only [hbs,if_false,reduceCtorEq] at hbb)<;>(try first | (exfalso;omega) | exact hbb.elim)) | fail)
      exact ⟨.inr trivial,ef⟩
end Go.Proofs.Ytkbiecjdcjfhaaa
