/- The law of the search, run: the code's answers are the reference's. -/
import Derived.Test.YtmblpcidfjemhaaDoorRfin
import Derived.Test.YtmblpcidfjemhaaDoorArgn
import Derived.Test.YtmblpcidfjemhaaDoorHead
import Derived.Test.YtmblpcidfjemhaaDoorRval
import Derived.Test.YtmblpcidfjemhaaDoorPvRow
set_option linter.unusedSimpArgs false
set_option linter.unusedVariables false
set_option maxRecDepth 100000
namespace Go.Proofs.YtmblpcidfjemhaaDoor
open Go Go.Pv Go.Aut
open Classical
theorem chk_ldG {d i:Nat} {b:Bool} {n:Option Nat} {x:Opd} {p v:LV} {e:Env} {s:St} (hg:e.at i = .bool b) (hx:x.ev e=p) (hl:loadLV n p s=some v) (hd:e.at d=v):wantedG (some (i,b)) e=some false∨(wantedG (some (i,b)) e=some true∧(LOp.load n x).run e s=some (e.at d,s)) :=
  .inr ⟨wG hg,by
    rcases chk_ld hx hl hd with h | h
    · simp [wantedG] at h
    · exact h.2⟩
set_option maxHeartbeats 16000000 in
theorem lawSmat:∀ lvs,HasArgs Tryd.prog 9 Tryd.f3.params.toList lvs→LawOkG Tryd.prog GL 3 lvs:=by
  intro lvs h
  rw [Tryd.params3] at h
  cases h with | cons a h=>
  cases h with | cons c h=>
  cases h with | cons p h=>
  cases h
  obtain ⟨A,sa,na,hA,-⟩:=argB a
  obtain ⟨B,sb,nb,hB,-⟩:=argB c
  obtain ⟨n,rfl,hn⟩:=argU p
  refine ⟨Tryd.f3,[],l3,Tryd.func3,by decide +kernel,c3,Nat.le_of_ble_eq_true rfl,CodeOk.mono (Q:=fun o e s=>(o = .normal∨o = .jmp .ret)∧e.at 6 = .bool true) (Cd.out ?_) fun o e s hh=>⟨hh.1,by simp [l3,resVal,resOne,hh.2]⟩⟩
  clear a c p
  have hcA:=hA.closed
  have hcB:=hB.closed
  have hfA:=rbfew_ok hA
  have hfB:=rbfew_ok hB
  have hsf:=sfind_ok hA
  have hrf:=rfind_ok hA
  have hpd:=fun hsz=>pdifa_ok hA hB hsz (most:=((n % 101:Nat):Int))
  have hrd:=fun hsz=>rdiffer_ok hA hB hsz (most:=((n % 101:Nat):Int))
  have hsl:=fun hsm=>slive_ok hA hsm
  have hrl:=rlive_ok hA
  have hrem:binLV .rem (.int .i64 (n:Int)) (.int .i64 101)=some (.int .i64 ((n % 101:Nat):Int)):=rem_nat n (m:=101) (by decide)
  have hw64:IntKind.i64.wrap (n:Int)=(n:Int):=wrap_i64 _ (by omega) (by omega)
  generalize hmost:((n % 101:Nat):Int)=most at *
  clear hmost
  obtain ⟨rfl,hsa,va,hna⟩:=hA
  obtain ⟨rfl,hsb,vb,hnb⟩:=hB
  have ca1:=hsa.sl.cell
  have ca2:=hna.sl.cell
  have cb1:=hsb.sl.cell
  have cb2:=hnb.sl.cell
  have e0:(envOf [LV.agg [.int .i64 A.L,sa,na], .agg [.int .i64 B.L,sb,nb], .int .u8 (n:Int)]).at 0 = .agg [.int .i64 A.L,sa,na]:=by rw [envOf_at];rfl
  have e1:(envOf [LV.agg [.int .i64 A.L,sa,na], .agg [.int .i64 B.L,sb,nb], .int .u8 (n:Int)]).at 1 = .agg [.int .i64 B.L,sb,nb]:=by rw [envOf_at];rfl
  have e2:(envOf [LV.agg [.int .i64 A.L,sa,na], .agg [.int .i64 B.L,sb,nb], .int .u8 (n:Int)]).at 2 = .int .u8 (n:Int):=by rw [envOf_at];rfl
  generalize envOf [LV.agg [.int .i64 A.L,sa,na], .agg [.int .i64 B.L,sb,nb], .int .u8 (n:Int)]=e at *
  unfold l3
  dsimp only [jA,jB,jC,jE,jG,qM,qN,qK,qO,qP,qG,qm]
  repeat' (first | refine gA trivial ?_ | (refine gB trivial ?_;intro bb hbb;cases bb<;>(try simp only [hbs,if_false,reduceCtorEq] at hbb)) | apply qc_seq | fail)
  refine q_pure hG0 (head_true) (by first | exact wN | (apply wG;(simp only [lk,Nat.reduceEqDiff,reduceIte,e0,e1,e2];(try rfl);done))) (by simp only [List.map,lk,Nat.reduceEqDiff,reduceIte,e0,e1,e2];try rfl) (by first | trivial | (simp only [Chks,wantedG,LOp.run,Env.put_some,Env.put_none,lk,sv1,sv2,sv3,Nat.reduceEqDiff,Nat.reduceAdd,Nat.reduceLeDiff,reduceIte,if_false,if_true,mkVal,unLV,List.map,optTmps,beq_self_eq_true,reduceCtorEq,false_or,true_and,and_true,Option.some.injEq, *];done)) ?_
  simp only [Env.put_some]
  repeat' (first | refine gA trivial ?_ | (refine gB trivial ?_;intro bb hbb;cases bb<;>(try simp only [hbs,if_false,reduceCtorEq] at hbb)) | apply qc_seq | fail)
  refine q_pureEx hG0 hfA wN (by simp only [List.map,lk,sv1,sv2,sv3,Nat.reduceEqDiff,Nat.reduceAdd,Nat.reduceLeDiff,reduceIte,if_false,if_true,mkVal,unLV,List.map,optTmps]) (fun r hr hrc=>⟨trivial,?_⟩)
  obtain ⟨b,rfl,hb⟩:=hr
  simp only [Env.put_some]
  cases b with
  | false=>
    repeat' (first | refine gA trivial ?_ | (refine gB trivial ?_;intro bb hbb;cases bb<;>(try simp only [hbs,if_false,reduceCtorEq] at hbb)) | apply qc_seq | fail)
    exact ⟨.inr trivial,ef⟩
  | true=>
  obtain ⟨fa1,fa2,fa3⟩:=hb rfl
  clear hb hrc hfA
  repeat' (first | refine gA trivial ?_ | (refine gB trivial ?_;intro bb hbb;cases bb<;>(try simp only [hbs,if_false,reduceCtorEq] at hbb)) | apply qc_seq | fail)
  refine q_pureEx hG0 hfB (wG ef) (by simp only [List.map,lk,sv1,sv2,sv3,Nat.reduceEqDiff,Nat.reduceAdd,Nat.reduceLeDiff,reduceIte,if_false,if_true,mkVal,unLV,List.map,optTmps]) (fun r hr hrc=>⟨trivial,?_⟩)
  obtain ⟨b,rfl,hb⟩:=hr
  simp only [Env.put_some]
  cases b with
  | false=>
    repeat' (first | refine gA trivial ?_ | (refine gB trivial ?_;intro bb hbb;cases bb<;>(try simp only [hbs,if_false,reduceCtorEq] at hbb)) | apply qc_seq | fail)
    exact ⟨.inr trivial,ef⟩
  | true=>
  obtain ⟨fb1,fb2,fb3⟩:=hb rfl
  clear hb hrc hfB
  have hsz:A.next.length*B.next.length*2≤3000:=by
    have:=Nat.mul_le_mul fa1 fb1
    omega
  replace hpd:=hpd hsz
  replace hrd:=hrd hsz
  replace hsl:=hsl (by omega)
  repeat' (first | refine gA trivial ?_ | (refine gB trivial ?_;intro bb hbb;cases bb<;>(try simp only [hbs,if_false,reduceCtorEq] at hbb)) | apply qc_seq | fail)
  refine q_pureEx hG0 hsf wN (by simp only [List.map,lk,sv1,sv2,sv3,Nat.reduceEqDiff,Nat.reduceAdd,Nat.reduceLeDiff,reduceIte,if_false,if_true,mkVal,unLV,List.map,optTmps]) (fun r hr hrc=>⟨trivial,?_⟩)
  obtain ⟨st,lo,S,L,ok,rfl,hS,hL,hF⟩:=hr
  have hcs:=hS.sl.cell
  have hcl:=hL.sl.cell
  simp only [Env.put_some]
  clear hsf hrc
  repeat' (first | refine gA trivial ?_ | (refine gB trivial ?_;intro bb hbb;cases bb<;>(try simp only [hbs,if_false,reduceCtorEq] at hbb)) | apply qc_seq | fail)
  refine q_pureEx hG0 hrf wN (by simp only [List.map,lk,sv1,sv2,sv3,Nat.reduceEqDiff,Nat.reduceAdd,Nat.reduceLeDiff,reduceIte,if_false,if_true,mkVal,unLV,List.map,optTmps]) (fun r hr hrc=>⟨trivial,?_⟩)
  obtain ⟨st2,lo2,S2,L2,ok2,rfl,hS2,hL2,hF2⟩:=hr
  have hF':FinC A S L ok:=hF
  obtain ⟨rfl,rfl,rfl⟩:=hF'.uniq hF2
  have hcs2:=hS2.sl.cell
  have hcl2:=hL2.sl.cell
  have hsame:=slasso_ok hS hL hS2 hL2
  simp only [Env.put_some]
  clear hrf hrc hF hF2 hF'
  repeat' (first | refine gA (And.intro @hrem @hw64) ?_ | (refine gB (And.intro @hrem @hw64) ?_;intro bb hbb;cases bb<;>(try simp only [hbs,if_false,reduceCtorEq] at hbb)) | apply qc_seq | fail)
  refine q_pureEx hG0 hpd wN (by simp only [List.map,lk,sv1,sv2,sv3,Nat.reduceEqDiff,Nat.reduceAdd,Nat.reduceLeDiff,reduceIte,if_false,if_true,mkVal,unLV,List.map,optTmps]) (fun r hr hrc=>⟨trivial,?_⟩)
  obtain ⟨st3,lo3,S3,L3,ok3,c3,rfl,hS3,hL3,hF3⟩:=hr
  have hcs3:=hS3.sl.cell
  have hcl3:=hL3.sl.cell
  simp only [Env.put_some]
  clear hpd hrc
  repeat' (first | refine gA (And.intro @hrem @hw64) ?_ | (refine gB (And.intro @hrem @hw64) ?_;intro bb hbb;cases bb<;>(try simp only [hbs,if_false,reduceCtorEq] at hbb)) | apply qc_seq | fail)
  refine q_pureEx hG0 hrd wN (by simp only [List.map,lk,sv1,sv2,sv3,Nat.reduceEqDiff,Nat.reduceAdd,Nat.reduceLeDiff,reduceIte,if_false,if_true,mkVal,unLV,List.map,optTmps]) (fun r hr hrc=>⟨trivial,?_⟩)
  obtain ⟨st4,lo4,S4,L4,ok4,c4,rfl,hS4,hL4,hF4⟩:=hr
  obtain ⟨rfl,rfl,rfl,rfl⟩:=hF3.uniq hF4
  have hcs4:=hS4.sl.cell
  have hcl4:=hL4.sl.cell
  have hsame2:=slasso_ok hS3 hL3 hS4 hL4
  simp only [Env.put_some]
  clear hrd hrc hF3 hF4
  have hq1:∀ b:Bool,eqLV .bool (.bool b) (.bool b)=some true:=fun b=>by cases b<;>rfl
  repeat' (first | refine gA @hq1 ?_ | (refine gB @hq1 ?_;intro bb hbb;cases bb<;>(try simp only [hbs,if_false,reduceCtorEq] at hbb)) | apply qc_seq | fail)
  all_goals first | (exfalso;first | (simp at hbb;done) | omega) | skip
  refine q_pure hG0 (hsame) (by first | exact wN | (apply wG;(simp only [lk,Nat.reduceEqDiff,reduceIte,e0,e1,e2];(try rfl);done))) (by simp only [List.map,lk,Nat.reduceEqDiff,reduceIte,e0,e1,e2];try rfl) (by first | trivial | (simp only [Chks,wantedG,LOp.run,Env.put_some,Env.put_none,lk,sv1,sv2,sv3,Nat.reduceEqDiff,Nat.reduceAdd,Nat.reduceLeDiff,reduceIte,if_false,if_true,mkVal,unLV,List.map,optTmps,beq_self_eq_true,reduceCtorEq,false_or,true_and,and_true,Option.some.injEq, *];done)) ?_
  simp only [Env.put_some]
  repeat' (first | refine gA trivial ?_ | (refine gB trivial ?_;intro bb hbb;cases bb<;>(try simp only [hbs,if_false,reduceCtorEq] at hbb)) | apply qc_seq | fail)
  refine q_pureEx hG0 hsl (wG ef) (by simp only [List.map,lk,sv1,sv2,sv3,Nat.reduceEqDiff,Nat.reduceAdd,Nat.reduceLeDiff,reduceIte,if_false,if_true,mkVal,unLV,List.map,optTmps]) (fun r3 hr3 hrc3=>?_)
  simp only [Env.put_some]
  refine ⟨⟨chk_ldG (p:=.pimm [.int .i64 A.L,sa,na] 0) (v:=.agg [.int .i64 A.L,sa,na]) ef ef rfl ef,trivial⟩,?_⟩
  refine q_pureEx hG0 hrl (wG ef) (by simp only [List.map,lk,sv1,sv2,sv3,Nat.reduceEqDiff,Nat.reduceAdd,Nat.reduceLeDiff,reduceIte,if_false,if_true,mkVal,unLV,List.map,optTmps]) (fun r4 hr4 hrc4=>⟨trivial,?_⟩)
  simp only [Env.put_some]
  have hbs:∃ (n:Nat) (f:Nat→Bool),n≤100000∧Sl r3 (bcells n f) n∧Sl r4 (bcells n f) n:=by
    rcases hr3 with ⟨h1,rfl⟩ | ⟨h1,h2⟩<;>rcases hr4 with ⟨k1,rfl⟩ | ⟨k1,k2⟩
    · exact ⟨0,fun _=>false,by decide, .nil, .nil⟩
    · exact absurd k1 h1
    · exact absurd h1 k1
    · exact ⟨_,_,by omega,h2,k2⟩
  obtain ⟨m,f,hm1,hm2,hm3⟩:=hbs
  have hsb2:=sbools_ok hm2 hm3 hm1
  clear hsl hrl hr3 hr4 hm2 hm3 hrc3 hrc4
  refine q_pure hG0 (hsb2) (by first | exact wN | (apply wG;(simp only [lk,Nat.reduceEqDiff,reduceIte,e0,e1,e2];(try rfl);done))) (by simp only [List.map,lk,Nat.reduceEqDiff,reduceIte,e0,e1,e2];try rfl) (by first | trivial | (simp only [Chks,wantedG,LOp.run,Env.put_some,Env.put_none,lk,sv1,sv2,sv3,Nat.reduceEqDiff,Nat.reduceAdd,Nat.reduceLeDiff,reduceIte,if_false,if_true,mkVal,unLV,List.map,optTmps,beq_self_eq_true,reduceCtorEq,false_or,true_and,and_true,Option.some.injEq, *];done)) ?_
  simp only [Env.put_some]
  repeat' (first | refine gA @hq1 ?_ | (refine gB @hq1 ?_;intro bb hbb;cases bb<;>(try simp only [hbs,if_false,reduceCtorEq] at hbb)) | apply qc_seq | fail)
  all_goals first | (exfalso;first | (simp at hbb;done) | omega) | skip
  refine q_pure hG0 (hsame2) (by first | exact wN | (apply wG;(simp only [lk,Nat.reduceEqDiff,reduceIte,e0,e1,e2];(try rfl);done))) (by simp only [List.map,lk,Nat.reduceEqDiff,reduceIte,e0,e1,e2];try rfl) (by first | trivial | (simp only [Chks,wantedG,LOp.run,Env.put_some,Env.put_none,lk,sv1,sv2,sv3,Nat.reduceEqDiff,Nat.reduceAdd,Nat.reduceLeDiff,reduceIte,if_false,if_true,mkVal,unLV,List.map,optTmps,beq_self_eq_true,reduceCtorEq,false_or,true_and,and_true,Option.some.injEq, *];done)) ?_
  simp only [Env.put_some]
  repeat' (first | refine gA trivial ?_ | (refine gB trivial ?_;intro bb hbb;cases bb<;>(try simp only [hbs,if_false,reduceCtorEq] at hbb)) | apply qc_seq | fail)
  exact ⟨.inr trivial,ef⟩
end Go.Proofs.YtmblpcidfjemhaaDoor
