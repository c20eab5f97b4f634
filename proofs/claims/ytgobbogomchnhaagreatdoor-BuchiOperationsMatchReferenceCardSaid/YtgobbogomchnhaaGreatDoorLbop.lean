/- The law of the operations, run: the code's answers are the reference's. -/
import Derived.Test.YtgobbogomchnhaaGreatDoorRboth
import Derived.Test.YtgobbogomchnhaaGreatDoorReith
import Derived.Test.YtgobbogomchnhaaGreatDoorEitno
import Derived.Test.YtgobbogomchnhaaGreatDoorTauto
import Derived.Test.YtgobbogomchnhaaGreatDoorBsame
import Derived.Test.YtgobbogomchnhaaGreatDoorHeab
import Derived.Test.YtgobbogomchnhaaGreatDoorRval
import Derived.Test.YtgobbogomchnhaaGreatDoorPvRow
set_option linter.unusedSimpArgs false
set_option linter.unusedVariables false
set_option maxRecDepth 100000
namespace Go.Proofs.YtgobbogomchnhaaGreatDoor
open Go Go.Pv
open Classical
theorem isB_nil:IsB (.agg [.int .i64 0, .nils, .nils]) ⟨0,[],[]⟩ .nils .nils:=
 ⟨rfl,⟨.nil,by decide,fun x hx=>by cases hx⟩,[],⟨.nil,rfl,by decide,fun i hi=>absurd hi (Nat.not_lt_zero _)⟩⟩
theorem both_sh {A B:Bu} {most:Int} {r:LV} (h:BothA A B most r):∃ (C:Bu) (s n:LV) (c:Int),r = .tup [.agg [.int .i64 C.L,s,n], .int .i64 c]∧IsB (.agg [.int .i64 C.L,s,n]) C s n ∧
  ∀ r',BothA A B most r'→∃ s' n',r' = .tup [.agg [.int .i64 C.L,s',n'], .int .i64 c]∧IsB (.agg [.int .i64 C.L,s',n']) C s' n':=by
 rcases h with ⟨h1,rfl⟩ | ⟨h1,h2,rfl⟩ | ⟨h1,h2,v,C,s,n,rfl,hC,hg⟩
 ·refine ⟨⟨0,[],[]⟩, .nils, .nils,1,rfl,isB_nil,fun r' k=>?_⟩
  rcases k with ⟨k1,rfl⟩ | ⟨k1,k2,rfl⟩ | ⟨k1,k2,k3⟩
  ·exact ⟨_,_,rfl,isB_nil⟩
  ·exact absurd k1 h1
  ·exact absurd k1 h1
 ·refine ⟨⟨0,[],[]⟩, .nils, .nils,2,rfl,isB_nil,fun r' k=>?_⟩
  rcases k with ⟨k1,rfl⟩ | ⟨k1,k2,rfl⟩ | ⟨k1,k2,k3⟩
  ·exact absurd h1 k1
  ·exact ⟨_,_,rfl,isB_nil⟩
  ·omega
 ·have hC':=hC
  obtain ⟨rfl,-,-⟩:=hC
  refine ⟨C,s,n,0,rfl,hC',fun r' k=>?_⟩
  rcases k with ⟨k1,rfl⟩ | ⟨k1,k2,rfl⟩ | ⟨k1,k2,v',D,s',n',rfl,hD,hg'⟩
  ·exact absurd h1 k1
  ·omega
  ·have:=auto_unique2 hg hg'
   subst this
   have hD':=hD
   obtain ⟨rfl,-,-⟩:=hD
   exact ⟨_,_,rfl,hD'⟩
theorem eith_sh {A B:Bu} {r r':LV} (h:EithA A B r) (k:EithA A B r'):∃ (C:Bu) (s n s' n':LV),IsB r C s n∧IsB r' C s' n':=by
 rcases h with ⟨h1,rfl⟩ | ⟨h1,s,n,hC⟩
 ·rcases k with ⟨k1,rfl⟩ | ⟨k1,k2⟩
  ·exact ⟨_,_,_,_,_,isB_nil,isB_nil⟩
  ·exact absurd k1 h1
 ·rcases k with ⟨k1,rfl⟩ | ⟨k1,s',n',hD⟩
  ·exact absurd h1 k1
  ·exact ⟨_,_,_,_,_,hC,hD⟩
theorem pe_mono {f:LV} {vs:List LV} {R R':LV→Prop} (h:PureEx Tryz.prog GL f vs R) (hr:∀ r,R r→R' r):PureEx Tryz.prog GL f vs R':=⟨h.cf,h.cargs,CallOk.mono h.call fun v s hh=>by
 obtain ⟨r,s2,h1,h2,h3⟩:=hh
 exact ⟨r,s2,h1,h2,hr r h3⟩⟩
theorem eith_ok {vA vB:LV} {A B:Bu} {sa na sb nb:LV} (hA:IsB vA A sa na) (hB:IsB vB B sb nb) (hs:A.next.length+B.next.length≤3000):PE 12 [vA,vB] (EithA A B):=by
 by_cases h:Vb A∧Vb B∧A.L=B.L
 ·exact pe_mono (either_ok hA hB h.1 h.2.1 h.2.2 hs) fun r hr=>.inr ⟨h,hr⟩
 ·exact pe_mono (either_no hA hB h hs) fun r hr=>.inl ⟨h,hr⟩
theorem trim_same {B:Bu} {r r':LV} (h:(¬ Vb B∧r = .agg [.int .i64 0, .nils, .nils])∨(Vb B∧∃ C s n,IsB r C s n∧TrimR B C)) (k:TrimA B r'):∃ (C:Bu) (s n s' n':LV),IsB r C s n∧IsB r' C s' n':=by
 rcases h with ⟨h1,rfl⟩ | ⟨h1,C,s,n,hC,hT⟩
 ·rcases k with ⟨k1,rfl⟩ | ⟨k1,k2⟩
  ·exact ⟨_,_,_,_,_,isB_nil,isB_nil⟩
  ·exact absurd k1 h1
 ·rcases k with ⟨k1,rfl⟩ | ⟨k1,s',n',hD⟩
  ·exact absurd h1 k1
  ·rw [← trim_unique2 hT (trimC_ok h1)] at hD
   exact ⟨_,_,_,_,_,hC,hD⟩
theorem chk_ldG {d i:Nat} {b:Bool} {n:Option Nat} {x:Opd} {p v:LV} {e:Env} {s:St} (hg:e.at i = .bool b) (hx:x.ev e=p) (hl:loadLV n p s=some v) (hd:e.at d=v):wantedG (some (i,b)) e=some false∨(wantedG (some (i,b)) e=some true∧(LOp.load n x).run e s=some (e.at d,s)) :=
 .inr ⟨wG hg,by
  rcases chk_ld hx hl hd with h | h
  ·simp [wantedG] at h
  ·exact h.2⟩
set_option maxHeartbeats 16000000 in
theorem lawBop:∀ lvs,HasArgs Tryz.prog 9 Tryz.f3.params.toList lvs→LawOkG Tryz.prog GL 3 lvs:=by
 intro lvs h
 rw [Tryz.params3] at h
 cases h with | cons a h=>
 cases h with | cons c h=>
 cases h with | cons p h=>
 cases h
 obtain ⟨A,sa,na,hA,-⟩:=argB a
 obtain ⟨B,sb,nb,hB,-⟩:=argB c
 obtain ⟨most,rfl,-⟩:=argZ p
 refine ⟨Tryz.f3,[],l3,Tryz.func3,by decide +kernel,c3,Nat.le_of_ble_eq_true rfl,CodeOk.mono (Q:=fun o e s=>(o = .normal∨o = .jmp .ret)∧e.at 6 = .bool true) (Cd.out ?_) fun o e s hh=>⟨hh.1,by simp [l3,resVal,resOne,hh.2]⟩⟩
 clear a c p
 have hcA:=hA.closed
 have hcB:=hB.closed
 have hfA:=rbfew_ok hA
 have hfB:=rbfew_ok hB
 have hvA:=bvalid_ok hA
 have hrA:=rbvalid_ok hA
 generalize decide (Vb A)=bv at *
 have hbo:=fun hsz=>pboth_all hA hB hsz (most:=most)
 have hro:=fun hsz=>rboth_ok hA hB hsz (most:=most)
 have hei:=fun hs=>eith_ok hA hB hs
 have hre:=fun hs=>reith_ok hA hB hs
 have htr:=ttrim_ok hA
 have hrt:=rtrim_ok hA
 obtain ⟨rfl,hsa,va,hna⟩:=hA
 obtain ⟨rfl,hsb,vb,hnb⟩:=hB
 have ca1:=hsa.sl.cell
 have ca2:=hna.sl.cell
 have cb1:=hsb.sl.cell
 have cb2:=hnb.sl.cell
 have e0:(envOf [LV.agg [.int .i64 A.L,sa,na], .agg [.int .i64 B.L,sb,nb], .int .i64 most]).at 0 = .agg [.int .i64 A.L,sa,na]:=by rw [envOf_at];rfl
 have e1:(envOf [LV.agg [.int .i64 A.L,sa,na], .agg [.int .i64 B.L,sb,nb], .int .i64 most]).at 1 = .agg [.int .i64 B.L,sb,nb]:=by rw [envOf_at];rfl
 have e2:(envOf [LV.agg [.int .i64 A.L,sa,na], .agg [.int .i64 B.L,sb,nb], .int .i64 most]).at 2 = .int .i64 most:=by rw [envOf_at];rfl
 generalize envOf [LV.agg [.int .i64 A.L,sa,na], .agg [.int .i64 B.L,sb,nb], .int .i64 most]=e at *
 unfold l3
 dsimp only [jA,jB,jC,jE,jG,qM,qN,qK,qO,qP,qG,qm]
 repeat' (first | refine gA trivial ?_ | (refine gB trivial ?_;intro bb hbb;cases bb<;>(try simp only [hbs,if_false,reduceCtorEq] at hbb)) | apply qc_seq | fail)
 refine q_pure hG0 (head_true) (by first | exact wN | (apply wG;(simp only [lk,Nat.reduceEqDiff,reduceIte,e0,e1,e2];(try rfl);done))) (by simp only [List.map,lk,Nat.reduceEqDiff,reduceIte,e0,e1,e2];try rfl) (by first | trivial | (simp only [Chks,wantedG,LOp.run,Env.put_some,Env.put_none,lk,sv1,sv2,sv3,Nat.reduceEqDiff,Nat.reduceAdd,Nat.reduceLeDiff,reduceIte,if_false,if_true,mkVal,unLV,List.map,optTmps,beq_self_eq_true,reduceCtorEq,false_or,true_and,and_true,Option.some.injEq, *];done)) ?_
 simp only [Env.put_some]
 repeat' (first | refine gA trivial ?_ | (refine gB trivial ?_;intro bb hbb;cases bb<;>(try simp only [hbs,if_false,reduceCtorEq] at hbb)) | apply qc_seq | fail)
 refine q_pureEx hG0 hfA wN (by simp only [List.map,lk,sv1,sv2,sv3,Nat.reduceEqDiff,Nat.reduceAdd,Nat.reduceLeDiff,reduceIte,if_false,if_true,mkVal,unLV,List.map,optTmps]) (fun r hr hrc=>⟨trivial,?_⟩)
 obtain ⟨b,rfl,hb⟩:=hr
 simp only [Env.put_some]
 cases b with
 | false=>
  repeat' (first | refine gA trivial ?_ | (refine gB trivial ?_;intro bb hbb;cases bb<;>(try simp only [hbs,if_false,reduceCtorEq] at hbb)) | apply qc_seq | fail)
  exact ⟨.inr trivial,ef⟩
 | true=>
 obtain ⟨fa1,fa2,fa3⟩:=hb rfl
 clear hb hrc hfA
 repeat' (first | refine gA trivial ?_ | (refine gB trivial ?_;intro bb hbb;cases bb<;>(try simp only [hbs,if_false,reduceCtorEq] at hbb)) | apply qc_seq | fail)
 refine q_pureEx hG0 hfB (wG ef) (by simp only [List.map,lk,sv1,sv2,sv3,Nat.reduceEqDiff,Nat.reduceAdd,Nat.reduceLeDiff,reduceIte,if_false,if_true,mkVal,unLV,List.map,optTmps]) (fun r hr hrc=>⟨trivial,?_⟩)
 obtain ⟨b,rfl,hb⟩:=hr
 simp only [Env.put_some]
 cases b with
 | false=>
  repeat' (first | refine gA trivial ?_ | (refine gB trivial ?_;intro bb hbb;cases bb<;>(try simp only [hbs,if_false,reduceCtorEq] at hbb)) | apply qc_seq | fail)
  exact ⟨.inr trivial,ef⟩
 | true=>
 obtain ⟨fb1,fb2,fb3⟩:=hb rfl
 clear hb hrc hfB
 have hsz:A.next.length*B.next.length*2≤3000:=by
  have:=Nat.mul_le_mul fa1 fb1
  omega
 replace hbo:=hbo hsz
 replace hro:=hro hsz
 replace hei:=hei (by omega)
 replace hre:=hre (by omega)
 repeat' (first | refine gA trivial ?_ | (refine gB trivial ?_;intro bb hbb;cases bb<;>(try simp only [hbs,if_false,reduceCtorEq] at hbb)) | apply qc_seq | fail)
 rotate_left
 ·exact ⟨.inr trivial,ef⟩
 refine q_pureEx hG0 hbo wN (by simp only [List.map,lk,sv1,sv2,sv3,Nat.reduceEqDiff,Nat.reduceAdd,Nat.reduceLeDiff,reduceIte,if_false,if_true,mkVal,unLV,List.map,optTmps]) (fun r hr hrc=>⟨trivial,?_⟩)
 obtain ⟨C,sc,nc,code,rfl,hC,hk⟩:=both_sh hr
 have hcC:=hC.closed
 have hC':=hC
 obtain ⟨-,hsc,vc,hnc⟩:=hC
 have cc1:=hsc.sl.cell
 have cc2:=hnc.sl.cell
 simp only [Env.put_some]
 clear hr hrc hbo
 repeat' (first | refine gA trivial ?_ | (refine gB trivial ?_;intro bb hbb;cases bb<;>(try simp only [hbs,if_false,reduceCtorEq] at hbb)) | apply qc_seq | fail)
 refine q_pureEx hG0 hro wN (by simp only [List.map,lk,sv1,sv2,sv3,Nat.reduceEqDiff,Nat.reduceAdd,Nat.reduceLeDiff,reduceIte,if_false,if_true,mkVal,unLV,List.map,optTmps]) (fun r hr hrc=>⟨trivial,?_⟩)
 obtain ⟨sd,nd,rfl,hD⟩:=hk _ hr
 have hcD:=hD.closed
 have hD':=hD
 obtain ⟨-,hsd,vd,hnd⟩:=hD
 have cd1:=hsd.sl.cell
 have cd2:=hnd.sl.cell
 have hsame:=same_ok hC' hD'
 rw [decide_eq_true rfl] at hsame
 simp only [Env.put_some]
 clear hr hrc hro hk
 repeat' (first | refine gA trivial ?_ | (refine gB trivial ?_;intro bb hbb;cases bb<;>(try simp only [hbs,if_false,reduceCtorEq] at hbb)) | apply qc_seq | fail)
 refine q_pure hG0 (hvA) (by first | exact wN | (apply wG;(simp only [lk,Nat.reduceEqDiff,reduceIte,e0,e1,e2];(try rfl);done))) (by simp only [List.map,lk,Nat.reduceEqDiff,reduceIte,e0,e1,e2];try rfl) (by first | trivial | (simp only [Chks,wantedG,LOp.run,Env.put_some,Env.put_none,lk,sv1,sv2,sv3,Nat.reduceEqDiff,Nat.reduceAdd,Nat.reduceLeDiff,reduceIte,if_false,if_true,mkVal,unLV,List.map,optTmps,beq_self_eq_true,reduceCtorEq,false_or,true_and,and_true,Option.some.injEq, *];done)) ?_
 simp only [Env.put_some]
 repeat' (first | refine gA trivial ?_ | (refine gB trivial ?_;intro bb hbb;cases bb<;>(try simp only [hbs,if_false,reduceCtorEq] at hbb)) | apply qc_seq | fail)
 refine q_pure hG0 (hrA) (by first | exact wN | (apply wG;(simp only [lk,Nat.reduceEqDiff,reduceIte,e0,e1,e2];(try rfl);done))) (by simp only [List.map,lk,Nat.reduceEqDiff,reduceIte,e0,e1,e2];try rfl) (by first | trivial | (simp only [Chks,wantedG,LOp.run,Env.put_some,Env.put_none,lk,sv1,sv2,sv3,Nat.reduceEqDiff,Nat.reduceAdd,Nat.reduceLeDiff,reduceIte,if_false,if_true,mkVal,unLV,List.map,optTmps,beq_self_eq_true,reduceCtorEq,false_or,true_and,and_true,Option.some.injEq, *];done)) ?_
 simp only [Env.put_some]
 repeat' (first | refine gA trivial ?_ | (refine gB trivial ?_;intro bb hbb;cases bb<;>(try simp only [hbs,if_false,reduceCtorEq] at hbb)) | apply qc_seq | fail)
 ·simp at hbb
 ·exact absurd rfl hbb
 clear hbb
 refine q_pure hG0 (hsame) (by first | exact wN | (apply wG;(simp only [lk,Nat.reduceEqDiff,reduceIte,e0,e1,e2];(try rfl);done))) (by simp only [List.map,lk,Nat.reduceEqDiff,reduceIte,e0,e1,e2];try rfl) (by first | trivial | (simp only [Chks,wantedG,LOp.run,Env.put_some,Env.put_none,lk,sv1,sv2,sv3,Nat.reduceEqDiff,Nat.reduceAdd,Nat.reduceLeDiff,reduceIte,if_false,if_true,mkVal,unLV,List.map,optTmps,beq_self_eq_true,reduceCtorEq,false_or,true_and,and_true,Option.some.injEq, *];done)) ?_
 simp only [Env.put_some]
 have hei2:=hei
 repeat' (first | refine gA trivial ?_ | (refine gB trivial ?_;intro bb hbb;cases bb<;>(try simp only [hbs,if_false,reduceCtorEq] at hbb)) | apply qc_seq | fail)
 refine q_pureEx hG0 hei (wG ef) (by simp only [List.map,lk,sv1,sv2,sv3,Nat.reduceEqDiff,Nat.reduceAdd,Nat.reduceLeDiff,reduceIte,if_false,if_true,mkVal,unLV,List.map,optTmps]) (fun r hr hrc=>?_)
 simp only [Env.put_some]
 refine ⟨⟨chk_ldG (p:=.pimm [.int .i64 A.L,sa,na] 0) (v:=.agg [.int .i64 A.L,sa,na]) ef ef rfl ef,chk_ldG (p:=.pimm [.int .i64 B.L,sb,nb] 0) (v:=.agg [.int .i64 B.L,sb,nb]) ef ef rfl ef,trivial⟩,?_⟩
 refine q_pureEx hG0 hre (wG ef) (by simp only [List.map,lk,sv1,sv2,sv3,Nat.reduceEqDiff,Nat.reduceAdd,Nat.reduceLeDiff,reduceIte,if_false,if_true,mkVal,unLV,List.map,optTmps]) (fun r2 hr2 hrc2=>⟨trivial,?_⟩)
 simp only [Env.put_some]
 obtain ⟨E,s1,n1,s2,n2,hE1,hE2⟩:=eith_sh hr hr2
 have hse:=same_ok hE1 hE2
 rw [decide_eq_true rfl] at hse
 clear hei hre hr hr2 hei2
 refine q_pure hG0 (hse) (by first | exact wN | (apply wG;(simp only [lk,Nat.reduceEqDiff,reduceIte,e0,e1,e2];(try rfl);done))) (by simp only [List.map,lk,Nat.reduceEqDiff,reduceIte,e0,e1,e2];try rfl) (by first | trivial | (simp only [Chks,wantedG,LOp.run,Env.put_some,Env.put_none,lk,sv1,sv2,sv3,Nat.reduceEqDiff,Nat.reduceAdd,Nat.reduceLeDiff,reduceIte,if_false,if_true,mkVal,unLV,List.map,optTmps,beq_self_eq_true,reduceCtorEq,false_or,true_and,and_true,Option.some.injEq, *];done)) ?_
 simp only [Env.put_some]
 repeat' (first | refine gA trivial ?_ | (refine gB trivial ?_;intro bb hbb;cases bb<;>(try simp only [hbs,if_false,reduceCtorEq] at hbb)) | apply qc_seq | fail)
 refine q_pureEx hG0 htr (wG ef) (by simp only [List.map,lk,sv1,sv2,sv3,Nat.reduceEqDiff,Nat.reduceAdd,Nat.reduceLeDiff,reduceIte,if_false,if_true,mkVal,unLV,List.map,optTmps]) (fun r3 hr3 hrc3=>?_)
 simp only [Env.put_some]
 refine ⟨⟨chk_ldG (p:=.pimm [.int .i64 A.L,sa,na] 0) (v:=.agg [.int .i64 A.L,sa,na]) ef ef rfl ef,trivial⟩,?_⟩
 refine q_pureEx hG0 hrt (wG ef) (by simp only [List.map,lk,sv1,sv2,sv3,Nat.reduceEqDiff,Nat.reduceAdd,Nat.reduceLeDiff,reduceIte,if_false,if_true,mkVal,unLV,List.map,optTmps]) (fun r4 hr4 hrc4=>⟨trivial,?_⟩)
 simp only [Env.put_some]
 obtain ⟨E',s3,n3,s4,n4,hE3,hE4⟩:=trim_same hr3 hr4
 have hst:=same_ok hE3 hE4
 rw [decide_eq_true rfl] at hst
 clear htr hrt hr3 hr4
 refine q_pure hG0 (hst) (by first | exact wN | (apply wG;(simp only [lk,Nat.reduceEqDiff,reduceIte,e0,e1,e2];(try rfl);done))) (by simp only [List.map,lk,Nat.reduceEqDiff,reduceIte,e0,e1,e2];try rfl) (by first | trivial | (simp only [Chks,wantedG,LOp.run,Env.put_some,Env.put_none,lk,sv1,sv2,sv3,Nat.reduceEqDiff,Nat.reduceAdd,Nat.reduceLeDiff,reduceIte,if_false,if_true,mkVal,unLV,List.map,optTmps,beq_self_eq_true,reduceCtorEq,false_or,true_and,and_true,Option.some.injEq, *];done)) ?_
 simp only [Env.put_some]
 repeat' (first | refine gA trivial ?_ | (refine gB trivial ?_;intro bb hbb;cases bb<;>(try simp only [hbs,if_false,reduceCtorEq] at hbb)) | apply qc_seq | fail)
 exact ⟨.inr trivial,ef⟩
end Go.Proofs.YtgobbogomchnhaaGreatDoor
