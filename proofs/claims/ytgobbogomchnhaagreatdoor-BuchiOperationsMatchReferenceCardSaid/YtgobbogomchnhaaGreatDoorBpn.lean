/- The document's pairTurn and pairNumber. -/
import Derived.Test.YtgobbogomchnhaaGreatDoorBinsert
import Derived.Test.YtgobbogomchnhaaGreatDoorPboth
set_option linter.unusedSimpArgs false
set_option linter.unusedVariables false
namespace Go.Proofs.YtgobbogomchnhaaGreatDoor
open Go Go.Pv Go.Bfs
open Classical
theorem pairTurn_ok {t:Nat} (ht:t<2) (a b:Bool):PE 30 [.int .i64 (t:Int), .bool a, .bool b] (fun r=>r = .tup [.int .i64 ((tn t a b % 2:Nat):Int), .bool (decide (tn t a b=2))]):=by
 refine q_fnExR Tryz.func30 (by decide +kernel) c30 (Nat.le_of_ble_eq_true rfl) (by simp [LV.closed.closedAll,LV.closed]) ?_
 have e0:(envOf [LV.int .i64 (t:Int), .bool a, .bool b]).at 0 = .int .i64 (t:Int):=by rw [envOf_at];rfl
 have e1:(envOf [LV.int .i64 (t:Int), .bool a, .bool b]).at 1 = .bool a:=by rw [envOf_at];rfl
 have e2:(envOf [LV.int .i64 (t:Int), .bool a, .bool b]).at 2 = .bool b:=by rw [envOf_at];rfl
 generalize envOf [LV.int .i64 (t:Int), .bool a, .bool b]=e at *
 unfold l30
 dsimp only [jA,jD,qM,qC,qK,qm]
 have h':t=0∨t=1:=by omega
 rcases h' with rfl | rfl<;>cases a<;>cases b
 all_goals
  repeat' (first | refine gA trivial ?_ | (refine gB trivial ?_;intro bb hbb;cases bb<;>(try simp only [hbs,if_false,reduceCtorEq] at hbb)) | apply qc_seq | fail)
  all_goals first
   | (exfalso;omega)
   | (exfalso;simp at hbb;done)
   | exact ⟨.inr trivial,_,by simp [resVal,resOne,lk];rfl,_,_,frzD_closed rfl,rfl,by simp [tn]⟩
theorem peq_is (m p q:Nat):eqLV (.struct [(0,(1, .int)),(1,(1, .int)),(2,(1, .int))]) (.agg (pc3 m p)) (.agg (pc3 m q))=some (decide (p=q)):=by
 by_cases h:p=q
 ·subst h
  simp [pc3,eqLV,eqLV.eqFields,scEq]
 ·rw [decide_eq_false h]
  by_cases h1:px m p=px m q
  ·by_cases h2:py m p=py m q
   ·by_cases h3:pt p=pt q
    ·exact absurd (p_inj h1 h2 h3) h
    ·have e:(pt p == pt q)=false:=by simpa using h3
     simp [pc3,eqLV,eqLV.eqFields,scEq,h1,h2,e]
   ·have e:(py m p == py m q)=false:=by simpa using h2
    simp [pc3,eqLV,eqLV.eqFields,scEq,h1,e]
  ·have e:(px m p == px m q)=false:=by simpa using h1
   simp [pc3,eqLV,eqLV.eqFields,scEq,e]
theorem idx_first {p:Nat} : ∀ {l:List Nat} {i b:Nat},(∀ k,k<i→l[k]? ≠ some p)→l[i]? = some p→idx p l b=some (b+i):=by
 intro l
 induction l with
 | nil=>intro i b _ h;simp at h
 | cons q r ih=>
  intro i b hno h
  cases i with
  | zero=>
   have:q=p:=by simpa using h
   simp [idx,this]
  | succ i=>
   have hq:¬ p=q:=fun e=>hno 0 (by omega) (by simp [e])
   simp only [idx,hq,if_false]
   rw [ih (i:=i) (b:=b+1) (fun k hk=>by have:=hno (k+1) (by omega);simpa using this) (by simpa using h)]
   congr 1;omega
theorem numN_first {ps:List Nat} {p i:Nat} (hno:∀ k,k<i→ps[k]? ≠ some p) (h:ps[i]? = some p):numN (addN ps p) p=i:=by
 have hm:p∈ps:=List.mem_of_getElem? h
 have e:addN ps p=ps:=by unfold addN;rw [if_pos hm]
 rw [e,numN,idx_first hno h];simp
theorem numN_new {ps:List Nat} {p:Nat} (h:p ∉ ps):addN ps p=ps++[p]∧numN (addN ps p) p=ps.length:=by
 have e:addN ps p=ps++[p]:=by unfold addN;rw [if_neg h]
 refine ⟨e,?_⟩
 rw [e,numN,idx_first (i:=ps.length) (fun k hk hh=>?_) (by simp)]
 ·simp
 ·rw [List.getElem?_append_left hk] at hh
  exact h (List.mem_of_getElem? hh)
set_option maxHeartbeats 8000000 in
theorem pairNumber_call {s0:St} {lv:LV} {m:Nat} {ps:List Nat} (hS:SkE s0 lv 3 (tcells3 m ps) ps.length) (hp:ps.length≤100000) (p:Nat) :
  CallOk Tryz.prog GL (.fn (.func 31) [] []) [lv, .agg (pc3 m p)] s0 (fun r s'=>∃ v',r = .tup [v', .int .i64 (numN (addN ps p) p:Int)]∧SkE s' v' 3 (tcells3 m (addN ps p)) (addN ps p).length∧s0.n≤s'.n∧(∀ id,uses v' id→uses lv id∨s0.n≤id)∧∀ id,id<s0.n→¬ uses lv id→s'.get id=s0.get id):=by
 refine call_fn (first:=[]) (caps:=[]) Tryz.func31 (by decide +kernel) c31 (Nat.le_of_ble_eq_true rfl) (CodeOk.mono (Q:=fun o e s'=>(o = .normal∨o = .jmp .ret)∧∃ v',e.at 4=v'∧e.at 5 = .int .i64 (numN (addN ps p) p:Int)∧SkE s' v' 3 (tcells3 m (addN ps p)) (addN ps p).length∧s0.n≤s'.n∧(∀ id,uses v' id→uses lv id∨s0.n≤id)∧∀ id,id<s0.n→¬ uses lv id→s'.get id=s0.get id) ?_ fun o e s' hh=>by
  obtain ⟨h1,v',h2,h3,h4⟩:=hh
  exact ⟨h1, .tup [v', .int .i64 (numN (addN ps p) p:Int)],by simp [l31,resVal,resOne,h2,h3],v',rfl,h4⟩)
 have e0:(envOf ([]++[lv,LV.agg (pc3 m p)]++[])).at 0=lv:=by rw [envOf_at];rfl
 have e1:(envOf ([]++[lv,LV.agg (pc3 m p)]++[])).at 1 = .agg (pc3 m p):=by rw [envOf_at];rfl
 generalize envOf ([]++[lv,LV.agg (pc3 m p)]++[])=e at *
 have hvc:(LV.agg (pc3 m p)).closed=true:=rfl
 have hll:slLen lv=some ps.length:=by
  obtain ⟨_,⟨rfl,h0⟩ | ⟨j,rfl,_⟩⟩:=hS
  ·rw [h0];rfl
  ·rfl
 obtain ⟨z,hz⟩:∃ z:Nat,z=0:=⟨0,rfl⟩
 refine Cd.out ?_
 unfold l31
 dsimp only [jA,jB,qM,qN,qS,qI,qA,qB,qC,qO,qm]
 repeat' (first | refine gA trivial ?_ | (refine gB trivial ?_;intro bb hbb;cases bb<;>(try simp only [hbs,if_false,reduceCtorEq] at hbb)) | apply qc_seq | fail)
 refine qc_loop (fun q e s=>∃ (i:Nat),q=ps.length - i∧i≤ps.length∧s=s0∧(∀ k,k<i→ps[k]? ≠ some p)∧e.at 0=lv∧e.at 3 = .pimm (pc3 m p) 0∧e.at 6 = .int .i64 (i:Int)) _
  ⟨0,rfl,by omega,rfl,fun k hk=>absurd hk (Nat.not_lt_zero _),ef,ef,by simp only [lk,sv1,sv2,sv3,Nat.reduceEqDiff,Nat.reduceAdd,Nat.reduceLeDiff,reduceIte,if_false,if_true,mkVal,unLV,List.map,optTmps];rfl⟩ ?_
 clear e0 e1
 clear e
 rintro q e s ⟨i,rfl,hi,rfl,hno,e0,e3,e6⟩
 by_cases hil:i<ps.length
 ·have hiI:(i:Int)<(ps.length:Int):=by omega
  have hwi:IntKind.i64.wrap ((i:Int)+1)=((i+1:Nat):Int):=by rw [wrap_i64 _ (by omega) (by omega)];rfl
  obtain ⟨r,hr⟩:∃ r,ps[i]? = some r:=⟨_,List.getElem?_eq_getElem hil⟩
  have hq:=peq_is m r p
  obtain ⟨j,hlv,hj,hg⟩:∃ j,lv = .sref j 0 ps.length 3∧j<s.n∧s.get j=some (.cells .mut (tcells3 m ps)):=by
   obtain ⟨_,⟨_,h0⟩ | ⟨j,h1,h2,h3⟩⟩:=id hS
   ·omega
   ·exact ⟨j,h1,h2,h3⟩
  have hld:=loadN_pairsR hr hg
  subst hlv
  repeat' (first | refine gA (And.intro @hll (And.intro @iaS (And.intro @hld @hq))) ?_ | (refine gB (And.intro @hll (And.intro @iaS (And.intro @hld @hq))) ?_;intro bb hbb;cases bb<;>(try simp only [hbs,if_false,reduceCtorEq] at hbb)) | apply qc_seq | fail)
  ·exfalso;omega
  ·have hne:¬ r=p:=by assumption
   refine ⟨ps.length - (i+1),by omega,i+1,rfl,by omega,by first | trivial | rfl,fun k hk=>?_,?_⟩
   ·by_cases h:k<i
    ·exact hno k h
    ·obtain rfl:k=i:=by omega
     rw [hr]
     intro h
     exact hne (Option.some.inj h)
   ·simp only [lk,sv1,sv2,sv3,Nat.reduceEqDiff,Nat.reduceAdd,Nat.reduceLeDiff,reduceIte,if_false,if_true,mkVal,unLV,List.map,optTmps,hwi,e0,e3,and_self]
  ·have hrp:r=p:=by simpa using hbb
   rw [hrp] at hr
   have hnum:=numN_first hno hr
   have hadd:addN ps p=ps:=by unfold addN;rw [if_pos (List.mem_of_getElem? hr)]
   rw [hnum,hadd]
   exact ⟨.inr trivial, .sref j 0 ps.length 3,ef,ef,hS,Nat.le_refl _,fun id h=>.inl h,fun id _ _=>by first | trivial | rfl⟩
 ·have hnm:p ∉ ps:=fun hm=>by
   obtain ⟨k,hk⟩:=List.mem_iff_getElem?.1 hm
   have hkl:=(List.getElem?_eq_some_iff.1 hk).1
   exact hno k (by omega) hk
  obtain ⟨hadd,hnum⟩:=numN_new hnm
  rw [hnum,hadd]
  repeat' (first | refine gA @hll ?_ | (refine gB @hll ?_;intro bb hbb;cases bb<;>(try simp only [hbs,if_false,reduceCtorEq] at hbb)) | apply qc_seq | fail)
  ·refine q_appE (n:=ps.length) (esz:=3) (xv:=.agg (pc3 m p)) (yv:=lv) (vs:=pc3 m p) (cells:=tcells3 m ps) ef rfl rfl rfl rfl ef hS (by decide) (by omega) (fun s3 j3 a1 a2 a3 a4=>?_)
   repeat' (first | refine gA @hll ?_ | (refine gB @hll ?_;intro bb hbb;cases bb<;>(try simp only [hbs,if_false,reduceCtorEq] at hbb)) | apply qc_seq | fail)
   refine ⟨.inr trivial, .sref j3 0 (ps.length+1) 3,ef,ef,?_,a3,fun id hu=>.inr (by have:=uses_sref.1 hu;omega),a4⟩
   rw [tcells3_append,List.length_append]
   exact SkC.e (by simpa [tcells3] using a2)
  ·exfalso;omega
end Go.Proofs.YtgobbogomchnhaaGreatDoor
