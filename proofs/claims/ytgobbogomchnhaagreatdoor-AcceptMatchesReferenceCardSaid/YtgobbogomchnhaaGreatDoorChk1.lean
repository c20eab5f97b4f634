/- accept.Check's small functions: element, divisor, slices.Index and slices.Contains. -/
import Derived.Test.YtgobbogomchnhaaGreatDoorRemn
import Derived.Test.YtgobbogomchnhaaGreatDoorLita
import Derived.Test.YtgobbogomchnhaaGreatDoorSufp
import Derived.Test.YtgobbogomchnhaaGreatDoorChkl
set_option linter.unusedSimpArgs false
set_option linter.unusedVariables false
section
set_option linter.unusedSimpArgs false
set_option linter.unusedVariables false
namespace Go.Proofs.YtgobbogomchnhaaGreatDoor
open Go Go.Pv
open Classical
theorem elem_ok {pv qv:LV} {P Q:List Int} (hP:IsInts pv P) (hQ:IsInts qv Q) (h1:1≤Q.length) {i:Nat} (hi:i≤100000000) (hpl:P.length≤100000000) (hql:Q.length≤100000000):PO 61 [pv,qv, .int .i64 (i:Int)] (.int .i64 (lett P Q i)):=by
 have hc1:=hP.sl.cell
 have hc2:=hQ.sl.cell
 have hPl:=hP.sl.len
 have hQl:=hQ.sl.len
 refine q_fn (t:=6) hm Tryz.func61 (by decide +kernel) c61 (Nat.le_of_ble_eq_true rfl) (by simp [LV.closed.closedAll,hP.closed,hQ.closed];rfl) rfl rfl ?_
 have e0:(envOf [pv,qv, .int .i64 (i:Int)]).at 0=pv:=by rw [envOf_at];rfl
 have e1:(envOf [pv,qv, .int .i64 (i:Int)]).at 1=qv:=by rw [envOf_at];rfl
 have e2:(envOf [pv,qv, .int .i64 (i:Int)]).at 2 = .int .i64 (i:Int):=by rw [envOf_at];rfl
 generalize envOf [pv,qv, .int .i64 (i:Int)]=e at *
 unfold l61
 dsimp only [jA,qS,qI,qB,qC,qm,ql]
 by_cases hil:i<P.length
 ·have hiI:(i:Int)<(P.length:Int):=by omega
  repeat' (first | refine gA (And.intro @hPl (And.intro (@iaN _ _ _ hP.sl) @ints_get)) ?_ | (refine gB (And.intro @hPl (And.intro (@iaN _ _ _ hP.sl) @ints_get)) ?_;intro bb hbb;cases bb<;>(try simp only [hbs,if_false,reduceCtorEq] at hbb)) | apply qc_seq | fail)
  all_goals first
   | (exfalso;omega)
   | skip
  refine ⟨.inr trivial,?_⟩
  simp only [lk,sv1,sv2,sv3,Nat.reduceEqDiff,Nat.reduceAdd,Nat.reduceLeDiff,reduceIte,if_false,if_true,mkVal,unLV,List.map,optTmps,lett,if_pos hil]
 ·have hw:IntKind.i64.wrap ((i:Int) - (P.length:Int))=((i - P.length:Nat):Int):=by rw [wrap_i64 _ (by omega) (by omega)];omega
  have hrem:=rem_nat (i - P.length) (m:=Q.length) (by omega)
  have hlt:(i - P.length) % Q.length<Q.length:=Nat.mod_lt _ (by omega)
  have hiI:(((i - P.length) % Q.length:Nat):Int)<(Q.length:Int):=by omega
  have hlett:lett P Q i=Q.getD ((i - P.length) % Q.length) 0:=by simp only [lett,if_neg hil]
  rw [hlett]
  generalize (i - P.length) % Q.length=k at *
  repeat' (first | refine gA (And.intro @hPl (And.intro @hQl (And.intro @hw (And.intro @hrem (And.intro (@iaN _ _ _ hQ.sl) @ints_get))))) ?_ | (refine gB (And.intro @hPl (And.intro @hQl (And.intro @hw (And.intro @hrem (And.intro (@iaN _ _ _ hQ.sl) @ints_get))))) ?_;intro bb hbb;cases bb<;>(try simp only [hbs,if_false,reduceCtorEq] at hbb)) | apply qc_seq | fail)
  all_goals first
   | (exfalso;omega)
   | skip
  refine ⟨.inr trivial,?_⟩
  simp only [lk,sv1,sv2,sv3,Nat.reduceEqDiff,Nat.reduceAdd,Nat.reduceLeDiff,reduceIte,if_false,if_true,mkVal,unLV,List.map,optTmps]
theorem div_ok {a b:Nat} (ha:a≤100000000) (hb:b≤100000000):PO 63 [.int .i64 (a:Int), .int .i64 (b:Int)] (.int .i64 (Nat.gcd a b:Int)):=by
 refine q_fn (t:=4) hm Tryz.func63 (by decide +kernel) c63 (Nat.le_of_ble_eq_true rfl) rfl rfl rfl ?_
 have e0:(envOf [LV.int .i64 (a:Int), .int .i64 (b:Int)]).at 0 = .int .i64 (a:Int):=by rw [envOf_at];rfl
 have e1:(envOf [LV.int .i64 (a:Int), .int .i64 (b:Int)]).at 1 = .int .i64 (b:Int):=by rw [envOf_at];rfl
 generalize envOf [LV.int .i64 (a:Int), .int .i64 (b:Int)]=e at *
 unfold l63
 dsimp only [jA,jB,qM,qC,qm]
 repeat' (first | refine gA trivial ?_ | (refine gB trivial ?_;intro bb hbb;cases bb<;>(try simp only [hbs,if_false,reduceCtorEq] at hbb)) | apply qc_seq | fail)
 refine qc_loop (fun m e s=>∃ x y:Nat,m=y∧x≤100000000∧y≤100000000∧Nat.gcd x y=Nat.gcd a b∧e.at 0 = .int .i64 (x:Int)∧e.at 1 = .int .i64 (y:Int)) _ ⟨a,b,rfl,ha,hb,rfl,ef,ef⟩ ?_
 clear e0 e1
 clear e
 rintro m e s ⟨x,y,rfl,hx,hy,hg,e0,e1⟩
 by_cases hy0:0<m
 ·have hrem:=rem_nat x (m:=m) hy0
  have hlt:x % m<m:=Nat.mod_lt _ hy0
  have hg2:Nat.gcd m (x % m)=Nat.gcd a b:=by rw [← hg,Nat.gcd_comm x m,Nat.gcd_rec m x,Nat.gcd_comm]
  generalize x % m=r at *
  repeat' (first | refine gA @hrem ?_ | (refine gB @hrem ?_;intro bb hbb;cases bb<;>(try simp only [hbs,if_false,reduceCtorEq] at hbb)) | apply qc_seq | fail)
  all_goals first
   | (exfalso;omega)
   | skip
  refine ⟨r,hlt,m,r,rfl,hy,by omega,hg2,?_⟩
  simp only [lk,sv1,sv2,sv3,Nat.reduceEqDiff,Nat.reduceAdd,Nat.reduceLeDiff,reduceIte,if_false,if_true,mkVal,unLV,List.map,optTmps,and_self]
 ·obtain rfl:m=0:=by omega
  rw [Nat.gcd_zero_right] at hg
  repeat' (first | refine gA trivial ?_ | (refine gB trivial ?_;intro bb hbb;cases bb<;>(try simp only [hbs,if_false,reduceCtorEq] at hbb)) | apply qc_seq | fail)
  all_goals first
   | (exfalso;omega)
   | skip
  refine ⟨.inr trivial,?_⟩
  simp only [lk,sv1,sv2,sv3,Nat.reduceEqDiff,Nat.reduceAdd,Nat.reduceLeDiff,reduceIte,if_false,if_true,mkVal,unLV,List.map,optTmps,e0,hg]
theorem index_ok {v:LV} {l:List Int} (hv:IsInts v l) (z:Int):PE 95 [v, .int .i64 z] (fun r=>∃ k:Int,r = .int .i64 k∧(0≤k↔z∈l)):=by
  have hc1:=hv.sl.cell
  have hvl:=hv.sl.len
  refine q_fnEx (t:=4) hm Tryz.func95 (by decide +kernel) c95 (Nat.le_of_ble_eq_true rfl) (by simp [LV.closed.closedAll,hv.closed];rfl) rfl ?_
  have e0:(envOf [v, .int .i64 z]).at 0=v:=by rw [envOf_at];rfl
  have e1:(envOf [v, .int .i64 z]).at 1 = .int .i64 z:=by rw [envOf_at];rfl
  generalize envOf [v, .int .i64 z]=e at *
  unfold l95
  dsimp only [jA,qS,qI,qA,qB,qC,qm,ql]
  repeat' (first | refine gA @hvl ?_ | (refine gB @hvl ?_;intro bb hbb;cases bb<;>(try simp only [hbs,if_false,reduceCtorEq] at hbb)) | apply qc_seq | fail)
  refine qc_loop (fun m e s=>∃ i:Nat,m=l.length - i∧i≤l.length∧(∀ j,j<i→l.getD j 0≠z)∧e.at 0=v∧e.at 1 = .int .i64 z∧e.at 7 = .int .i64 (l.length:Int)∧e.at 8 = .int .i64 (i:Int)) _ ⟨0,rfl,by omega,fun j hj=>absurd hj (Nat.not_lt_zero _),ef,ef,ef,by simp only [lk,sv1,sv2,sv3,Nat.reduceEqDiff,Nat.reduceAdd,Nat.reduceLeDiff,reduceIte,if_false,if_true,mkVal,unLV,List.map,optTmps];rfl⟩ ?_
  clear e0 e1
  clear e
  rintro m e s ⟨i,rfl,hi,hno,e0,e1,e7,e8⟩
  by_cases hil:i<l.length
  · have hiI:(i:Int)<(l.length:Int):=by omega
    have hw:=wrap_succ hiI hv.len
    repeat' (first | refine gA (And.intro (@iaN _ _ _ hv.sl) @ints_get) ?_ | (refine gB (And.intro (@iaN _ _ _ hv.sl) @ints_get) ?_;intro bb hbb;cases bb<;>(try simp only [hbs,if_false,reduceCtorEq] at hbb)) | apply qc_seq | fail)
    all_goals first
      | (exfalso;omega)
      | (refine ⟨.inr trivial, .int .i64 (i:Int),_,by simp only [lk,sv1,sv2,sv3,Nat.reduceEqDiff,Nat.reduceAdd,Nat.reduceLeDiff,reduceIte,if_false,if_true,mkVal,unLV,List.map,optTmps];exact frzD_closed rfl,rfl,(i:Int),rfl,⟨fun _=>?_,fun _=>by omega⟩⟩
         have h9:l.getD i 0=z:=by omega
         rw [← h9]
         exact List.getD_mem hil)
      | skip
    refine ⟨l.length - (i+1),by omega,i+1,rfl,by omega,fun j hj=>?_,?_⟩
    · rcases Nat.lt_succ_iff_lt_or_eq.1 hj with h | rfl
      · exact hno j h
      · omega
    · simp only [lk,sv1,sv2,sv3,Nat.reduceEqDiff,Nat.reduceAdd,Nat.reduceLeDiff,reduceIte,if_false,if_true,mkVal,unLV,List.map,optTmps,hw,e0,e1,e7,and_self]
  · obtain rfl:i=l.length:=by omega
    repeat' (first | refine gA trivial ?_ | (refine gB trivial ?_;intro bb hbb;cases bb<;>(try simp only [hbs,if_false,reduceCtorEq] at hbb)) | apply qc_seq | fail)
    all_goals first
      | (exfalso;omega)
      | skip
    refine ⟨.inr trivial, .int .i64 (-1),_,by simp only [lk,sv1,sv2,sv3,Nat.reduceEqDiff,Nat.reduceAdd,Nat.reduceLeDiff,reduceIte,if_false,if_true,mkVal,unLV,List.map,optTmps];exact frzD_closed rfl,rfl,-1,rfl,⟨fun h=>absurd h (by decide),fun hz=>?_⟩⟩
    obtain ⟨j,hj⟩:=List.mem_iff_getElem?.1 hz
    have h1:=(List.getElem?_eq_some_iff.1 hj).1
    refine absurd ?_ (hno j h1)
    rw [List.getD_eq_getElem?_getD,hj];rfl
theorem contains_ok {v:LV} {l:List Int} (hv:IsInts v l) (z:Int):PO 62 [v, .int .i64 z] (.bool (decide (z∈l))):=by
 have hc1:=hv.sl.cell
 have hix:=index_ok hv z
 refine q_fn (t:=4) hm Tryz.func62 (by decide +kernel) c62 (Nat.le_of_ble_eq_true rfl) (by simp [LV.closed.closedAll,hv.closed];rfl) rfl rfl ?_
 have e0:(envOf [v, .int .i64 z]).at 0=v:=by rw [envOf_at];rfl
 have e1:(envOf [v, .int .i64 z]).at 1 = .int .i64 z:=by rw [envOf_at];rfl
 generalize envOf [v, .int .i64 z]=e at *
 unfold l62
 dsimp only [jA,qK,qm]
 repeat' (first | refine gA trivial ?_ | (refine gB trivial ?_;intro bb hbb;cases bb<;>(try simp only [hbs,if_false,reduceCtorEq] at hbb)) | apply qc_seq | fail)
 refine q_pureEx hG0 hix wN (by simp only [List.map,lk,sv1,sv2,sv3,Nat.reduceEqDiff,Nat.reduceAdd,Nat.reduceLeDiff,reduceIte,if_false,if_true,mkVal,unLV,List.map,optTmps]) (fun r hr hrc=>⟨trivial,?_⟩)
 obtain ⟨k,rfl,hk⟩:=hr
 simp only [Env.put_some]
 repeat' (first | refine gA trivial ?_ | (refine gB trivial ?_;intro bb hbb;cases bb<;>(try simp only [hbs,if_false,reduceCtorEq] at hbb)) | apply qc_seq | fail)
 all_goals
  refine ⟨.inr trivial,?_⟩
  simp only [lk,sv1,sv2,sv3,Nat.reduceEqDiff,Nat.reduceAdd,Nat.reduceLeDiff,reduceIte,if_false,if_true,mkVal,unLV,List.map,optTmps]
  first
   | exact bool_t (hk.1 (by omega))
   | exact bool_f fun h=>absurd (hk.2 h) (by omega)
end Go.Proofs.YtgobbogomchnhaaGreatDoor
end
section
set_option linter.unusedSimpArgs false
set_option linter.unusedVariables false
namespace Go.Proofs.YtgobbogomchnhaaGreatDoor
open Go Go.Pv
open Classical
theorem meq_is (a b:Int × Bool):eqLV (.struct [(0,(1, .int)),(1,(1, .bool))]) (.agg [.int .i64 a.1, .bool a.2]) (.agg [.int .i64 b.1, .bool b.2])=some (decide (a=b)):=by
 obtain ⟨x,g⟩:=a
 obtain ⟨y,h⟩:=b
 by_cases h1:x=y
 ·subst h1
  by_cases h2:g=h
  ·subst h2
   simp [eqLV,eqLV.eqFields,scEq]
  ·have e:¬ ((x,g)=(x,h)):=fun hh=>h2 (Prod.mk.inj hh).2
   rw [decide_eq_false e]
   have e2:(g == h)=false:=by simpa using h2
   simp [eqLV,eqLV.eqFields,scEq,e2]
 ·have e:¬ ((x,g)=(y,h)):=fun hh=>h1 (Prod.mk.inj hh).1
  rw [decide_eq_false e]
  have e2:(x == y)=false:=by simpa using h1
  simp [eqLV,eqLV.eqFields,scEq,e2]
theorem indexM_ok {v:LV} {ms:Moves} (hv:IsMoves v ms) (z:Int × Bool):PE 96 [v, .agg [.int .i64 z.1, .bool z.2]] (fun r=>∃ k:Int,r = .int .i64 k∧(0≤k↔z∈ms)):=by
 have hc1:=hv.sl.cell
 have hvl:=hv.sl.len
 have hvn:=hv.len
 refine q_fnEx (t:=4) hm Tryz.func96 (by decide +kernel) c96 (Nat.le_of_ble_eq_true rfl) (by simp [LV.closed.closedAll,LV.closed,hv.closed]) rfl ?_
 have e0:(envOf [v, .agg [.int .i64 z.1, .bool z.2]]).at 0=v:=by rw [envOf_at];rfl
 have e1:(envOf [v, .agg [.int .i64 z.1, .bool z.2]]).at 1 = .agg [.int .i64 z.1, .bool z.2]:=by rw [envOf_at];rfl
 generalize envOf [v, .agg [.int .i64 z.1, .bool z.2]]=e at *
 unfold l96
 dsimp only [jA,jB,qM,qN,qS,qI,qA,qB,qC,qO,qm]
 have hmx:maxLen=9223372036854775807:=by decide
 repeat' (first | refine gA @hvl ?_ | (refine gB @hvl ?_;intro bb hbb;cases bb<;>(try simp only [hbs,if_false,reduceCtorEq] at hbb)) | apply qc_seq | fail)
 refine qc_loop (fun m e s=>∃ i:Nat,m=ms.length - i∧i≤ms.length∧(∀ j,j<i→ms.getD j (0,false)≠z)∧e.at 0=v∧e.at 3 = .pimm [.int .i64 z.1, .bool z.2] 0∧e.at 7 = .int .i64 (ms.length:Int)∧e.at 8 = .int .i64 (i:Int)) _ ⟨0,rfl,by omega,fun j hj=>absurd hj (Nat.not_lt_zero _),ef,ef,ef,by simp only [lk,sv1,sv2,sv3,Nat.reduceEqDiff,Nat.reduceAdd,Nat.reduceLeDiff,reduceIte,if_false,if_true,mkVal,unLV,List.map,optTmps];rfl⟩ ?_
 clear e0 e1
 clear e
 rintro m e s ⟨i,rfl,hi,hno,e0,e3,e7,e8⟩
 by_cases hil:i<ms.length
 ·have hiI:(i:Int)<(ms.length:Int):=by omega
  have hw:IntKind.i64.wrap ((i:Int)+1)=((i+1:Nat):Int):=by rw [wrap_i64 _ (by omega) (by omega)];rfl
  have hld:=fun s=>loadN_moves (s:=s) hil
  have hiaM:=fun s=>iaN hv.sl (esz:=2) (k:=.i64) (s:=s) hiI
  have heq:=meq_is z (ms.getD i (0,false))
  generalize hgi:ms.getD i (0,false)=x at *
  repeat' (first | refine gA (And.intro @hiaM (And.intro @hld @heq)) ?_ | (refine gB (And.intro @hiaM (And.intro @hld @heq)) ?_;intro bb hbb;cases bb<;>(try simp only [hbs,if_false,reduceCtorEq] at hbb)) | apply qc_seq | fail)
  all_goals first
   | (exfalso;omega)
   | skip
  ·have hne:¬ z=x:=by assumption
   refine ⟨ms.length - (i+1),by omega,i+1,rfl,by omega,fun j hj=>?_,?_⟩
   ·rcases Nat.lt_succ_iff_lt_or_eq.1 hj with h | rfl
    ·exact hno j h
    ·rw [hgi];exact fun h=>hne h.symm
   ·simp only [lk,sv1,sv2,sv3,Nat.reduceEqDiff,Nat.reduceAdd,Nat.reduceLeDiff,reduceIte,if_false,if_true,mkVal,unLV,List.map,optTmps,hw,e0,e3,e7,and_self]
  ·have hzx:z=x:=by assumption
   refine ⟨.inr trivial, .int .i64 (i:Int),_,by simp only [lk,sv1,sv2,sv3,Nat.reduceEqDiff,Nat.reduceAdd,Nat.reduceLeDiff,reduceIte,if_false,if_true,mkVal,unLV,List.map,optTmps];exact frzD_closed rfl,rfl,(i:Int),rfl,⟨fun _=>?_,fun _=>by omega⟩⟩
   rw [hzx,← hgi]
   exact getD_in hil
 ·obtain rfl:i=ms.length:=by omega
  repeat' (first | refine gA trivial ?_ | (refine gB trivial ?_;intro bb hbb;cases bb<;>(try simp only [hbs,if_false,reduceCtorEq] at hbb)) | apply qc_seq | fail)
  all_goals first
   | (exfalso;omega)
   | skip
  refine ⟨.inr trivial, .int .i64 (-1),_,by simp only [lk,sv1,sv2,sv3,Nat.reduceEqDiff,Nat.reduceAdd,Nat.reduceLeDiff,reduceIte,if_false,if_true,mkVal,unLV,List.map,optTmps];exact frzD_closed rfl,rfl,-1,rfl,⟨fun h=>absurd h (by decide),fun hz=>?_⟩⟩
  obtain ⟨j,hj⟩:=List.mem_iff_getElem?.1 hz
  have h1:=(List.getElem?_eq_some_iff.1 hj).1
  refine absurd ?_ (hno j h1)
  rw [List.getD_eq_getElem?_getD,hj];rfl
theorem containsM_ok {v:LV} {ms:Moves} (hv:IsMoves v ms) (z:Int × Bool):PO 65 [v, .agg [.int .i64 z.1, .bool z.2]] (.bool (decide (z∈ms))):=by
 have hc1:=hv.sl.cell
 have hix:=indexM_ok hv z
 refine q_fn (t:=4) hm Tryz.func65 (by decide +kernel) c65 (Nat.le_of_ble_eq_true rfl) (by simp [LV.closed.closedAll,LV.closed,hv.closed]) rfl rfl ?_
 have e0:(envOf [v, .agg [.int .i64 z.1, .bool z.2]]).at 0=v:=by rw [envOf_at];rfl
 have e1:(envOf [v, .agg [.int .i64 z.1, .bool z.2]]).at 1 = .agg [.int .i64 z.1, .bool z.2]:=by rw [envOf_at];rfl
 generalize envOf [v, .agg [.int .i64 z.1, .bool z.2]]=e at *
 unfold l65
 dsimp only [jA,qN,qK,qO,qm]
 repeat' (first | refine gA trivial ?_ | (refine gB trivial ?_;intro bb hbb;cases bb<;>(try simp only [hbs,if_false,reduceCtorEq] at hbb)) | apply qc_seq | fail)
 refine q_pureEx hG0 hix wN (by simp only [List.map,lk,sv1,sv2,sv3,Nat.reduceEqDiff,Nat.reduceAdd,Nat.reduceLeDiff,reduceIte,if_false,if_true,mkVal,unLV,List.map,optTmps]) (fun r hr hrc=>⟨trivial,?_⟩)
 obtain ⟨k,rfl,hk⟩:=hr
 simp only [Env.put_some]
 repeat' (first | refine gA trivial ?_ | (refine gB trivial ?_;intro bb hbb;cases bb<;>(try simp only [hbs,if_false,reduceCtorEq] at hbb)) | apply qc_seq | fail)
 all_goals
  refine ⟨.inr trivial,?_⟩
  simp only [lk,sv1,sv2,sv3,Nat.reduceEqDiff,Nat.reduceAdd,Nat.reduceLeDiff,reduceIte,if_false,if_true,mkVal,unLV,List.map,optTmps]
  first
   | exact bool_t (hk.1 (by omega))
   | exact bool_f fun h=>absurd (hk.2 h) (by omega)
theorem state_at {pv qv:LV} {P Q:List Int} (hP:IsInts pv P) (hQ:IsInts qv Q) (h1:1≤Q.length) {i:Nat} (hi:i≤100000000) (hpl:P.length≤100000000) (hql:Q.length≤100000000):PureOk Tryz.prog GL (.fn (.func 60) [] [.pimm [pv,qv] 0]) [.int .i64 (i:Int)] (.int .i64 (lett P Q i)):=by
 have hc1:=hP.sl.cell
 have hc2:=hQ.sl.cell
 have hel:=elem_ok hP hQ h1 hi hpl hql
 have hcl:(LV.agg [pv,qv]).closed=true:=by simp [LV.closed,LV.closed.closedAll,hP.closed,hQ.closed]
 refine q_fnC (t:=3) Tryz.func60 (by decide +kernel) c60 (Nat.le_of_ble_eq_true rfl) rfl (by simp [LV.closed,LV.closed.closedAll,hP.closed,hQ.closed]) rfl rfl ?_
 have e0:(envOf ([LV.int .i64 (i:Int)]++[.pimm [pv,qv] 0])).at 0 = .int .i64 (i:Int):=by rw [envOf_at];rfl
 have e1:(envOf ([LV.int .i64 (i:Int)]++[.pimm [pv,qv] 0])).at 1 = .pimm [pv,qv] 0:=by rw [envOf_at];rfl
 generalize envOf ([LV.int .i64 (i:Int)]++[.pimm [pv,qv] 0])=e at *
 unfold l60
 dsimp only [jA,qF,qC,qm,ql]
 repeat' (first | refine gA trivial ?_ | (refine gB trivial ?_;intro bb hbb;cases bb<;>(try simp only [hbs,if_false,reduceCtorEq] at hbb)) | apply qc_seq | fail)
 refine q_pure hG0 (hel) (by first | exact wN | (apply wG;(simp only [lk,Nat.reduceEqDiff,reduceIte,e0,e1];(try rfl);done))) (by simp only [List.map,lk,Nat.reduceEqDiff,reduceIte,e0,e1];try rfl) (by first | trivial | (simp only [Chks,wantedG,LOp.run,Env.put_some,Env.put_none,lk,sv1,sv2,sv3,Nat.reduceEqDiff,Nat.reduceAdd,Nat.reduceLeDiff,reduceIte,if_false,if_true,mkVal,unLV,List.map,optTmps,beq_self_eq_true,reduceCtorEq,false_or,true_and,and_true,Option.some.injEq, *];done)) ?_
 simp only [Env.put_some]
 repeat' (first | refine gA trivial ?_ | (refine gB trivial ?_;intro bb hbb;cases bb<;>(try simp only [hbs,if_false,reduceCtorEq] at hbb)) | apply qc_seq | fail)
 refine ⟨.inr trivial,?_⟩
 simp only [lk,sv1,sv2,sv3,Nat.reduceEqDiff,Nat.reduceAdd,Nat.reduceLeDiff,reduceIte,if_false,if_true,mkVal,unLV,List.map,optTmps]
theorem to_call {pv qv mv:LV} {P Q:List Int} {ms:Moves} (hP:IsInts pv P) (hQ:IsInts qv Q) (h1:1≤Q.length) {i:Nat} (hi:i+1≤100000000) (hpl:P.length≤100000000) (hql:Q.length≤100000000) (hmv:IsMoves mv ms) {a b c:Nat} {m1 m2 m3:Md} {s:St}
  (ga:s.get a=some (.cells m1 [mv])) (gb:s.get b=some (.cells m2 [.fn (.func 60) [] [.pimm [pv,qv] 0]])) (gc:s.get c=some (.cells m3 [.int .i64 (i:Int)])) (good:Bool) :
  CallOk Tryz.prog GL (.fn (.func 64) [] [.pref a 0, .pref b 0, .pref c 0]) [.bool good] s (fun r s'=>s'=s∧r = .bool (decide ((lett P Q (i+1),good)∈ms))):=by
 have hst:=state_at hP hQ h1 (i:=i+1) hi hpl hql
 have hco:=containsM_ok hmv (lett P Q (i+1),good)
 have hmc:=hmv.sl.cell
 have hcl:=hmv.closed
 have hw:IntKind.i64.wrap ((i:Int)+1)=((i+1:Nat):Int):=by rw [wrap_i64 _ (by omega) (by omega)];rfl
 refine call_fn (first:=[]) (caps:=[.pref a 0, .pref b 0, .pref c 0]) Tryz.func64 (by decide +kernel) c64 (Nat.le_of_ble_eq_true rfl) (CodeOk.mono (Q:=fun o e s'=>(o = .normal∨o = .jmp .ret)∧s'=s∧e.at 5 = .bool (decide ((lett P Q (i+1),good)∈ms))) ?_ fun o e s' hh=>by
  obtain ⟨h1,h2,h3⟩:=hh
  exact ⟨h1,_,by simp [l64,resVal,resOne,h3],h2,rfl⟩)
 have e0:(envOf ([]++[LV.bool good]++[.pref a 0, .pref b 0, .pref c 0])).at 0 = .bool good:=by rw [envOf_at];rfl
 have e1:(envOf ([]++[LV.bool good]++[.pref a 0, .pref b 0, .pref c 0])).at 1 = .pref a 0:=by rw [envOf_at];rfl
 have e2:(envOf ([]++[LV.bool good]++[.pref a 0, .pref b 0, .pref c 0])).at 2 = .pref b 0:=by rw [envOf_at];rfl
 have e3:(envOf ([]++[LV.bool good]++[.pref a 0, .pref b 0, .pref c 0])).at 3 = .pref c 0:=by rw [envOf_at];rfl
 generalize envOf ([]++[LV.bool good]++[.pref a 0, .pref b 0, .pref c 0])=e at *
 refine Cd.out ?_
 unfold l64
 dsimp only [jA,jB,qM,qL,qA,qK]
 generalize lett P Q (i+1)=z at *
 repeat' (first | refine gA @hw ?_ | (refine gB @hw ?_;intro bb hbb;cases bb<;>(try simp only [hbs,if_false,reduceCtorEq] at hbb)) | apply qc_seq | fail)
 rw [hw]
 refine q_call wN (fv:=.fn (.func 60) [] [.pimm [pv,qv] 0]) (vs:=[.int .i64 ((i+1:Nat):Int)]) ef (by simp only [List.map,lk,sv1,sv2,sv3,Nat.reduceEqDiff,Nat.reduceAdd,Nat.reduceLeDiff,reduceIte,if_false,if_true,mkVal,unLV,List.map,optTmps]) (pure_call hG0 hst ⟨⟨.inr ⟨rfl,by simp only [LOp.run,lk,sv1,sv2,sv3,Nat.reduceEqDiff,Nat.reduceAdd,Nat.reduceLeDiff,reduceIte,if_false,if_true,mkVal,unLV,List.map,optTmps,Env.put_some,e1];simp [loadLV,ga,mkVal]⟩,trivial⟩,?_⟩)
 simp only [Env.put_some]
 repeat' (first | refine gA trivial ?_ | (refine gB trivial ?_;intro bb hbb;cases bb<;>(try simp only [hbs,if_false,reduceCtorEq] at hbb)) | apply qc_seq | fail)
 refine q_gen (v:=.agg [.int .i64 z, .bool good]) (s':=s) wN (by simp only [LOp.run,lk,sv1,sv2,sv3,Nat.reduceEqDiff,Nat.reduceAdd,Nat.reduceLeDiff,reduceIte,if_false,if_true,mkVal,unLV,List.map,optTmps,evParts,fillParts];rfl) rfl trivial ?_
 simp only [Env.put_some]
 refine q_pure hG0 (hco) (by first | exact wN | (apply wG;(simp only [lk,Nat.reduceEqDiff,reduceIte,e0,e1,e2,e3];(try rfl);done))) (by simp only [List.map,lk,Nat.reduceEqDiff,reduceIte,e0,e1,e2,e3];try rfl) (by first | trivial | (simp only [Chks,wantedG,LOp.run,Env.put_some,Env.put_none,lk,sv1,sv2,sv3,Nat.reduceEqDiff,Nat.reduceAdd,Nat.reduceLeDiff,reduceIte,if_false,if_true,mkVal,unLV,List.map,optTmps,beq_self_eq_true,reduceCtorEq,false_or,true_and,and_true,Option.some.injEq, *];done)) ?_
 simp only [Env.put_some]
 repeat' (first | refine gA trivial ?_ | (refine gB trivial ?_;intro bb hbb;cases bb<;>(try simp only [hbs,if_false,reduceCtorEq] at hbb)) | apply qc_seq | fail)
 exact ⟨.inr trivial,trivial,ef⟩
end Go.Proofs.YtgobbogomchnhaaGreatDoor
end
