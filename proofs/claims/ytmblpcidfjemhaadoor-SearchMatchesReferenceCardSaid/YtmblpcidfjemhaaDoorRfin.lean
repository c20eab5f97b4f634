/- The document's Find, Live and Differ, and its comparisons. -/
import Derived.Test.YtmblpcidfjemhaaDoorRsrch
import Derived.Test.YtmblpcidfjemhaaDoorPvb
import Derived.Test.YtmblpcidfjemhaaDoorRval
import Derived.Test.YtmblpcidfjemhaaDoorBsame
import Derived.Test.YtmblpcidfjemhaaDoorTlive
set_option linter.unusedSimpArgs false
set_option linter.unusedVariables false
section
set_option linter.unusedSimpArgs false
set_option linter.unusedVariables false
namespace Go.Proofs.YtmblpcidfjemhaaDoor
open Go Go.Pv Go.Aut
open Classical
theorem int_nil:IsInts .nils (zints []):=zints_is (by simp) (by simp) _ .nil
def FinC (B:Bu) (S L:List Nat) (ok:Bool):Prop:=(¬ Vb B∧S=[]∧L=[]∧ok=false)∨(Vb B∧FindF B (stN B) S L ok)
theorem FinC.uniq {B:Bu} {S L S' L':List Nat} {ok ok':Bool} (h:FinC B S L ok) (k:FinC B S' L' ok'):ok=ok'∧S=S'∧L=L':=by
  rcases h with ⟨h1,rfl,rfl,rfl⟩ | ⟨h1,h2⟩<;>rcases k with ⟨k1,rfl,rfl,rfl⟩ | ⟨k1,k2⟩
  · exact ⟨rfl,rfl,rfl⟩
  · exact absurd k1 h1
  · exact absurd h1 k1
  · exact h2.uniq h1 (stN_lt h1) k2
def FinA (B:Bu) (r:LV):Prop:=∃ st lo S L ok,r = .tup [.agg [st,lo], .bool ok]∧IsInts st (zints S)∧IsInts lo (zints L)∧FinC B S L ok
set_option maxHeartbeats 16000000 in
theorem rfind_ok {v:LV} {B:Bu} {sv nv:LV} (hB:IsB v B sv nv):PE 7 [v] (FinA B):=by
  have hvc:=hB.closed
  have hbv:=rbvalid_ok hB
  have hfo:=fun okB=>rfound_ok hB okB (fv:=sv) (fr:=stN B) (by rw [zints_stN okB];exact hB.2.1) (stN_lt okB)
  obtain ⟨rfl,hst',vs,hn⟩:=hB
  have hc1:=hst'.sl.cell
  have hc2:=hn.sl.cell
  refine q_fnExR Tryd.func7 (by decide +kernel) c7 (Nat.le_of_ble_eq_true rfl) (by simp [LV.closed.closedAll,hvc]) ?_
  have e0:(envOf [LV.agg [.int .i64 B.L,sv,nv]]).at 0 = .agg [.int .i64 B.L,sv,nv]:=by rw [envOf_at];rfl
  generalize envOf [LV.agg [.int .i64 B.L,sv,nv]]=e at *
  unfold l7
  dsimp only [jA,jG,qN,qF,qK,qO,qG,qm,ql]
  repeat' (first | refine gA trivial ?_ | (refine gB trivial ?_;intro bb hbb;cases bb<;>(try simp only [hbs,if_false,reduceCtorEq] at hbb)) | apply qc_seq | fail)
  refine q_pureB hG0 (hbv) (by first | exact wN | (apply wG;(simp only [lk,Nat.reduceEqDiff,reduceIte,e0];(try rfl);done))) (by simp only [List.map,lk,Nat.reduceEqDiff,reduceIte,e0];try rfl) (fun bb hbb=>⟨by first | trivial | (simp only [Chks,wantedG,LOp.run,Env.put_some,Env.put_none,lk,sv1,sv2,sv3,Nat.reduceEqDiff,Nat.reduceAdd,Nat.reduceLeDiff,reduceIte,if_false,if_true,mkVal,unLV,List.map,optTmps,beq_self_eq_true,reduceCtorEq,false_or,true_and,and_true,Option.some.injEq, *];done),?_⟩)
  simp only [Env.put_some]
  cases bb<;>simp only [decide_eq_true_eq,decide_eq_false_iff_not] at hbb
  · repeat' (first | refine gA trivial ?_ | (refine gB trivial ?_;intro bb hbb;cases bb<;>(try simp only [hbs,if_false,reduceCtorEq] at hbb)) | apply qc_seq | fail)
    refine q_run0 (v:=.agg [.nils, .nils]) (by simp only [LOp.run,lk,sv1,sv2,sv3,Nat.reduceEqDiff,Nat.reduceAdd,Nat.reduceLeDiff,reduceIte,if_false,if_true,mkVal,unLV,List.map,optTmps,evParts,fillParts];(try rfl)) ?_
    repeat' (first | refine gA trivial ?_ | (refine gB trivial ?_;intro bb hbb;cases bb<;>(try simp only [hbs,if_false,reduceCtorEq] at hbb)) | apply qc_seq | fail)
    exact ⟨.inr trivial, .tup [.agg [.nils, .nils], .bool false],by simp [resVal,resOne,mkVal,lk,St.get_put,n_empty],_,_,frzD_closed rfl,rfl, .nils, .nils,[],[],false,rfl,int_nil,int_nil, .inl ⟨hbb,rfl,rfl,rfl⟩⟩
  have okB:=hbb
  repeat' (first | refine gA trivial ?_ | (refine gB trivial ?_;intro bb hbb;cases bb<;>(try simp only [hbs,if_false,reduceCtorEq] at hbb)) | apply qc_seq | fail)
  refine q_pureEx hG0 (hfo okB) wN (by simp only [List.map,lk,sv1,sv2,sv3,Nat.reduceEqDiff,Nat.reduceAdd,Nat.reduceLeDiff,reduceIte,if_false,if_true,mkVal,unLV,List.map,optTmps]) (fun r hr hrc=>⟨trivial,?_⟩)
  obtain ⟨st,lo,S,L,ok,rfl,hS,hL,hF⟩:=hr
  have hcs:=hS.sl.cell
  have hcl:=hL.sl.cell
  simp only [Env.put_some]
  clear hfo hbv
  repeat' (first | refine gA trivial ?_ | (refine gB trivial ?_;intro bb hbb;cases bb<;>(try simp only [hbs,if_false,reduceCtorEq] at hbb)) | apply qc_seq | fail)
  exact ⟨.inr trivial, .tup [.agg [st,lo], .bool ok],by simp [resVal,resOne,mkVal,lk,St.get_put,n_empty],_,_,frzD_closed (by simp [LV.closed,LV.closed.closedAll,hS.closed,hL.closed]),by simp [LV.closed,LV.closed.closedAll,hS.closed,hL.closed],st,lo,S,L,ok,rfl,hS,hL, .inr ⟨okB,hF⟩⟩
set_option maxHeartbeats 16000000 in
theorem rdiffer_ok {vA vB:LV} {A B:Bu} {sa na sb nb:LV} (hA:IsB vA A sa na) (hB:IsB vB B sb nb) (hsz:A.next.length*B.next.length*2≤3000) {most:Int} :
    PE 9 [vA,vB, .int .i64 most] (DifA A B most):=by
  have hcA:=hA.closed
  have hcB:=hB.closed
  have hbo:=rboth_ok hA hB hsz (most:=most)
  have hfin:=fun {v:LV} {C:Bu} {sv nv:LV} (h:IsB v C sv nv) okC=>rfound_ok h okC (fv:=sv) (fr:=stN C) (by rw [zints_stN okC];exact h.2.1) (stN_lt okC)
  have hvb:=fun {C:Bu} (okA:Vb A) (okB:Vb B) (hL:A.L=B.L) (hT:AutoR (grB A B) C)=>vb_auto (most:=3000) (grB_ok (most:=3000) okA okB hL (by omega) (by omega)) (stP_nd okA okB) hT
  obtain ⟨rfl,htA,vsA,hnA⟩:=hA
  obtain ⟨rfl,htB,vsB,hnB⟩:=hB
  have hc1:=htA.sl.cell
  have hc2:=hnA.sl.cell
  have hc3:=htB.sl.cell
  have hc4:=hnB.sl.cell
  refine q_fnExR Tryd.func9 (by decide +kernel) c9 (Nat.le_of_ble_eq_true rfl) (by
    have a1:sa.closed=true∧na.closed=true:=by simpa [LV.closed,LV.closed.closedAll] using hcA
    have a2:sb.closed=true∧nb.closed=true:=by simpa [LV.closed,LV.closed.closedAll] using hcB
    simp [LV.closed.closedAll,LV.closed,a1,a2]) ?_
  have e0:(envOf [LV.agg [.int .i64 A.L,sa,na],LV.agg [.int .i64 B.L,sb,nb], .int .i64 most]).at 0 = .agg [.int .i64 A.L,sa,na]:=by rw [envOf_at];rfl
  have e1:(envOf [LV.agg [.int .i64 A.L,sa,na],LV.agg [.int .i64 B.L,sb,nb], .int .i64 most]).at 1 = .agg [.int .i64 B.L,sb,nb]:=by rw [envOf_at];rfl
  have e2:(envOf [LV.agg [.int .i64 A.L,sa,na],LV.agg [.int .i64 B.L,sb,nb], .int .i64 most]).at 2 = .int .i64 most:=by rw [envOf_at];rfl
  generalize envOf [LV.agg [.int .i64 A.L,sa,na],LV.agg [.int .i64 B.L,sb,nb], .int .i64 most]=e at *
  unfold l9
  dsimp only [jA,jG,qN,qF,qC,qK,qO,qm,ql]
  repeat' (first | refine gA trivial ?_ | (refine gB trivial ?_;intro bb hbb;cases bb<;>(try simp only [hbs,if_false,reduceCtorEq] at hbb)) | apply qc_seq | fail)
  refine q_pureEx hG0 hbo wN (by simp only [List.map,lk,sv1,sv2,sv3,Nat.reduceEqDiff,Nat.reduceAdd,Nat.reduceLeDiff,reduceIte,if_false,if_true,mkVal,unLV,List.map,optTmps]) (fun r hr hrc=>⟨trivial,?_⟩)
  rcases hr with ⟨h1,rfl⟩ | ⟨h1,h2,rfl⟩ | ⟨h1,h2,v,C,sv,nv,rfl,hC,hT⟩
  · simp only [Env.put_some]
    have h1':Bx (¬ (Vb A∧Vb B∧A.L=B.L∧1≤most∧most≤3000)):=⟨h1⟩
    clear hbo hfin hvb hrc h1
    repeat' (first | refine gA trivial ?_ | (refine gB trivial ?_;intro bb hbb;cases bb<;>(try simp only [hbs,if_false,reduceCtorEq] at hbb)) | apply qc_seq | fail)
    · exfalso;exact absurd hbb (by decide)
    refine q_run0 (v:=.agg [.nils, .nils]) (by simp only [LOp.run,lk,sv1,sv2,sv3,Nat.reduceEqDiff,Nat.reduceAdd,Nat.reduceLeDiff,reduceIte,if_false,if_true,mkVal,unLV,List.map,optTmps,evParts,fillParts];(try rfl)) ?_
    repeat' (first | refine gA trivial ?_ | (refine gB trivial ?_;intro bb hbb;cases bb<;>(try simp only [hbs,if_false,reduceCtorEq] at hbb)) | apply qc_seq | fail)
    exact ⟨.inr trivial, .tup [.agg [.nils, .nils], .bool false, .int .i64 1],by simp [resVal,resOne,mkVal,lk,St.get_put,n_empty],_,_,frzD_closed rfl,rfl, .nils, .nils,[],[],false,1,rfl,int_nil,int_nil, .inl ⟨h1'.out,rfl,rfl,rfl,rfl⟩⟩
  · simp only [Env.put_some]
    have h1':Bx (Vb A∧Vb B∧A.L=B.L∧1≤most∧most≤3000):=⟨h1⟩
    have h2':Bx (most<((grB A B).R.length:Int)):=⟨h2⟩
    clear hbo hfin hvb hrc h1 h2
    repeat' (first | refine gA trivial ?_ | (refine gB trivial ?_;intro bb hbb;cases bb<;>(try simp only [hbs,if_false,reduceCtorEq] at hbb)) | apply qc_seq | fail)
    · exfalso;exact absurd hbb (by decide)
    refine q_run0 (v:=.agg [.nils, .nils]) (by simp only [LOp.run,lk,sv1,sv2,sv3,Nat.reduceEqDiff,Nat.reduceAdd,Nat.reduceLeDiff,reduceIte,if_false,if_true,mkVal,unLV,List.map,optTmps,evParts,fillParts];(try rfl)) ?_
    repeat' (first | refine gA trivial ?_ | (refine gB trivial ?_;intro bb hbb;cases bb<;>(try simp only [hbs,if_false,reduceCtorEq] at hbb)) | apply qc_seq | fail)
    exact ⟨.inr trivial, .tup [.agg [.nils, .nils], .bool false, .int .i64 2],by simp [resVal,resOne,mkVal,lk,St.get_put,n_empty],_,_,frzD_closed rfl,rfl, .nils, .nils,[],[],false,2,rfl,int_nil,int_nil, .inr (.inl ⟨h1'.out,h2'.out,rfl,rfl,rfl,rfl⟩)⟩
  have hok:=hvb h1.1 h1.2.1 h1.2.2.1 hT
  have hf:=hfin hC hok
  obtain ⟨rfl,htC,vsC,hnC⟩:=hC
  have hc5:=htC.sl.cell
  have hc6:=hnC.sl.cell
  have h1':Bx (Vb A∧Vb B∧A.L=B.L∧1≤most∧most≤3000):=⟨h1⟩
  simp only [Env.put_some]
  clear hbo hfin hvb hrc h1
  repeat' (first | refine gA trivial ?_ | (refine gB trivial ?_;intro bb hbb;cases bb<;>(try simp only [hbs,if_false,reduceCtorEq] at hbb)) | apply qc_seq | fail)
  rotate_left
  · exfalso;first | exact hbb rfl | omega
  refine q_pureEx hG0 hf wN (by simp only [List.map,lk,sv1,sv2,sv3,Nat.reduceEqDiff,Nat.reduceAdd,Nat.reduceLeDiff,reduceIte,if_false,if_true,mkVal,unLV,List.map,optTmps]) (fun r hr hrc=>⟨trivial,?_⟩)
  obtain ⟨st,lo,S,L,ok,rfl,hS,hLo,hR⟩:=hr
  have hcs:=hS.sl.cell
  have hcl:=hLo.sl.cell
  have hst:=hS.closed
  have hlo:=hLo.closed
  simp only [Env.put_some]
  clear hf hrc
  repeat' (first | refine gA trivial ?_ | (refine gB trivial ?_;intro bb hbb;cases bb<;>(try simp only [hbs,if_false,reduceCtorEq] at hbb)) | apply qc_seq | fail)
  refine ⟨.inr trivial, .tup [.agg [st,lo], .bool ok, .int .i64 0],by simp [resVal,resOne,mkVal,lk,St.get_put,n_empty], .tup [.agg [st,lo], .bool ok, .int .i64 0],_,frz_closed (by simp [LV.closed,LV.closed.closedAll,hst,hlo]),by simp [LV.closed,LV.closed.closedAll,hst,hlo],st,lo,S,L,ok,0,rfl,hS,hLo, .inr (.inr ⟨h1'.out,h2,rfl,C,hT,hok,hR⟩)⟩
end Go.Proofs.YtmblpcidfjemhaaDoor
end
section
set_option linter.unusedSimpArgs false
set_option linter.unusedVariables false
namespace Go.Proofs.YtmblpcidfjemhaaDoor
open Go Go.Pv Go.Aut
open Classical
def LivA (B:Bu) (r:LV):Prop:=(¬ Vb B∧r = .nils)∨(Vb B∧Sl r (bcells B.next.length fun u=>decide (Lvs B u)) B.next.length)
theorem bcells_ext {n:Nat} {f g:Nat→Bool} (h:∀ u,u<n→f u=g u):bcells n f=bcells n g:=by
  apply List.ext_getElem?
  intro i
  by_cases hi:i<n
  · rw [bcells_get hi,bcells_get hi,h i hi]
  · rw [List.getElem?_eq_none (by simpa using hi),List.getElem?_eq_none (by simpa using hi)]
theorem bcells_succ (n:Nat) (f:Nat→Bool):bcells (n+1) f=bcells n f++[.bool (f n)]:=by
  apply List.ext_getElem?
  intro i
  by_cases hi:i<n
  · rw [bcells_get (by omega),List.getElem?_append_left (by simpa using hi),bcells_get hi]
  · by_cases he:i=n
    · subst he
      rw [bcells_get (by omega),List.getElem?_append_right (by simp)]
      simp
    · rw [List.getElem?_eq_none (by simp;omega),List.getElem?_eq_none (by simp;omega)]
set_option maxHeartbeats 8000000 in
theorem slive_ok {v:LV} {B:Bu} {sv nv:LV} (hB:IsB v B sv nv) (hsm:B.next.length≤40):PE 12 [v] (LivA B):=by
  by_cases hok:Vb B
  · have h:=live_ok hB hok hsm
    refine ⟨h.cf,h.cargs,CallOk.mono h.call fun v s hh=>?_⟩
    obtain ⟨r,s2,h1,h2,f,rfl,hf⟩:=hh
    refine ⟨_,s2,h1,h2, .inr ⟨hok,?_⟩⟩
    have:bcells B.next.length f=bcells B.next.length fun u=>decide (Lvs B u):=bcells_ext fun u hu=>by
      rw [Bool.eq_iff_iff,hf u hu];simp
    rw [this]
    exact .simm _ _
  have hvc:=hB.closed
  have hbv:=bvalid_ok hB
  rw [decide_eq_false hok] at hbv
  obtain ⟨rfl,hst',vs,hn⟩:=hB
  have hc1:=hst'.sl.cell
  have hc2:=hn.sl.cell
  refine q_fnEx (t:=2) hm Tryd.func12 (by decide +kernel) c12 (Nat.le_of_ble_eq_true rfl) (by simp [LV.closed.closedAll,hvc]) rfl ?_
  have e0:(envOf [LV.agg [.int .i64 B.L,sv,nv]]).at 0 = .agg [.int .i64 B.L,sv,nv]:=by rw [envOf_at];rfl
  generalize envOf [LV.agg [.int .i64 B.L,sv,nv]]=e at *
  unfold l12
  dsimp only [jA,jB,jE,jG,jH,qM,qL,qN,qF,qS,qI,qA,qB,qC,qO,qG,qm,ql]
  repeat' (first | refine gA trivial ?_ | (refine gB trivial ?_;intro bb hbb;cases bb<;>(try simp only [hbs,if_false,reduceCtorEq] at hbb)) | apply qc_seq | fail)
  refine q_pure hG0 (hbv) (by first | exact wN | (apply wG;(simp only [lk,Nat.reduceEqDiff,reduceIte,e0];(try rfl);done))) (by simp only [List.map,lk,Nat.reduceEqDiff,reduceIte,e0];try rfl) (by first | trivial | (simp only [Chks,wantedG,LOp.run,Env.put_some,Env.put_none,lk,sv1,sv2,sv3,Nat.reduceEqDiff,Nat.reduceAdd,Nat.reduceLeDiff,reduceIte,if_false,if_true,mkVal,unLV,List.map,optTmps,beq_self_eq_true,reduceCtorEq,false_or,true_and,and_true,Option.some.injEq, *];done)) ?_
  simp only [Env.put_some]
  repeat' (first | refine gA trivial ?_ | (refine gB trivial ?_;intro bb hbb;cases bb<;>(try simp only [hbs,if_false,reduceCtorEq] at hbb)) | apply qc_seq | fail)
  exact ⟨.inr trivial, .nils,_,by simp only [lk,sv1,sv2,sv3,Nat.reduceEqDiff,Nat.reduceAdd,Nat.reduceLeDiff,reduceIte,if_false,if_true,mkVal,unLV,List.map,optTmps];exact frzD_closed rfl,rfl, .inl ⟨hok,rfl⟩⟩
set_option maxHeartbeats 16000000 in
theorem rlive_ok {v:LV} {B:Bu} {sv nv:LV} (hB:IsB v B sv nv):PE 13 [v] (LivA B):=by
  have hvc:=hB.closed
  have hbv:=rbvalid_ok hB
  have hfo:=fun {s:LV} okB {i:Nat} (hi:i<B.next.length)=>rfound_ok hB okB (fv:=.simm [.int .i64 (i:Int)] 1) (fr:=[i]) (zints_is (by simp) (by have:=okB.2.2.1;simp;omega) _ (.simm _ _)) (fun p hp=>by rw [List.mem_singleton.1 hp];exact hi)
  obtain ⟨rfl,hst',vs,hn⟩:=hB
  have hc1:=hst'.sl.cell
  have hc2:=hn.sl.cell
  have hnl:=hn.sl.len
  refine q_fnEx (t:=2) hm Tryd.func13 (by decide +kernel) c13 (Nat.le_of_ble_eq_true rfl) (by simp [LV.closed.closedAll,hvc]) rfl ?_
  have e0:(envOf [LV.agg [.int .i64 B.L,sv,nv]]).at 0 = .agg [.int .i64 B.L,sv,nv]:=by rw [envOf_at];rfl
  generalize envOf [LV.agg [.int .i64 B.L,sv,nv]]=e at *
  unfold l13
  dsimp only [jA,jG,qN,qF,qS,qA,qB,qC,qO,qG,qm,ql]
  repeat' (first | refine gA trivial ?_ | (refine gB trivial ?_;intro bb hbb;cases bb<;>(try simp only [hbs,if_false,reduceCtorEq] at hbb)) | apply qc_seq | fail)
  refine q_pureB hG0 (hbv) (by first | exact wN | (apply wG;(simp only [lk,Nat.reduceEqDiff,reduceIte,e0];(try rfl);done))) (by simp only [List.map,lk,Nat.reduceEqDiff,reduceIte,e0];try rfl) (fun bb hbb=>⟨by first | trivial | (simp only [Chks,wantedG,LOp.run,Env.put_some,Env.put_none,lk,sv1,sv2,sv3,Nat.reduceEqDiff,Nat.reduceAdd,Nat.reduceLeDiff,reduceIte,if_false,if_true,mkVal,unLV,List.map,optTmps,beq_self_eq_true,reduceCtorEq,false_or,true_and,and_true,Option.some.injEq, *];done),?_⟩)
  simp only [Env.put_some]
  cases bb<;>simp only [decide_eq_true_eq,decide_eq_false_iff_not] at hbb
  · repeat' (first | refine gA trivial ?_ | (refine gB trivial ?_;intro bb hbb;cases bb<;>(try simp only [hbs,if_false,reduceCtorEq] at hbb)) | apply qc_seq | fail)
    exact ⟨.inr trivial, .nils,_,by simp only [lk,sv1,sv2,sv3,Nat.reduceEqDiff,Nat.reduceAdd,Nat.reduceLeDiff,reduceIte,if_false,if_true,mkVal,unLV,List.map,optTmps];exact frzD_closed rfl,rfl, .inl ⟨hbb,rfl⟩⟩
  have okB:=hbb
  have hn3:=okB.2.2.1
  clear hbv
  repeat' (first | refine gA trivial ?_ | (refine gB trivial ?_;intro bb hbb;cases bb<;>(try simp only [hbs,if_false,reduceCtorEq] at hbb)) | apply qc_seq | fail)
  refine qc_loop (fun m e s=>∃ (i:Nat) (lv:LV),m=B.next.length - i∧i≤B.next.length∧SkE s lv 1 (bcells i fun u=>decide (Lvs B u)) i∧e.at 1 = .pimm [.int .i64 B.L,sv,nv] 0∧e.at 3=lv∧e.at 4 = .int .i64 (i:Int)) _
    ⟨0, .nils,rfl,by omega,⟨rfl, .inl ⟨rfl,rfl⟩⟩,ef,ef,by simp only [lk,sv1,sv2,sv3,Nat.reduceEqDiff,Nat.reduceAdd,Nat.reduceLeDiff,reduceIte,if_false,if_true,mkVal,unLV,List.map,optTmps];rfl⟩ ?_
  clear e0
  clear e
  rintro m e s ⟨i,lv,rfl,hi,hS,e1,e3,e4⟩
  by_cases hil:i<B.next.length
  · have hiI:(i:Int)<(B.next.length:Int):=by omega
    have hw:IntKind.i64.wrap ((i:Int)+1)=((i+1:Nat):Int):=by rw [wrap_i64 _ (by omega) (by omega)];rfl
    have hfi:=hfo (s:=.nils) okB hil
    clear hfo
    repeat' (first | refine gA @hnl ?_ | (refine gB @hnl ?_;intro bb hbb;cases bb<;>(try simp only [hbs,if_false,reduceCtorEq] at hbb)) | apply qc_seq | fail)
    · exfalso;omega
    refine q_bs1g (v:=.int .i64 (i:Int)) ef rfl (fun s1 h1 h2=>trivial) (fun sA nA rA kA=>?_)
    have f1:frz frzDepth (.sref s.n 0 1 1) sA=some (.simm [.int .i64 (i:Int)] 1,sA.put s.n (.cells .app [.int .i64 (i:Int)])):=frz_sref rA rfl rfl
    refine q_call wN (fv:=.fn (.func 24) [] []) (vs:=[.agg [.int .i64 B.L,sv,nv], .sref s.n 0 1 1]) rfl (by simp only [List.map,lk,sv1,sv2,sv3,Nat.reduceEqDiff,Nat.reduceAdd,Nat.reduceLeDiff,reduceIte,if_false,if_true,mkVal,unLV,List.map,optTmps]) (call_frz (args':=[.agg [.int .i64 B.L,sv,nv], .simm [.int .i64 (i:Int)] 1]) (s':=sA.put s.n (.cells .app [.int .i64 (i:Int)])) (by
      have h2:frz frzDepth (.agg [.int .i64 B.L,sv,nv]) sA=some (.agg [.int .i64 B.L,sv,nv],sA):=frzD_closed hvc
      simp [frz.frzAll,f1,h2]) (pure_callEx hG0 hfi fun r hr hrc=>⟨trivial,?_⟩))
    obtain ⟨st,lo,S,L,ok,rfl,hS1,hL1,hF⟩:=hr
    have hbit:ok=decide (Lvs B i):=by
      rw [Bool.eq_iff_iff,findF_iff okB (fun p hp=>by rw [List.mem_singleton.1 hp];exact hil) hF]
      simp
    have hcs:=hS1.sl.cell
    have hcl:=hL1.sl.cell
    have hS2:SkE (sA.put s.n (.cells .app [.int .i64 (i:Int)])) lv 1 (bcells i fun u=>decide (Lvs B u)) i:=hS.mono (by rw [St.n_put];omega) fun id hu=>by
      have:=hS.lt hu
      rw [St.get_put,if_neg (by omega)]
      exact kA id this
    have hbs:=bcells_succ i fun u=>decide (Lvs B u)
    simp only [← hbit] at hbs
    clear hfi hF hrc kA rA f1 hS hbit
    simp only [Env.put_some]
    generalize hsB:sA.put s.n (.cells .app [.int .i64 (i:Int)])=sB at *
    clear hsB nA
    clear sA
    repeat' (first | refine gA trivial ?_ | (refine gB trivial ?_;intro bb hbb;cases bb<;>(try simp only [hbs,if_false,reduceCtorEq] at hbb)) | apply qc_seq | fail)
    have hS3:SkE ((sB.new (.cells .mut [.nils, .nils])).put sB.n (.cells .mut [st,lo])) lv 1 (bcells i fun u=>decide (Lvs B u)) i:=hS2.mono (by simp) fun id hu=>by
      have:=hS2.lt hu
      rw [St.get_put,if_neg (by omega),St.get_new,if_neg (by omega)]
    refine q_appE (n:=i) (esz:=1) (xv:=.bool ok) (yv:=lv) (vs:=[.bool ok]) (cells:=bcells i fun u=>decide (Lvs B u)) ef rfl rfl rfl rfl ef hS3 (by decide) (by omega) (fun s3 j3 a1 a2 a3 a4=>?_)
    repeat' (first | refine gA trivial ?_ | (refine gB trivial ?_;intro bb hbb;cases bb<;>(try simp only [hbs,if_false,reduceCtorEq] at hbb)) | apply qc_seq | fail)
    exact ⟨B.next.length - (i+1),by omega,i+1, .sref j3 0 (i+1) 1,rfl,by omega,by rw [hbs];exact SkC.e a2,by simp only [lk,sv1,sv2,sv3,Nat.reduceEqDiff,Nat.reduceAdd,Nat.reduceLeDiff,reduceIte,if_false,if_true,mkVal,unLV,List.map,optTmps,hw,e1,and_self]⟩
  · have hie:i=B.next.length:=by omega
    have hie':Bx (i=B.next.length):=⟨hie⟩
    clear hie
    have hiI:¬ (i:Int)<(B.next.length:Int):=by omega
    repeat' (first | refine gA @hnl ?_ | (refine gB @hnl ?_;intro bb hbb;cases bb<;>(try simp only [hbs,if_false,reduceCtorEq] at hbb)) | apply qc_seq | fail)
    · obtain ⟨v',s',f1,f2,f3,f4⟩:=fz_ske 38 hS (bcells_closed _ _) s fun _ _=>rfl
      refine ⟨.inr trivial,v',s',by simp only [lk,sv1,sv2,sv3,Nat.reduceEqDiff,Nat.reduceAdd,Nat.reduceLeDiff,reduceIte,if_false,if_true,mkVal,unLV,List.map,optTmps,e3];exact f1,sl_cl f2 (bcells_closed _ _), .inr ⟨okB,?_⟩⟩
      rw [← hie'.out]
      exact f2
    · exfalso;omega
set_option maxHeartbeats 8000000 in
theorem sbools_ok {va vb:LV} {n:Nat} {f:Nat→Bool} (ha:Sl va (bcells n f) n) (hb:Sl vb (bcells n f) n) (hn:n≤100000):PO 11 [va,vb] (.bool true):=by
  have hca:=sl_cl ha (bcells_closed _ _)
  have hcb:=sl_cl hb (bcells_closed _ _)
  have hla:=ha.len
  have hlb:=hb.len
  refine q_fn (t:=4) hm Tryd.func11 (by decide +kernel) c11 (Nat.le_of_ble_eq_true rfl) (by simp [LV.closed.closedAll,hca,hcb]) rfl rfl ?_
  have e0:(envOf [va,vb]).at 0=va:=by rw [envOf_at];rfl
  have e1:(envOf [va,vb]).at 1=vb:=by rw [envOf_at];rfl
  generalize envOf [va,vb]=e at *
  unfold l11
  dsimp only [jA,jB,qM,qL,qS,qI,qA,qB,qC,qK,qm]
  repeat' (first | refine gA (And.intro @hla @hlb) ?_ | (refine gB (And.intro @hla @hlb) ?_;intro bb hbb;cases bb<;>(try simp only [hbs,if_false,reduceCtorEq] at hbb)) | apply qc_seq | fail)
  · refine qc_loop (fun m e s=>∃ i:Nat,m=n - i∧i≤n∧e.at 0=va∧e.at 1=vb∧e.at 5 = .int .i64 (i:Int)) _
      ⟨0,rfl,by omega,ef,ef,by simp only [lk,sv1,sv2,sv3,Nat.reduceEqDiff,Nat.reduceAdd,Nat.reduceLeDiff,reduceIte,if_false,if_true,mkVal,unLV,List.map,optTmps];rfl⟩ ?_
    clear e0 e1
    clear e
    rintro m e s ⟨i,rfl,hi,e0,e1,e5⟩
    by_cases hil:i<n
    · have hiI:(i:Int)<(n:Int):=by omega
      have hw:IntKind.i64.wrap ((i:Int)+1)=((i+1:Nat):Int):=by rw [wrap_i64 _ (by omega) (by omega)];rfl
      have hg:(bcells n f)[i]? = some (.bool (f i)):=bcells_get hil
      have hia:∀ s,iaLV 1 va (.int .i64 (i:Int)) s=some (.pimm (bcells n f) i,s):=fun s=>by
        have:=iaN (esz:=1) (k:=.i64) (s:=s) (i:=i) ha hiI
        simpa using this
      have hib:∀ s,iaLV 1 vb (.int .i64 (i:Int)) s=some (.pimm (bcells n f) i,s):=fun s=>by
        have:=iaN (esz:=1) (k:=.i64) (s:=s) (i:=i) hb hiI
        simpa using this
      generalize f i=b at *
      have heq:eqLV .bool (.bool b) (.bool b)=some true:=by cases b<;>rfl
      repeat' (first | refine gA (And.intro @hla (And.intro @hlb (And.intro @hia (And.intro @hib (And.intro @hg @heq))))) ?_ | (refine gB (And.intro @hla (And.intro @hlb (And.intro @hia (And.intro @hib (And.intro @hg @heq))))) ?_;intro bb hbb;cases bb<;>(try simp only [hbs,if_false,reduceCtorEq] at hbb)) | apply qc_seq | fail)
      all_goals first | (exfalso;omega) | (exfalso;simp at hbb;done) | skip
      exact ⟨n - (i+1),by omega,i+1,rfl,by omega,by simp only [lk,sv1,sv2,sv3,Nat.reduceEqDiff,Nat.reduceAdd,Nat.reduceLeDiff,reduceIte,if_false,if_true,mkVal,unLV,List.map,optTmps,hw,e0,e1,and_self]⟩
    · have hiI:¬ (i:Int)<(n:Int):=by omega
      repeat' (first | refine gA (And.intro @hla @hlb) ?_ | (refine gB (And.intro @hla @hlb) ?_;intro bb hbb;cases bb<;>(try simp only [hbs,if_false,reduceCtorEq] at hbb)) | apply qc_seq | fail)
      · exact ⟨.inr trivial,ef⟩
      · exfalso;omega
  · exfalso;first | omega | exact hbb rfl
set_option maxHeartbeats 8000000 in
theorem slasso_ok {st lo st2 lo2:LV} {S L:List Int} (h1:IsInts st S) (h2:IsInts lo L) (k1:IsInts st2 S) (k2:IsInts lo2 L):PO 10 [.agg [st,lo], .agg [st2,lo2]] (.bool true):=by
  have hi1:=ints_eq h1 k1
  have hi2:=ints_eq h2 k2
  rw [decide_eq_true rfl] at hi1 hi2
  have c1:=h1.sl.cell
  have c2:=h2.sl.cell
  have d1:=k1.sl.cell
  have d2:=k2.sl.cell
  have hca:(LV.agg [st,lo]).closed=true:=by simp [LV.closed,LV.closed.closedAll,h1.closed,h2.closed]
  have hcb:(LV.agg [st2,lo2]).closed=true:=by simp [LV.closed,LV.closed.closedAll,k1.closed,k2.closed]
  refine q_fn (t:=4) hm Tryd.func10 (by decide +kernel) c10 (Nat.le_of_ble_eq_true rfl) (by simp [LV.closed.closedAll,LV.closed,h1.closed,h2.closed,k1.closed,k2.closed]) rfl rfl ?_
  have e0:(envOf [LV.agg [st,lo], .agg [st2,lo2]]).at 0 = .agg [st,lo]:=by rw [envOf_at];rfl
  have e1:(envOf [LV.agg [st,lo], .agg [st2,lo2]]).at 1 = .agg [st2,lo2]:=by rw [envOf_at];rfl
  generalize envOf [LV.agg [st,lo], .agg [st2,lo2]]=e at *
  unfold l10
  dsimp only [jA,jD,qL,qF,qK,qO,qm,ql]
  repeat' (first | refine gA trivial ?_ | (refine gB trivial ?_;intro bb hbb;cases bb<;>(try simp only [hbs,if_false,reduceCtorEq] at hbb)) | apply qc_seq | fail)
  refine q_pure hG0 (hi1) (by first | exact wN | (apply wG;(simp only [lk,Nat.reduceEqDiff,reduceIte,e0,e1];(try rfl);done))) (by simp only [List.map,lk,Nat.reduceEqDiff,reduceIte,e0,e1];try rfl) (by first | trivial | (simp only [Chks,wantedG,LOp.run,Env.put_some,Env.put_none,lk,sv1,sv2,sv3,Nat.reduceEqDiff,Nat.reduceAdd,Nat.reduceLeDiff,reduceIte,if_false,if_true,mkVal,unLV,List.map,optTmps,beq_self_eq_true,reduceCtorEq,false_or,true_and,and_true,Option.some.injEq, *];done)) ?_
  simp only [Env.put_some]
  repeat' (first | refine gA trivial ?_ | (refine gB trivial ?_;intro bb hbb;cases bb<;>(try simp only [hbs,if_false,reduceCtorEq] at hbb)) | apply qc_seq | fail)
  refine q_pure hG0 (hi2) (by first | exact wN | (apply wG;(simp only [lk,Nat.reduceEqDiff,reduceIte,e0,e1];(try rfl);done))) (by simp only [List.map,lk,Nat.reduceEqDiff,reduceIte,e0,e1];try rfl) (by first | trivial | (simp only [Chks,wantedG,LOp.run,Env.put_some,Env.put_none,lk,sv1,sv2,sv3,Nat.reduceEqDiff,Nat.reduceAdd,Nat.reduceLeDiff,reduceIte,if_false,if_true,mkVal,unLV,List.map,optTmps,beq_self_eq_true,reduceCtorEq,false_or,true_and,and_true,Option.some.injEq, *];done)) ?_
  simp only [Env.put_some]
  repeat' (first | refine gA trivial ?_ | (refine gB trivial ?_;intro bb hbb;cases bb<;>(try simp only [hbs,if_false,reduceCtorEq] at hbb)) | apply qc_seq | fail)
  exact ⟨.inr trivial,ef⟩
end Go.Proofs.YtmblpcidfjemhaaDoor
end
