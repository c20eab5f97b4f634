/- The document's Check. -/
import Derived.Test.YtgobbogomchnhaaGreatDoorRnrm
import Derived.Test.YtgobbogomchnhaaGreatDoorRval
import Derived.Test.YtgobbogomchnhaaGreatDoorAt
import Derived.Test.YtgobbogomchnhaaGreatDoorRsm
set_option linter.unusedSimpArgs false
set_option linter.unusedVariables false
namespace Go.Proofs.YtgobbogomchnhaaGreatDoor
open Go Go.Pv Go.Aut Go.Bfs
open Classical
set_option maxHeartbeats 4000000 in
theorem pat_ok {st lo:LV} {S L:List Int} (hS:IsInts st S) (hL:IsInts lo L) (h1:1≤L.length) (h2:S.length≤1000) (h3:L.length≤1000) {i:Nat} (hi:i≤1000000):PO 66 [.agg [st,lo], .int .i64 (i:Int)] (.int .i64 (lett S L i)):=by
 have hcl:(LV.agg [st,lo]).closed=true:=by simp [LV.closed,LV.closed.closedAll,hS.closed,hL.closed]
 have hc1:=hS.sl.cell
 have hc2:=hL.sl.cell
 have hSl:=hS.sl.len
 have hLl:=hL.sl.len
 refine q_fn (t:=4) hm Tryz.func66 (by decide +kernel) c66 (Nat.le_of_ble_eq_true rfl) (by simp [LV.closed.closedAll,hcl];rfl) rfl rfl ?_
 have e0:(envOf [LV.agg [st,lo], .int .i64 (i:Int)]).at 0 = .agg [st,lo]:=by rw [envOf_at];rfl
 have e1:(envOf [LV.agg [st,lo], .int .i64 (i:Int)]).at 1 = .int .i64 (i:Int):=by rw [envOf_at];rfl
 generalize envOf [LV.agg [st,lo], .int .i64 (i:Int)]=e at *
 unfold l66
 dsimp only [jA,jB,qM,qL,qF,qS,qI,qB,qC,qO,qm,ql]
 by_cases hil:i<S.length
 ·have hiI:(i:Int)<(S.length:Int):=by omega
  repeat' (first | refine gA (And.intro @hSl (And.intro (@iaN _ _ _ hS.sl) @ints_get)) ?_ | (refine gB (And.intro @hSl (And.intro (@iaN _ _ _ hS.sl) @ints_get)) ?_;intro bb hbb;cases bb<;>(try simp only [hbs,if_false,reduceCtorEq] at hbb)) | apply qc_seq | fail)
  all_goals first
   | (exfalso;omega)
   | skip
  refine ⟨.inr trivial,?_⟩
  simp only [lk,sv1,sv2,sv3,Nat.reduceEqDiff,Nat.reduceAdd,Nat.reduceLeDiff,reduceIte,if_false,if_true,mkVal,unLV,List.map,optTmps,lett,if_pos hil]
 ·have hw:IntKind.i64.wrap ((i:Int) - (S.length:Int))=((i - S.length:Nat):Int):=by rw [wrap_i64 _ (by omega) (by omega)];omega
  have hrem:=rem_nat (i - S.length) (m:=L.length) (by omega)
  have hlt:(i - S.length) % L.length<L.length:=Nat.mod_lt _ (by omega)
  have hiI:(((i - S.length) % L.length:Nat):Int)<(L.length:Int):=by omega
  have hlett:lett S L i=L.getD ((i - S.length) % L.length) 0:=by simp only [lett,if_neg hil]
  rw [hlett]
  generalize (i - S.length) % L.length=k at *
  repeat' (first | refine gA (And.intro @hSl (And.intro @hLl (And.intro @hw (And.intro @hrem (And.intro (@iaN _ _ _ hL.sl) @ints_get))))) ?_ | (refine gB (And.intro @hSl (And.intro @hLl (And.intro @hw (And.intro @hrem (And.intro (@iaN _ _ _ hL.sl) @ints_get))))) ?_;intro bb hbb;cases bb<;>(try simp only [hbs,if_false,reduceCtorEq] at hbb)) | apply qc_seq | fail)
  all_goals first
   | (exfalso;omega)
   | skip
  refine ⟨.inr trivial,?_⟩
  simp only [lk,sv1,sv2,sv3,Nat.reduceEqDiff,Nat.reduceAdd,Nat.reduceLeDiff,reduceIte,if_false,if_true,mkVal,unLV,List.map,optTmps]
theorem mvs_in {B:Bu} (hok:Vb B) {p a t:Int} {g:Bool} (hp:0≤p∧p<B.next.length) (ha:0≤a∧a<B.L) (h:(t,g)∈mvs B p a):0≤t∧t<B.next.length:=by
 have hrow:=hok.2.2.2.2 p.toNat (by omega)
 have hmo:=hrow.2 a.toNat (by have:=hrow.1;omega)
 obtain ⟨k,hk⟩:=List.mem_iff_getElem?.1 h
 obtain ⟨hk1,hk2⟩:=List.getElem?_eq_some_iff.1 hk
 have:=hmo k hk1
 have hgd:((B.next.getD p.toNat []).getD a.toNat []).getD k (0,false)=(t,g):=by
  rw [List.getD_eq_getElem?_getD]
  have:((B.next.getD p.toNat []).getD a.toNat [])[k]? = some (t,g):=hk
  rw [this];rfl
 rw [hgd] at this
 exact ⟨this.1,this.2.1⟩
theorem sn_le {B:Bu} (hok:Vb B):B.start.length≤3000:=by
 have hsok:=hok.2.2.2.1
 have h3:=hok.2.2.1
 have hge:∀ i,i<B.start.length→(i:Int)≤B.start.getD i 0:=by
  intro i
  induction i with
  | zero=>intro hi;exact (hsok 0 hi).1
  | succ i ih=>
   intro hi
   have h1:=ih (by omega)
   have h2:=(hsok (i+1) hi).2.2 (by omega)
   rw [Nat.add_sub_cancel] at h2
   omega
 by_cases hz:B.start.length=0
 ·omega
 ·have h1:=hge (B.start.length - 1) (by omega)
  have h2:=(hsok (B.start.length - 1) (by omega)).2.1
  omega
theorem lett_bnd {S L:List Int} {m:Int} (ha:AllB S m) (hb:AllB L m) (hl:1≤L.length) (i:Nat):0≤lett S L i∧lett S L i<m:=by
 unfold lett
 split
 ·rename_i h;exact ha i h
 ·exact hb _ (Nat.mod_lt _ (by omega))
theorem start_in {B:Bu} (hok:Vb B) {p:Int} (h:p∈B.start):0≤p∧p<B.next.length:=by
 have:=start_nat hok h
 omega
set_option maxHeartbeats 16000000 in
theorem rchk_ok {v st lo pv qv:LV} {B:Bu} {sv nv:LV} {S L P Q:List Int} (hB:IsB v B sv nv) (hS:IsInts st S) (hL:IsInts lo L) (hP:IsInts pv P) (hQ:IsInts qv Q) (hPl:P.length≤40) (hQl:Q.length≤40) :
  PO 23 [v, .agg [st,lo], .agg [pv,qv]] (.bool (decide (CK B S L P Q))):=by
 rw [show decide (CK B S L P Q)=decide (CK2 B S L P Q) from decide_eq_decide.2 ck2_iff.symm]
 have hvc:=hB.closed
 have hcl:(LV.agg [st,lo]).closed=true:=by simp [LV.closed,LV.closed.closedAll,hS.closed,hL.closed]
 have hcp:(LV.agg [pv,qv]).closed=true:=by simp [LV.closed,LV.closed.closedAll,hP.closed,hQ.closed]
 have hc1:=hS.sl.cell
 have hc2:=hL.sl.cell
 have hc5:=hP.sl.cell
 have hc6:=hQ.sl.cell
 have hSl:=hS.sl.len
 have hLl:=hL.sl.len
 have hPll:=hP.sl.len
 have hQll:=hQ.sl.len
 have hrd:=ready_ok hB hS hL
 have hat:=fun (h1:1≤Q.length) (i:Nat) (hi:i≤1000000)=>pat_ok hP hQ h1 (by omega) (by omega) hi
 have hAt:=fun (hf:Fm S L) (i:Nat) (hi:i≤1000000)=>At_ok hS hL hf hi
 obtain ⟨rfl,hst,hnx⟩:=hB
 obtain ⟨vs,hn⟩:=hnx
 have hc3:=hst.sl.cell
 have hc4:=hn.sl.cell
 have hsl:=hst.sl.len
 have hnl:=hn.sl.len
 refine q_fn (t:=6) hm Tryz.func23 (by decide +kernel) c23 (Nat.le_of_ble_eq_true rfl) (by simp [LV.closed.closedAll,hcl,hvc,hcp]) rfl rfl ?_
 have e0:(envOf [.agg [.int .i64 B.L,sv,nv],LV.agg [st,lo], .agg [pv,qv]]).at 0 = .agg [.int .i64 B.L,sv,nv]:=by rw [envOf_at];rfl
 have e1:(envOf [.agg [.int .i64 B.L,sv,nv],LV.agg [st,lo], .agg [pv,qv]]).at 1 = .agg [st,lo]:=by rw [envOf_at];rfl
 have e2:(envOf [.agg [.int .i64 B.L,sv,nv],LV.agg [st,lo], .agg [pv,qv]]).at 2 = .agg [pv,qv]:=by rw [envOf_at];rfl
 generalize envOf [.agg [.int .i64 B.L,sv,nv],LV.agg [st,lo], .agg [pv,qv]]=e at *
 unfold l23
 dsimp only [jA,jB,jC,jD,qM,qL,qN,qF,qS,qI,qA,qB,qC,qK,qO,qP,qm,ql]
 repeat' (first | refine gA @hQll ?_ | (refine gB @hQll ?_;intro bb hbb;cases bb<;>(try simp only [hbs,if_false,reduceCtorEq] at hbb)) | apply qc_seq | fail)
 rotate_left
 ·refine ⟨.inr trivial,?_⟩
  simp only [lk,sv1,sv2,sv3,Nat.reduceEqDiff,Nat.reduceAdd,Nat.reduceLeDiff,reduceIte,if_false,if_true,mkVal,unLV,List.map,optTmps]
  exact bool_f fun h=>by have:=h.q1;omega
 have hq1:1≤Q.length:=by omega
 refine q_pureB hG0 hrd (wG ef) (by simp only [List.map,lk,sv1,sv2,sv3,Nat.reduceEqDiff,Nat.reduceAdd,Nat.reduceLeDiff,reduceIte,if_false,if_true,mkVal,unLV,List.map,optTmps]) (fun b hb=>⟨trivial,?_⟩)
 simp only [Env.put_some]
 cases b with
 | false=>
  have hb':=of_decide_eq_false hb
  repeat' (first | refine gA trivial ?_ | (refine gB trivial ?_;intro bb hbb;cases bb<;>(try simp only [hbs,if_false,reduceCtorEq] at hbb)) | apply qc_seq | fail)
  refine ⟨.inr trivial,?_⟩
  simp only [lk,sv1,sv2,sv3,Nat.reduceEqDiff,Nat.reduceAdd,Nat.reduceLeDiff,reduceIte,if_false,if_true,mkVal,unLV,List.map,optTmps]
  exact bool_f fun h=>hb' ⟨h.vb,h.fm⟩
 | true=>
 obtain ⟨hok,hf,ha,hbL⟩:=of_decide_eq_true hb
 obtain ⟨f1,f2,f3,-⟩:=id hf
 clear hb hbb
 repeat' (first | refine gA trivial ?_ | (refine gB trivial ?_;intro bb hbb;cases bb<;>(try simp only [hbs,if_false,reduceCtorEq] at hbb)) | apply qc_seq | fail)
 refine q_pure hG0 (hat hq1 0 (by omega)) wN (by simp only [List.map,lk,sv1,sv2,sv3,Nat.reduceEqDiff,Nat.reduceAdd,Nat.reduceLeDiff,reduceIte,if_false,if_true,mkVal,unLV,List.map,optTmps];rfl) trivial ?_
 simp only [Env.put_some]
 repeat' (first | refine gA trivial ?_ | (refine gB trivial ?_;intro bb hbb;cases bb<;>(try simp only [hbs,if_false,reduceCtorEq] at hbb)) | apply qc_seq | fail)
 have hsn:B.start.length≤1000000:=by
  have:=sn_le hok
  omega
 refine qc_mono (fun o e s=>o = .jmp (.exit 0)∧s=St.empty∧e.at 3 = .pimm [.int .i64 B.L,sv,nv] 0∧e.at 4 = .pimm [st,lo] 0∧e.at 5 = .pimm [pv,qv] 0∧e.at 8 = .bool (decide (lett P Q 0∈B.start))) ?_ ?_
 ·refine qc_loop (fun m e s=>∃ (i:Nat) (sb:Bool),m=B.start.length - i∧i≤B.start.length∧s=St.empty∧(sb=true↔∃ j,j<i∧B.start.getD j 0=lett P Q 0)∧e.at 3 = .pimm [.int .i64 B.L,sv,nv] 0∧e.at 4 = .pimm [st,lo] 0∧e.at 5 = .pimm [pv,qv] 0∧e.at 7 = .int .i64 (lett P Q 0)∧e.at 8 = .bool sb∧e.at 9 = .int .i64 (i:Int)) _
   ⟨0,false,rfl,by omega,rfl,⟨fun h=>(by cases h),fun ⟨j,hj,_⟩=>by omega⟩,ef,ef,ef,ef,ef,by simp only [lk,sv1,sv2,sv3,Nat.reduceEqDiff,Nat.reduceAdd,Nat.reduceLeDiff,reduceIte,if_false,if_true,mkVal,unLV,List.map,optTmps];rfl⟩ ?_
  clear e0 e1 e2
  clear e
  rintro m e s ⟨i,sb,rfl,hi,rfl,hsb,e3,e4,e5,e7,e8,e9⟩
  by_cases hil:i<B.start.length
  ·have hiI:(i:Int)<(B.start.length:Int):=by omega
   have hw:IntKind.i64.wrap ((i:Int)+1)=((i+1:Nat):Int):=by rw [wrap_i64 _ (by omega) (by omega)];rfl
   have fin:∀ sb':Bool,(sb'=true↔sb=true∨B.start.getD i 0=lett P Q 0)→(sb'=true↔∃ j,j<i+1∧B.start.getD j 0=lett P Q 0):=fun sb' h=>by
    rw [h,hsb]
    constructor
    ·rintro (⟨j,h1,h2⟩ | h)
     ·exact ⟨j,by omega,h2⟩
     ·exact ⟨i,by omega,h⟩
    ·rintro ⟨j,h1,h2⟩
     by_cases hji:j<i
     ·exact .inl ⟨j,hji,h2⟩
     ·obtain rfl:j=i:=by omega
      exact .inr h2
   cases sb with
   | true=>
    repeat' (first | refine gA @hsl ?_ | (refine gB @hsl ?_;intro bb hbb;cases bb<;>(try simp only [hbs,if_false,reduceCtorEq] at hbb)) | apply qc_seq | fail)
    ·exfalso;omega
    ·exact ⟨B.start.length - (i+1),by omega,i+1,true,rfl,by omega,trivial,fin true (by simp),ef,ef,ef,ef,ef,ef⟩
   | false=>
    repeat' (first | refine gA (And.intro @hsl (And.intro (@iaN _ _ _ hst.sl) @ints_get)) ?_ | (refine gB (And.intro @hsl (And.intro (@iaN _ _ _ hst.sl) @ints_get)) ?_;intro bb hbb;cases bb<;>(try simp only [hbs,if_false,reduceCtorEq] at hbb)) | apply qc_seq | fail)
    ·exfalso;omega
    ·exact ⟨B.start.length - (i+1),by omega,i+1,false,rfl,by omega,trivial,fin false (by simp;exact hbb),ef,ef,ef,ef,ef,ef⟩
    ·exact ⟨B.start.length - (i+1),by omega,i+1,true,rfl,by omega,trivial,fin true (by simp;exact hbb),ef,ef,ef,ef,ef,ef⟩
  ·have hi':i=B.start.length:=by omega
   subst hi'
   have hsd:sb=decide (lett P Q 0∈B.start):=by
    have:(∃ j,j<B.start.length∧B.start.getD j 0=lett P Q 0)↔lett P Q 0∈B.start:=by
     constructor
     ·rintro ⟨j,h1,h2⟩
      rw [← h2,List.getD_eq_getElem?_getD,List.getElem?_eq_getElem h1]
      exact List.getElem_mem h1
     ·intro h
      obtain ⟨j,h1,h2⟩:=List.mem_iff_getElem.1 h
      exact ⟨j,h1,by rw [List.getD_eq_getElem?_getD,List.getElem?_eq_getElem h1];exact h2⟩
    rw [this] at hsb
    cases sb with
    | true=>exact (decide_eq_true (hsb.1 rfl)).symm
    | false=>exact (decide_eq_false fun h=>by have:=hsb.2 h;cases this).symm
   repeat' (first | refine gA @hsl ?_ | (refine gB @hsl ?_;intro bb hbb;cases bb<;>(try simp only [hbs,if_false,reduceCtorEq] at hbb)) | apply qc_seq | fail)
   ·exact ⟨trivial,trivial,ef,ef,ef,ef⟩
   ·exfalso;omega
 clear e0 e1 e2
 clear e
 rintro o e s ⟨rfl,rfl,e3,e4,e5,e8⟩
 have hpb:max (P.length:Int) (S.length:Int)=(pbef S P:Int):=by unfold pbef;omega
 have hpl:pbef S P≤60:=by unfold pbef;omega
 have hQL:Q.length*L.length≤40*40:=Nat.mul_le_mul hQl f3
 have hwm:IntKind.i64.wrap ((Q.length:Int)*(L.length:Int))=((Q.length*L.length:Nat):Int):=by
  have hqc:(Q.length:Int)*(L.length:Int)=((Q.length*L.length:Nat):Int):=(Int.natCast_mul _ _).symm
  rw [hqc,wrap_i64 _ (by omega) (by omega)]
 have hwa:IntKind.i64.wrap ((pbef S P:Int)+((Q.length*L.length:Nat):Int))=((pbef S P+Q.length*L.length:Nat):Int):=by rw [wrap_i64 _ (by omega) (by omega)];rfl
 repeat' (first | refine gA (And.intro @hPll (And.intro @hSl (And.intro @hQll @hLl))) ?_ | (refine gB (And.intro @hPll (And.intro @hSl (And.intro @hQll @hLl))) ?_;intro bb hbb;cases bb<;>(try simp only [hbs,if_false,reduceCtorEq] at hbb)) | apply qc_seq | fail)
 have hend:pbef S P+Q.length*L.length≤1660:=by omega
 generalize hen:pbef S P+Q.length*L.length=en at *
 generalize hbe:pbef S P=be at *
 by_cases hst0:lett P Q 0∈B.start
 rotate_left
 ·rw [decide_eq_false hst0] at e8
  refine qc_loop (fun m e s=>s=St.empty∧e.at 8 = .bool false∧e.at 11 = .int .i64 (en:Int)∧e.at 13 = .int .i64 0) 0 ⟨rfl,ef,ef,ef⟩ ?_
  clear e3 e4 e5 e8
  clear e
  rintro m e s ⟨rfl,e8,e11,e13⟩
  repeat' (first | refine gA trivial ?_ | (refine gB trivial ?_;intro bb hbb;cases bb<;>(try simp only [hbs,if_false,reduceCtorEq] at hbb)) | apply qc_seq | fail)
  all_goals
   refine ⟨.inr trivial,?_⟩
   simp only [lk,sv1,sv2,sv3,Nat.reduceEqDiff,Nat.reduceAdd,Nat.reduceLeDiff,reduceIte,if_false,if_true,mkVal,unLV,List.map,optTmps]
   exact bool_f fun h=>hst0 h.st
 rw [decide_eq_true hst0] at e8
 refine qc_loop (fun m e s=>∃ (i:Nat) (g:Bool),m=en - i∧i≤en∧s=St.empty∧(0≤lett P Q i∧lett P Q i<B.next.length)∧(∀ j,j<i→∃ g,(lett P Q (j+1),g)∈mvs B (lett P Q j) (lett S L j))∧(g=true↔∃ j,j<i∧be≤j∧(lett P Q (j+1),true)∈mvs B (lett P Q j) (lett S L j))∧e.at 3 = .pimm [.int .i64 B.L,sv,nv] 0∧e.at 4 = .pimm [st,lo] 0∧e.at 5 = .pimm [pv,qv] 0∧e.at 8 = .bool true∧e.at 10 = .int .i64 (be:Int)∧e.at 11 = .int .i64 (en:Int)∧e.at 12 = .bool g∧e.at 13 = .int .i64 (i:Int)) _
  ⟨0,false,rfl,by omega,rfl,start_in hok hst0,fun j hj=>by omega,⟨fun h=>(by cases h),fun ⟨j,hj,_⟩=>by omega⟩,ef,ef,ef,ef,ef,ef,ef,by simp only [lk,sv1,sv2,sv3,Nat.reduceEqDiff,Nat.reduceAdd,Nat.reduceLeDiff,reduceIte,if_false,if_true,mkVal,unLV,List.map,optTmps];rfl⟩ ?_
 clear e3 e4 e5 e8
 clear e
 rintro m e s ⟨i,g,rfl,hi,rfl,hin,hmv,hgd,e3,e4,e5,e8,e10,e11,e12,e13⟩
 by_cases hil:i<en
 ·have hiI:(i:Int)<(en:Int):=by omega
  have hw:IntKind.i64.wrap ((i:Int)+1)=((i+1:Nat):Int):=by rw [wrap_i64 _ (by omega) (by omega)];rfl
  repeat' (first | refine gA trivial ?_ | (refine gB trivial ?_;intro bb hbb;cases bb<;>(try simp only [hbs,if_false,reduceCtorEq] at hbb)) | apply qc_seq | fail)
  ·exfalso;omega
  refine q_pure hG0 (hat hq1 i (by omega)) wN (by simp only [List.map,lk,sv1,sv2,sv3,Nat.reduceEqDiff,Nat.reduceAdd,Nat.reduceLeDiff,reduceIte,if_false,if_true,mkVal,unLV,List.map,optTmps]) trivial ?_
  simp only [Env.put_some]
  repeat' (first | refine gA @hnl ?_ | (refine gB @hnl ?_;intro bb hbb;cases bb<;>(try simp only [hbs,if_false,reduceCtorEq] at hbb)) | apply qc_seq | fail)
  rotate_left
  ·exfalso;omega
  ·exfalso;omega
  have hlb:=lett_bnd ha hbL f2 i
  obtain ⟨ws,hr⟩:=hn.row (lett P Q i).toNat (by omega)
  have hrow:=hok.2.2.2.2 (lett P Q i).toNat (by omega)
  have hlq:(lett S L i).toNat<(B.next.getD (lett P Q i).toNat []).length:=by have:=hrow.1;omega
  have hmw:=hr.row _ hlq
  have i1:∀ t:St,iaLV 1 nv (.int .i64 (lett P Q i)) t=some (.pimm vs (lett P Q i).toNat,t):=fun t=>by
   have:=iaI (esz:=1) (k:=.i64) (s:=t) hn.sl hin.1 (by omega)
   simpa using this
  have g1:vs[(lett P Q i).toNat]? = some (vs.getD (lett P Q i).toNat .top):=hn.get (by omega)
  have i3:∀ t:St,iaLV 1 (vs.getD (lett P Q i).toNat .top) (.int .i64 (lett S L i)) t=some (.pimm ws (lett S L i).toNat,t):=fun t=>by
   have:=iaI (esz:=1) (k:=.i64) (s:=t) hr.sl hlb.1 (by have:=hrow.1;omega)
   simpa using this
  have g3:ws[(lett S L i).toNat]? = some (ws.getD (lett S L i).toNat .top):=hr.get hlq
  repeat' (first | refine gA (And.intro @i1 @g1) ?_ | (refine gB (And.intro @i1 @g1) ?_;intro bb hbb;cases bb<;>(try simp only [hbs,if_false,reduceCtorEq] at hbb)) | apply qc_seq | fail)
  refine q_pure hG0 (hAt hf i (by omega)) wN (by simp only [List.map,lk,sv1,sv2,sv3,Nat.reduceEqDiff,Nat.reduceAdd,Nat.reduceLeDiff,reduceIte,if_false,if_true,mkVal,unLV,List.map,optTmps]) ?_ ?_
  ·simp only [Env.put_some]
   exact ⟨chk_load (p:=.pimm [.int .i64 B.L,sv,nv] (0+2)) (v:=nv) ef rfl ef,chk_load (p:=.pimm vs (lett P Q i).toNat) ef (load_imm g1) ef,trivial⟩
  simp only [Env.put_some]
  repeat' (first | refine gA (And.intro @i3 @g3) ?_ | (refine gB (And.intro @i3 @g3) ?_;intro bb hbb;cases bb<;>(try simp only [hbs,if_false,reduceCtorEq] at hbb)) | apply qc_seq | fail)
  generalize hms:(B.next.getD (lett P Q i).toNat []).getD (lett S L i).toNat []=ms at hmw
  have hmvs:mvs B (lett P Q i) (lett S L i)=ms:=hms
  generalize ws.getD (lett S L i).toNat .top=mv at *
  have hml:=hmw.sl.len
  have hmlen:=hmw.len
  have hmx:maxLen=9223372036854775807:=by decide
  have w1:IntKind.i64.wrap ((i:Int)+1)=((i+1:Nat):Int):=hw
  refine qc_mono (fun o e s=>o = .jmp (.exit 4)∧s=St.empty∧∃ f g':Bool,(f=true↔∃ m'∈ms,m'.1=lett P Q (i+1))∧(g'=true↔g=true∨(be≤i∧∃ m'∈ms,m'.1=lett P Q (i+1)∧m'.2=true))∧e.at 3 = .pimm [.int .i64 B.L,sv,nv] 0∧e.at 4 = .pimm [st,lo] 0∧e.at 5 = .pimm [pv,qv] 0∧e.at 8 = .bool true∧e.at 10 = .int .i64 (be:Int)∧e.at 11 = .int .i64 (en:Int)∧e.at 12 = .bool g'∧e.at 13 = .int .i64 (i:Int)∧e.at 16 = .bool f) ?_ ?_
  ·refine qc_loop (fun m e s=>∃ (k:Nat) (f g':Bool),m=ms.length - k∧k≤ms.length∧s=St.empty∧(f=true↔∃ m'∈ms.take k,m'.1=lett P Q (i+1))∧(g'=true↔g=true∨(be≤i∧∃ m'∈ms.take k,m'.1=lett P Q (i+1)∧m'.2=true))∧e.at 3 = .pimm [.int .i64 B.L,sv,nv] 0∧e.at 4 = .pimm [st,lo] 0∧e.at 5 = .pimm [pv,qv] 0∧e.at 8 = .bool true∧e.at 10 = .int .i64 (be:Int)∧e.at 11 = .int .i64 (en:Int)∧e.at 12 = .bool g'∧e.at 13 = .int .i64 (i:Int)∧e.at 15=mv∧e.at 16 = .bool f∧e.at 17 = .int .i64 (k:Int)) _
    ⟨0,false,g,rfl,by omega,rfl,by simp,by simp,ef,ef,ef,ef,ef,ef,ef,ef,ef,ef,by simp only [lk,sv1,sv2,sv3,Nat.reduceEqDiff,Nat.reduceAdd,Nat.reduceLeDiff,reduceIte,if_false,if_true,mkVal,unLV,List.map,optTmps];rfl⟩ ?_
   clear e3 e4 e5 e8 e10 e11 e12 e13
   clear e
   rintro m e s ⟨k,f,g',rfl,hk,rfl,hf',hg',e3,e4,e5,e8,e10,e11,e12,e13,e15,e16,e17⟩
   by_cases hkl:k<ms.length
   ·obtain ⟨mm,hmm⟩:∃ mm,ms[k]? = some mm:=⟨_,List.getElem?_eq_getElem hkl⟩
    have hgd':ms.getD k (0,false)=mm:=by rw [List.getD_eq_getElem?_getD,hmm];rfl
    have hkI:(k:Int)<(ms.length:Int):=by omega
    have hwk:IntKind.i64.wrap ((k:Int)+1)=((k+1:Nat):Int):=by rw [wrap_i64 _ (by omega) (by omega)];rfl
    have lm:∀ t:St,loadLV none (.pimm (mcells ms) (k*2+0)) t=some (.int .i64 mm.1):=fun t=>by
     have:=mcells_get0 hkl
     rw [hgd'] at this
     exact load_imm this
    have lb:∀ t:St,loadLV none (.pimm (mcells ms) (k*2+1)) t=some (.bool mm.2):=fun t=>by
     have:=mcells_get1 hkl
     rw [hgd'] at this
     exact load_imm this
    have fin1:∀ f2:Bool,(f2=true↔f=true∨mm.1=lett P Q (i+1))→(f2=true↔∃ m'∈ms.take (k+1),m'.1=lett P Q (i+1)):=fun f2 h=>by
     rw [h,hf',take_snoc hmm]
     simp only [List.mem_append,List.mem_singleton]
     constructor
     ·rintro (⟨m',h1,h2⟩ | h)
      ·exact ⟨m', .inl h1,h2⟩
      ·exact ⟨mm, .inr rfl,h⟩
     ·rintro ⟨m',h1 | rfl,h2⟩
      ·exact .inl ⟨m',h1,h2⟩
      ·exact .inr h2
    have fin2:∀ g2:Bool,(g2=true↔g'=true∨(be≤i∧mm.1=lett P Q (i+1)∧mm.2=true))→(g2=true↔g=true∨(be≤i∧∃ m'∈ms.take (k+1),m'.1=lett P Q (i+1)∧m'.2=true)):=fun g2 h=>by
     rw [h,hg',take_snoc hmm]
     simp only [List.mem_append,List.mem_singleton]
     constructor
     ·rintro ((h | ⟨h1,m',h2,h3⟩) | ⟨h1,h2⟩)
      ·exact .inl h
      ·exact .inr ⟨h1,m', .inl h2,h3⟩
      ·exact .inr ⟨h1,mm, .inr rfl,h2⟩
     ·rintro (h | ⟨h1,m',h2 | rfl,h3⟩)
      ·exact .inl (.inl h)
      ·exact .inl (.inr ⟨h1,m',h2,h3⟩)
      ·exact .inr ⟨h1,h3⟩
    repeat' (first | refine gA (And.intro @hml (And.intro (@iaN _ _ _ hmw.sl) @lm)) ?_ | (refine gB (And.intro @hml (And.intro (@iaN _ _ _ hmw.sl) @lm)) ?_;intro bb hbb;cases bb<;>(try simp only [hbs,if_false,reduceCtorEq] at hbb)) | apply qc_seq | fail)
    ·exfalso;omega
    rw [hw]
    refine q_pure hG0 (hat hq1 (i+1) (by omega)) wN (by simp only [List.map,lk,sv1,sv2,sv3,Nat.reduceEqDiff,Nat.reduceAdd,Nat.reduceLeDiff,reduceIte,if_false,if_true,mkVal,unLV,List.map,optTmps]) ?_ ?_
    ·simp only [Env.put_some]
     exact ⟨chk_load (p:=.pimm (mcells ms) (k*2+0)) ef (lm _) ef,trivial⟩
    simp only [Env.put_some]
    obtain ⟨mt,mb⟩:=mm
    simp only at lm lb fin1 fin2
    cases g' with
    | true=>
     repeat' (first | refine gA (And.intro (@iaN _ _ _ hmw.sl) @lb) ?_ | (refine gB (And.intro (@iaN _ _ _ hmw.sl) @lb) ?_;intro bb hbb;cases bb<;>(try simp only [hbs,if_false,reduceCtorEq] at hbb)) | apply qc_seq | fail)
     ·exact ⟨ms.length - (k+1),by omega,k+1,f,true,rfl,by omega,trivial,fin1 f (by simp [hbb]),fin2 true (by simp),ef,ef,ef,ef,ef,ef,ef,ef,ef,ef,ef⟩
     ·exact ⟨ms.length - (k+1),by omega,k+1,true,true,rfl,by omega,trivial,fin1 true (by simp [hbb]),fin2 true (by simp),ef,ef,ef,ef,ef,ef,ef,ef,ef,ef,ef⟩
    | false=>
     cases mb with
     | true=>
      repeat' (first | refine gA (And.intro (@iaN _ _ _ hmw.sl) @lb) ?_ | (refine gB (And.intro (@iaN _ _ _ hmw.sl) @lb) ?_;intro bb hbb;cases bb<;>(try simp only [hbs,if_false,reduceCtorEq] at hbb)) | apply qc_seq | fail)
      ·exact ⟨ms.length - (k+1),by omega,k+1,f,false,rfl,by omega,trivial,fin1 f (by simp [hbb]),fin2 false (by simp [hbb]),ef,ef,ef,ef,ef,ef,ef,ef,ef,ef,ef⟩
      ·exact ⟨ms.length - (k+1),by omega,k+1,true,false,rfl,by omega,trivial,fin1 true ⟨fun _=>.inr (by assumption),fun _=>rfl⟩,fin2 false (by simp;intro h;omega),ef,ef,ef,ef,ef,ef,ef,ef,ef,ef,ef⟩
      ·exact ⟨ms.length - (k+1),by omega,k+1,true,true,rfl,by omega,trivial,fin1 true ⟨fun _=>.inr (by assumption),fun _=>rfl⟩,fin2 true ⟨fun _=>.inr ⟨by omega,by assumption,rfl⟩,fun _=>rfl⟩,ef,ef,ef,ef,ef,ef,ef,ef,ef,ef,ef⟩
     | false=>
      repeat' (first | refine gA (And.intro (@iaN _ _ _ hmw.sl) @lb) ?_ | (refine gB (And.intro (@iaN _ _ _ hmw.sl) @lb) ?_;intro bb hbb;cases bb<;>(try simp only [hbs,if_false,reduceCtorEq] at hbb)) | apply qc_seq | fail)
      ·exact ⟨ms.length - (k+1),by omega,k+1,f,false,rfl,by omega,trivial,fin1 f (by simp [hbb]),fin2 false (by simp),ef,ef,ef,ef,ef,ef,ef,ef,ef,ef,ef⟩
      ·exact ⟨ms.length - (k+1),by omega,k+1,true,false,rfl,by omega,trivial,fin1 true (by simp [hbb]),fin2 false (by simp),ef,ef,ef,ef,ef,ef,ef,ef,ef,ef,ef⟩
   ·have hk':k=ms.length:=by omega
    subst hk'
    rw [List.take_length] at hf' hg'
    repeat' (first | refine gA @hml ?_ | (refine gB @hml ?_;intro bb hbb;cases bb<;>(try simp only [hbs,if_false,reduceCtorEq] at hbb)) | apply qc_seq | fail)
    ·exact ⟨trivial,trivial,f,g',hf',hg',ef,ef,ef,ef,ef,ef,ef,ef,ef⟩
    ·exfalso;omega
  clear e3 e4 e5 e8 e10 e11 e12 e13
  clear e
  rintro o e s ⟨rfl,rfl,f,g',hf',hg',e3,e4,e5,e8,e10,e11,e12,e13,e16⟩
  have hex:(∃ m'∈ms,m'.1=lett P Q (i+1))↔∃ b,(lett P Q (i+1),b)∈mvs B (lett P Q i) (lett S L i):=by
   rw [hmvs]
   constructor
   ·rintro ⟨⟨a,b⟩,h1,rfl⟩
    exact ⟨b,h1⟩
   ·rintro ⟨b,h⟩
    exact ⟨_,h,rfl⟩
  have hex2:(∃ m'∈ms,m'.1=lett P Q (i+1)∧m'.2=true)↔(lett P Q (i+1),true)∈mvs B (lett P Q i) (lett S L i):=by
   rw [hmvs]
   constructor
   ·rintro ⟨⟨a,b⟩,h1,rfl,rfl⟩
    exact h1
   ·intro h
    exact ⟨_,h,rfl,rfl⟩
  rw [hex] at hf'
  rw [hex2] at hg'
  cases f with
  | false=>
   repeat' (first | refine gA trivial ?_ | (refine gB trivial ?_;intro bb hbb;cases bb<;>(try simp only [hbs,if_false,reduceCtorEq] at hbb)) | apply qc_seq | fail)
   refine ⟨.inr trivial,?_⟩
   simp only [lk,sv1,sv2,sv3,Nat.reduceEqDiff,Nat.reduceAdd,Nat.reduceLeDiff,reduceIte,if_false,if_true,mkVal,unLV,List.map,optTmps]
   exact bool_f fun h=>by
    have:=hf'.2 (h.mv i (by rw [hbe,hen];exact hil))
    cases this
  | true=>
   have hst2:=hf'.1 rfl
   repeat' (first | refine gA trivial ?_ | (refine gB trivial ?_;intro bb hbb;cases bb<;>(try simp only [hbs,if_false,reduceCtorEq] at hbb)) | apply qc_seq | fail)
   refine ⟨en - (i+1),by omega,i+1,g',rfl,by omega,trivial,?_,fun j hj=>?_,?_,ef,ef,ef,ef,ef,ef,ef,ef⟩
   ·obtain ⟨b,hb⟩:=hst2
    exact mvs_in hok hin hlb hb
   ·by_cases h:j<i
    ·exact hmv j h
    ·obtain rfl:j=i:=by omega
     exact hst2
   ·rw [hg',hgd]
    constructor
    ·rintro (⟨j,h1,h2⟩ | ⟨h1,h2⟩)
     ·exact ⟨j,by omega,h2⟩
     ·exact ⟨i,by omega,h1,h2⟩
    ·rintro ⟨j,h1,h2,h3⟩
     by_cases h:j<i
     ·exact .inl ⟨j,h,h2,h3⟩
     ·obtain rfl:j=i:=by omega
      exact .inr ⟨h2,h3⟩
 ·have hi':i=en:=by omega
  subst hi'
  repeat' (first | refine gA trivial ?_ | (refine gB trivial ?_;intro bb hbb;cases bb<;>(try simp only [hbs,if_false,reduceCtorEq] at hbb)) | apply qc_seq | fail)
  rotate_left
  ·exfalso;omega
  refine ⟨.inr trivial,?_⟩
  simp only [lk,sv1,sv2,sv3,Nat.reduceEqDiff,Nat.reduceAdd,Nat.reduceLeDiff,reduceIte,if_false,if_true,mkVal,unLV,List.map,optTmps]
  have key:CK2 B S L P Q↔g=true:=by
   rw [hgd]
   constructor
   ·intro h
    obtain ⟨j,h1,h2,h3⟩:=h.gd
    rw [hbe,hen] at h1
    rw [hbe] at h2
    exact ⟨j,h1,h2,h3⟩
   ·rintro ⟨j,h1,h2,h3⟩
    exact ⟨hok,⟨hf,ha,hbL⟩,hq1,hst0,fun i' hi'=>hmv i' (by rw [hbe,hen] at hi';exact hi'),j,by rw [hbe,hen];exact h1,by rw [hbe];exact h2,h3⟩
  cases g with
  | true=>exact bool_t (key.2 rfl)
  | false=>exact bool_f fun h=>by have:=key.1 h;cases this
end Go.Proofs.YtgobbogomchnhaaGreatDoor
