/- accept.Check: whether a path is an accepting run. -/
import Derived.Test.YtgobbogomchnhaaGreatDoorChk1
import Derived.Test.YtgobbogomchnhaaGreatDoorNewtrack
set_option linter.unusedSimpArgs false
set_option linter.unusedVariables false
namespace Go.Proofs.YtgobbogomchnhaaGreatDoor
open Go Go.Pv Go.Aut
open Classical
def cmv (B:Bu) (S L P Q:List Int) (i:Nat):Moves:=mvs B (lett P Q i) (lett S L i)
noncomputable def accB (B:Bu) (S L P Q:List Int) (i:Nat):Bool:=decide (∃ j,j<i∧(pbef S P≤j∧(lett P Q (j+1),true)∈cmv B S L P Q j))
theorem acc_succ {B:Bu} {S L P Q:List Int} {i:Nat} : accB B S L P Q (i+1)=(accB B S L P Q i || (decide ((lett P Q (i+1),true)∈cmv B S L P Q i) && decide (pbef S P≤i))):=by
 unfold accB
 rw [Bool.eq_iff_iff,Bool.or_eq_true,Bool.and_eq_true,decide_eq_true_eq,decide_eq_true_eq,decide_eq_true_eq,decide_eq_true_eq]
 constructor
 ·rintro ⟨j,h1,h2,h3⟩
  by_cases e:j=i
  ·exact .inr (e ▸ ⟨h3,h2⟩)
  ·exact .inl ⟨j,by omega,h2,h3⟩
 ·rintro (⟨j,h1,h2⟩ | h)
  ·exact ⟨j,by omega,h2⟩
  ·exact ⟨i,by omega,h.2,h.1⟩
theorem ck_iff {B:Bu} {S L P Q:List Int} (hv:Vb B) (hf:Fm S L∧AllB S B.L∧AllB L B.L) (h1:1≤Q.length) (hs:lett P Q 0∈B.start) (hmm:∀ j,j<pbef S P+pper L Q→∃ g,(lett P Q (j+1),g)∈cmv B S L P Q j):decide (CK B S L P Q)=accB B S L P Q (pbef S P+pper L Q):=by
 unfold accB
 rw [decide_eq_decide]
 constructor
 ·intro h
  obtain ⟨i,a,b,c⟩:=h.gd
  exact ⟨i,b,a,c⟩
 ·rintro ⟨i,a,b,c⟩
  exact ⟨hv,hf,h1,hs,hmm,i,b,a,c⟩
theorem lett_in {S L:List Int} {m:Int} (h:AllB S m∧AllB L m) (h1:1≤L.length) (i:Nat):0≤lett S L i∧lett S L i<m:=by
 simp only [lett]
 split
 ·rename_i hh;exact h.1 i hh
 ·exact h.2 _ (Nat.mod_lt _ (by omega))
set_option maxHeartbeats 16000000 in
theorem check_ok {v st lo pv qv:LV} {B:Bu} {sv nv:LV} {S L P Q:List Int} (hB:IsB v B sv nv) (hS:IsInts st S) (hL:IsInts lo L) (hP:IsInts pv P) (hQ:IsInts qv Q) (hpl:P.length≤600000) (hql:Q.length≤600001):PO 22 [v, .agg [st,lo], .agg [pv,qv]] (.bool (decide (CK B S L P Q))):=by
  have hvc:=hB.closed
  have hcl:(LV.agg [st,lo]).closed=true:=by simp [LV.closed,LV.closed.closedAll,hS.closed,hL.closed]
  have hcl2:(LV.agg [pv,qv]).closed=true:=by simp [LV.closed,LV.closed.closedAll,hP.closed,hQ.closed]
  have hc1:=hS.sl.cell
  have hc2:=hL.sl.cell
  have hc5:=hP.sl.cell
  have hc6:=hQ.sl.cell
  have hSl:=hS.sl.len
  have hLl:=hL.sl.len
  have hPl:=hP.sl.len
  have hQl:=hQ.sl.len
  have hbv:=bvalid_ok hB
  have hwv:=wvalid_ok hS hL B.L
  obtain ⟨rfl,hst,hnx⟩:=hB
  obtain ⟨vs,hn⟩:=hnx
  have hc3:=hst.sl.cell
  have hc4:=hn.sl.cell
  refine pure_tmp (t:=6) hm Tryz.func22 (by decide +kernel) c22 (Nat.le_of_ble_eq_true rfl) (by simp [LV.closed.closedAll,hcl,hcl2,hvc]) rfl rfl ?_
  have e0:(envOf [.agg [.int .i64 B.L,sv,nv],LV.agg [st,lo], .agg [pv,qv]]).at 0 = .agg [.int .i64 B.L,sv,nv]:=by rw [envOf_at];rfl
  have e1:(envOf [.agg [.int .i64 B.L,sv,nv],LV.agg [st,lo], .agg [pv,qv]]).at 1 = .agg [st,lo]:=by rw [envOf_at];rfl
  have e2:(envOf [.agg [.int .i64 B.L,sv,nv],LV.agg [st,lo], .agg [pv,qv]]).at 2 = .agg [pv,qv]:=by rw [envOf_at];rfl
  generalize envOf [.agg [.int .i64 B.L,sv,nv],LV.agg [st,lo], .agg [pv,qv]]=e at *
  refine Cd.out ?_
  unfold l22
  dsimp only [jA,jB,jC,jD,jG,jH,qM,qL,qN,qF,qS,qI,qA,qB,qC,qK,qO,qP,qG,qm,ql]
  repeat' (first | refine gA trivial ?_ | (refine gB trivial ?_;intro bb hbb;cases bb<;>(try simp only [hbs,if_false,reduceCtorEq] at hbb)) | apply qc_seq | fail)
  refine q_pureB hG0 (hbv) (by first | exact wN | (apply wG;(simp only [lk,Nat.reduceEqDiff,reduceIte,e0,e1,e2];(try rfl);done))) (by simp only [List.map,lk,Nat.reduceEqDiff,reduceIte,e0,e1,e2];try rfl) (fun bb hbb=>⟨by first | trivial | (simp only [Chks,wantedG,LOp.run,Env.put_some,Env.put_none,lk,sv1,sv2,sv3,Nat.reduceEqDiff,Nat.reduceAdd,Nat.reduceLeDiff,reduceIte,if_false,if_true,mkVal,unLV,List.map,optTmps,beq_self_eq_true,reduceCtorEq,false_or,true_and,and_true,Option.some.injEq, *];done),?_⟩)
  simp only [Env.put_some]
  cases bb<;>simp only [decide_eq_true_eq,decide_eq_false_iff_not] at hbb
  · repeat' (first | refine gA trivial ?_ | (refine gB trivial ?_;intro bb hbb;cases bb<;>(try simp only [hbs,if_false,reduceCtorEq] at hbb)) | apply qc_seq | fail)
    refine ⟨.inr trivial,?_⟩
    simp only [lk,sv1,sv2,sv3,Nat.reduceEqDiff,Nat.reduceAdd,Nat.reduceLeDiff,reduceIte,if_false,if_true,mkVal,unLV,List.map,optTmps]
    exact bool_f fun h=>hbb h.vb
  have hV:=hbb
  clear hbb
  repeat' (first | refine gA trivial ?_ | (refine gB trivial ?_;intro bb hbb;cases bb<;>(try simp only [hbs,if_false,reduceCtorEq] at hbb)) | apply qc_seq | fail)
  refine q_pureB hG0 (hwv) (by first | exact wN | (apply wG;(simp only [lk,Nat.reduceEqDiff,reduceIte,e0,e1,e2];(try rfl);done))) (by simp only [List.map,lk,Nat.reduceEqDiff,reduceIte,e0,e1,e2];try rfl) (fun bb hbb=>⟨by first | trivial | (simp only [Chks,wantedG,LOp.run,Env.put_some,Env.put_none,lk,sv1,sv2,sv3,Nat.reduceEqDiff,Nat.reduceAdd,Nat.reduceLeDiff,reduceIte,if_false,if_true,mkVal,unLV,List.map,optTmps,beq_self_eq_true,reduceCtorEq,false_or,true_and,and_true,Option.some.injEq, *];done),?_⟩)
  simp only [Env.put_some]
  cases bb<;>simp only [decide_eq_true_eq,decide_eq_false_iff_not] at hbb
  · repeat' (first | refine gA trivial ?_ | (refine gB trivial ?_;intro bb hbb;cases bb<;>(try simp only [hbs,if_false,reduceCtorEq] at hbb)) | apply qc_seq | fail)
    refine ⟨.inr trivial,?_⟩
    simp only [lk,sv1,sv2,sv3,Nat.reduceEqDiff,Nat.reduceAdd,Nat.reduceLeDiff,reduceIte,if_false,if_true,mkVal,unLV,List.map,optTmps]
    exact bool_f fun h=>hbb h.fm
  have hF:=hbb
  clear hbb
  by_cases hq1:1≤Q.length
  rotate_left
  · have hq0:(Q.length:Int)=0:=by omega
    repeat' (first | refine gA @hQl ?_ | (refine gB @hQl ?_;intro bb hbb;cases bb<;>(try simp only [hbs,if_false,reduceCtorEq] at hbb)) | apply qc_seq | fail)
    all_goals first
      | (exfalso;omega)
      | (refine ⟨.inr trivial,?_⟩
         simp only [lk,sv1,sv2,sv3,Nat.reduceEqDiff,Nat.reduceAdd,Nat.reduceLeDiff,reduceIte,if_false,if_true,mkVal,unLV,List.map,optTmps]
         exact bool_f fun h=>absurd h.q1 hq1)
  repeat' (first | refine gA @hQl ?_ | (refine gB @hQl ?_;intro bb hbb;cases bb<;>(try simp only [hbs,if_false,reduceCtorEq] at hbb)) | apply qc_seq | fail)
  all_goals first
    | (exfalso;omega)
    | skip
  have hs0:=state_at hP hQ hq1 (i:=0) (by decide) (by omega) (by omega)
  refine q_call wN (fv:=.fn (.func 60) [] [.pimm [pv,qv] 0]) (vs:=[.int .i64 ((0:Nat):Int)]) ef (by simp only [List.map,lk,sv1,sv2,sv3,Nat.reduceEqDiff,Nat.reduceAdd,Nat.reduceLeDiff,reduceIte,if_false,if_true,mkVal,unLV,List.map,optTmps];rfl) (pure_call hG0 hs0 ⟨⟨.inr ⟨rfl,by first | (simp only [LOp.run,lk,sv1,sv2,sv3,Nat.reduceEqDiff,Nat.reduceAdd,Nat.reduceLeDiff,reduceIte,if_false,if_true,mkVal,unLV,List.map,optTmps,Env.put_some];done) | (simp only [LOp.run,lk,sv1,sv2,sv3,Nat.reduceEqDiff,Nat.reduceAdd,Nat.reduceLeDiff,reduceIte,if_false,if_true,mkVal,unLV,List.map,optTmps,Env.put_some];simp [loadLV,mkVal])⟩,trivial⟩,?_⟩)
  simp only [Env.put_some]
  refine q_pureB hG0 (contains_ok hst (lett P Q 0)) (by first | exact wN | (apply wG;(simp only [lk,Nat.reduceEqDiff,reduceIte,e0,e1,e2];(try rfl);done))) (by simp only [List.map,lk,Nat.reduceEqDiff,reduceIte,e0,e1,e2];try rfl) (fun bb hbb=>⟨by first | trivial | (simp only [Chks,wantedG,LOp.run,Env.put_some,Env.put_none,lk,sv1,sv2,sv3,Nat.reduceEqDiff,Nat.reduceAdd,Nat.reduceLeDiff,reduceIte,if_false,if_true,mkVal,unLV,List.map,optTmps,beq_self_eq_true,reduceCtorEq,false_or,true_and,and_true,Option.some.injEq, *];done),?_⟩)
  simp only [Env.put_some]
  cases bb<;>simp only [decide_eq_true_eq,decide_eq_false_iff_not] at hbb
  · repeat' (first | refine gA trivial ?_ | (refine gB trivial ?_;intro bb hbb;cases bb<;>(try simp only [hbs,if_false,reduceCtorEq] at hbb)) | apply qc_seq | fail)
    refine ⟨.inr trivial,?_⟩
    simp only [lk,sv1,sv2,sv3,Nat.reduceEqDiff,Nat.reduceAdd,Nat.reduceLeDiff,reduceIte,if_false,if_true,mkVal,unLV,List.map,optTmps]
    exact bool_f fun h=>hbb h.st
  have hst0:=hbb
  clear hbb hs0
  have hmax:max (P.length:Int) (S.length:Int)=((pbef S P:Nat):Int):=by unfold pbef;omega
  have hL1:=hF.1.2.1
  have hL40:=hF.1.2.2.1
  have hS60:=hF.1.1
  have hgp:0<Nat.gcd Q.length L.length:=Nat.gcd_pos_of_pos_left _ hq1
  have hgl:Nat.gcd Q.length L.length≤Q.length:=Nat.le_of_dvd hq1 (Nat.gcd_dvd_left _ _)
  have hdv:=div_ok (a:=Q.length) (b:=L.length) (by omega) (by omega)
  have hqle:Q.length / Nat.gcd Q.length L.length≤Q.length:=Nat.div_le_self _ _
  obtain ⟨qg,hqg⟩:∃ qg,qg=Q.length / Nat.gcd Q.length L.length:=⟨_,rfl⟩
  have hper:pper L Q=qg*L.length:=by rw [hqg];rfl
  rw [← hqg] at hqle
  have hquo:binLV .quo (.int .i64 (Q.length:Int)) (.int .i64 ((Nat.gcd Q.length L.length:Nat):Int))=some (.int .i64 (qg:Int)):=by
    have h0:¬ ((Nat.gcd Q.length L.length:Nat):Int)=0:=by omega
    have h1:((Q.length:Int)).tdiv ((Nat.gcd Q.length L.length:Nat):Int)=(qg:Int):=by
      rw [Int.tdiv_eq_ediv_of_nonneg (by omega),hqg];rfl
    simp only [binLV,if_true,intBin,if_neg h0,h1]
    rw [wrap_i64 _ (by omega) (by omega)]
  have hpp1:pper L Q≤24000040:=by
    rw [hper]
    have:qg*L.length≤600001*40:=Nat.mul_le_mul (by omega) (by omega)
    exact this
  have hmul:binLV .mul (.int .i64 (qg:Int)) (.int .i64 (L.length:Int))=some (.int .i64 ((pper L Q:Nat):Int)):=by
    simp only [binLV,if_true,intBin]
    rw [← Int.natCast_mul,← hper,wrap_i64 _ (by omega) (by omega)]
  have hbl:pbef S P≤600060:=by unfold pbef;omega
  have hadd:IntKind.i64.wrap (((pbef S P:Nat):Int)+((pper L Q:Nat):Int))=((pbef S P+pper L Q:Nat):Int):=by rw [wrap_i64 _ (by omega) (by omega)];rfl
  have hck:=fun (hmm:∀ j,j<pbef S P+pper L Q→∃ g,(lett P Q (j+1),g)∈cmv B S L P Q j)=>ck_iff hV hF hq1 hst0 hmm
  have hz0:0≤lett P Q 0∧lett P Q 0<B.next.length:=by
    obtain ⟨k,hk⟩:=List.mem_iff_getElem?.1 hst0
    have h0:=hV.2.2.2.1 k (List.getElem?_eq_some_iff.1 hk).1
    rw [List.getD_eq_getElem?_getD,hk] at h0
    exact ⟨h0.1,h0.2.1⟩
  clear hqg hper hqle
  repeat' (first | refine gA (And.intro @hPl (And.intro @hSl @hmax)) ?_ | (refine gB (And.intro @hPl (And.intro @hSl @hmax)) ?_;intro bb hbb;cases bb<;>(try simp only [hbs,if_false,reduceCtorEq] at hbb)) | apply qc_seq | fail)
  refine q_mono (fun e s=>s.get 0=some (.cells .mut [(.fn (.func 60) [] [.pimm [pv,qv] 0])])∧s.n=1∧e.at 3 = .pimm [.int .i64 B.L,sv,nv] 0∧e.at 4 = .pimm [st,lo] 0∧e.at 5 = .pimm [pv,qv] 0∧e.at 7 = .pref 0 0∧e.at 8 = .int .i64 ((pbef S P:Nat):Int)∧e.at 9 = .int .i64 ((pper L Q:Nat):Int)) ?_ ?_
  · refine q_pure hG0 (hdv) (by first | exact wN | (apply wG;(simp only [lk,Nat.reduceEqDiff,reduceIte,e0,e1,e2];(try rfl);done))) (by simp only [List.map,lk,Nat.reduceEqDiff,reduceIte,e0,e1,e2];try rfl) (by first | trivial | (simp only [Chks,wantedG,LOp.run,Env.put_some,Env.put_none,lk,sv1,sv2,sv3,Nat.reduceEqDiff,Nat.reduceAdd,Nat.reduceLeDiff,reduceIte,if_false,if_true,mkVal,unLV,List.map,optTmps,beq_self_eq_true,reduceCtorEq,false_or,true_and,and_true,Option.some.injEq,loadLV,mkVal,List.getElem?_cons_succ,List.getElem?_cons_zero, *];done)) ?_
    simp only [Env.put_some]
    repeat' (first | refine gA (And.intro @hquo (And.intro @hmul (And.intro @hQl @hLl))) ?_ | (refine gB (And.intro @hquo (And.intro @hmul (And.intro @hQl @hLl))) ?_;intro bb hbb;cases bb<;>(try simp only [hbs,if_false,reduceCtorEq] at hbb)) | apply qc_seq | fail)
    exact ⟨by simp [St.get_put,St.get_new,n_empty],by simp [n_empty],ef,ef,ef,ef,ef,ef⟩
  clear e0 e1 e2 hquo hmul hdv hmax hbv hwv hst0
  clear e
  rintro e s ⟨g0,n0,e3,e4,e5,e7,e8,e9⟩
  simp only [Thn]
  repeat' (first | refine gA @hadd ?_ | (refine gB @hadd ?_;intro bb hbb;cases bb<;>(try simp only [hbs,if_false,reduceCtorEq] at hbb)) | apply qc_seq | fail)
  refine qc_loop (fun m e s=>∃ i:Nat,m=pbef S P+pper L Q - i∧i≤pbef S P+pper L Q∧s.get 0=some (.cells .mut [(.fn (.func 60) [] [.pimm [pv,qv] 0])])∧0<s.n∧(0≤lett P Q i∧lett P Q i<B.next.length)∧(∀ j,j<i→∃ g,(lett P Q (j+1),g)∈cmv B S L P Q j)∧e.at 3 = .pimm [.int .i64 B.L,sv,nv] 0∧e.at 4 = .pimm [st,lo] 0∧e.at 5 = .pimm [pv,qv] 0∧e.at 7 = .pref 0 0∧e.at 8 = .int .i64 ((pbef S P:Nat):Int)∧e.at 10 = .bool (accB B S L P Q i)∧e.at 62 = .int .i64 ((pbef S P+pper L Q:Nat):Int)∧e.at 63 = .int .i64 (i:Int)) _
    ⟨0,rfl,by omega,g0,by omega,hz0,fun j hj=>absurd hj (Nat.not_lt_zero _),ef,ef,ef,ef,ef,ef,ef,by simp only [lk,sv1,sv2,sv3,Nat.reduceEqDiff,Nat.reduceAdd,Nat.reduceLeDiff,reduceIte,if_false,if_true,mkVal,unLV,List.map,optTmps];rfl⟩ ?_
  clear e3 e4 e5 e7 e8 e9 g0 n0 hadd hz0
  clear e s
  rintro m e s ⟨i,rfl,hi,g0,n0,hpz,hmm,e3,e4,e5,e7,e8,e10,e62,e63⟩
  by_cases hil:i<pbef S P+pper L Q
  · have hiI:(i:Int)<((pbef S P+pper L Q:Nat):Int):=by omega
    have hw:IntKind.i64.wrap ((i:Int)+1)=((i+1:Nat):Int):=by rw [wrap_i64 _ (by omega) (by omega)];rfl
    have hsi:=state_at hP hQ hq1 (i:=i) (by omega) (by omega) (by omega)
    have hel:=elem_ok hS hL hL1 (i:=i) (by omega) (by omega) (by omega)
    have hxz:=lett_in hF.2 hL1 i
    have hcm:cmv B S L P Q i=mvs B (lett P Q i) (lett S L i):=rfl
    obtain ⟨p,hp⟩:∃ p:Nat,lett P Q i=(p:Int):=⟨(lett P Q i).toNat,by omega⟩
    obtain ⟨x0,hx⟩:∃ x0:Nat,lett S L i=(x0:Int):=⟨(lett S L i).toNat,by omega⟩
    rw [hp] at hpz hsi hcm
    rw [hx] at hxz hel hcm
    have hpn:p<B.next.length:=by omega
    have hib:=fun s=>iaN hn.sl (esz:=1) (k:=.i64) (s:=s) hpz.2
    simp only [Nat.mul_one] at hib
    have gr:vs[p]? = some (vs.getD p .top):=hn.get hpn
    obtain ⟨ws,hr⟩:=hn.row p hpn
    have hrow:=hV.2.2.2.2 p hpn
    have hxl:x0<(B.next.getD p []).length:=by have:=hrow.1;omega
    have hxI:(x0:Int)<((B.next.getD p []).length:Int):=by omega
    have hic:=fun s=>iaN hr.sl (esz:=1) (k:=.i64) (s:=s) hxI
    simp only [Nat.mul_one] at hic
    have gx:ws[x0]? = some (ws.getD x0 .top):=hr.get hxl
    have hmo:=hr.row x0 hxl
    have hmr:=hrow.2 x0 hxl
    have hmvs:cmv B S L P Q i=(B.next.getD p []).getD x0 []:=by rw [hcm];simp [mvs]
    rw [← hmvs] at hmo hmr
    have hacc:=acc_succ (B:=B) (S:=S) (L:=L) (P:=P) (Q:=Q) (i:=i)
    have hnx:∀ g,(lett P Q (i+1),g)∈cmv B S L P Q i→0≤lett P Q (i+1)∧lett P Q (i+1)<B.next.length:=fun g hg=>by
      obtain ⟨k,hk⟩:=List.mem_iff_getElem?.1 hg
      have h0:=hmr k (List.getElem?_eq_some_iff.1 hk).1
      rw [List.getD_eq_getElem?_getD,hk] at h0
      exact ⟨h0.1,h0.2.1⟩
    have hrl:=hr.sl.cell
    have hmc:=hmo.sl.cell
    generalize vs.getD p .top=rv at *
    generalize ws.getD x0 .top=mv at *
    have hto:=fun {a b c:Nat} {m1 m2 m3:Md} {s:St} (ga:s.get a=some (.cells m1 [mv])) (gb:s.get b=some (.cells m2 [(.fn (.func 60) [] [.pimm [pv,qv] 0])])) (gc:s.get c=some (.cells m3 [.int .i64 (i:Int)])) (good:Bool)=>to_call hP hQ hq1 (i:=i) (by omega) (by omega) (by omega) hmo ga gb gc good
    generalize B.next.getD p []=row at *
    clear hp hx hcm hmvs hmr hrow
    repeat' (first | refine gA trivial ?_ | (refine gB trivial ?_;intro bb hbb;cases bb<;>(try simp only [hbs,if_false,reduceCtorEq] at hbb)) | apply qc_seq | fail)
    all_goals first
      | (exfalso;omega)
      | skip
    obtain ⟨c,hc⟩:∃ c,s.n=c:=⟨_,rfl⟩
    have g0':((s.new (.cells .mut [.int .i64 0])).put s.n (.cells .mut [.int .i64 (i:Int)])).get 0=some (.cells .mut [(.fn (.func 60) [] [.pimm [pv,qv] 0])]):=by rw [St.get_put,if_neg (by omega),St.get_new,if_neg (by omega)];exact g0
    have gc:((s.new (.cells .mut [.int .i64 0])).put s.n (.cells .mut [.int .i64 (i:Int)])).get c=some (.cells .mut [.int .i64 (i:Int)]):=by rw [St.get_put,if_pos hc.symm]
    have n1:((s.new (.cells .mut [.int .i64 0])).put s.n (.cells .mut [.int .i64 (i:Int)])).n=c+1:=by rw [St.n_put,St.n_new,hc]
    rw [hc] at n0 g0' gc n1 ⊢
    generalize (s.new (.cells .mut [.int .i64 0])).put c (.cells .mut [.int .i64 (i:Int)])=s1 at *
    clear hc g0
    clear s
    repeat' (first | refine gA trivial ?_ | (refine gB trivial ?_;intro bb hbb;cases bb<;>(try simp only [hbs,if_false,reduceCtorEq] at hbb)) | apply qc_seq | fail)
    have d1:¬ 0=c+1:=by omega
    have d2:¬ c=c+1:=by omega
    refine q_gen (v:=.pref (c+1) 0) (s':=s1.new (.cells .mut [.nils])) wN (by simp only [LOp.run,n1]) rfl ?_ ?_
    · simp only [Chks,wantedG,LOp.run,lk,sv1,sv2,sv3,Nat.reduceEqDiff,Nat.reduceAdd,Nat.reduceLeDiff,reduceIte,if_false,if_true,mkVal,unLV,List.map,optTmps,Env.put_some,e3,e4,e5,e7]
      simp [loadLV,mkVal,St.get_new,g0',gc,n1,d1,d2]
    simp only [Env.put_some]
    have h0:(s1.new (.cells .mut [.nils])).get 0=some (.cells .mut [(.fn (.func 60) [] [.pimm [pv,qv] 0])]):=by rw [St.get_new,if_neg (by omega)];exact g0'
    have hcc:(s1.new (.cells .mut [.nils])).get c=some (.cells .mut [.int .i64 (i:Int)]):=by rw [St.get_new,if_neg (by omega)];exact gc
    have ha:(s1.new (.cells .mut [.nils])).get (c+1)=some (.cells .mut [.nils]):=by rw [St.get_new,if_pos n1.symm]
    have n2:(s1.new (.cells .mut [.nils])).n=c+2:=by rw [St.n_new,n1]
    generalize s1.new (.cells .mut [.nils])=s2 at *
    clear g0' gc n1 d1 d2
    clear s1
    refine q_call wN (fv:=.fn (.func 60) [] [.pimm [pv,qv] 0]) (vs:=[.int .i64 (i:Int)]) ef (by simp only [List.map,lk,sv1,sv2,sv3,Nat.reduceEqDiff,Nat.reduceAdd,Nat.reduceLeDiff,reduceIte,if_false,if_true,mkVal,unLV,List.map,optTmps]) (pure_call hG0 hsi ⟨?_,?_⟩)
    · simp only [Chks,wantedG,LOp.run,lk,sv1,sv2,sv3,Nat.reduceEqDiff,Nat.reduceAdd,Nat.reduceLeDiff,reduceIte,if_false,if_true,mkVal,unLV,List.map,optTmps,Env.put_some,e3,e4,e5,e7]
      simp [loadLV,mkVal,h0,hcc]
    simp only [Env.put_some]
    repeat' (first | refine gA (And.intro @hib @gr) ?_ | (refine gB (And.intro @hib @gr) ?_;intro bb hbb;cases bb<;>(try simp only [hbs,if_false,reduceCtorEq] at hbb)) | apply qc_seq | fail)
    refine q_pure hG0 hel wN (by simp only [List.map,lk,sv1,sv2,sv3,Nat.reduceEqDiff,Nat.reduceAdd,Nat.reduceLeDiff,reduceIte,if_false,if_true,mkVal,unLV,List.map,optTmps]) ?_ ?_
    · simp only [Chks,wantedG,LOp.run,lk,sv1,sv2,sv3,Nat.reduceEqDiff,Nat.reduceAdd,Nat.reduceLeDiff,reduceIte,if_false,if_true,mkVal,unLV,List.map,optTmps,Env.put_some,e3,e4,e5,e7]
      simp [loadLV,mkVal,gr]
    simp only [Env.put_some]
    repeat' (first | refine gA (And.intro @hic @gx) ?_ | (refine gB (And.intro @hic @gx) ?_;intro bb hbb;cases bb<;>(try simp only [hbs,if_false,reduceCtorEq] at hbb)) | apply qc_seq | fail)
    have g3a:(s2.put (c+1) (.cells .mut [mv])).get (c+1)=some (.cells .mut [mv]):=by rw [St.get_put,if_pos rfl]
    have h3:(s2.put (c+1) (.cells .mut [mv])).get 0=some (.cells .mut [(.fn (.func 60) [] [.pimm [pv,qv] 0])]):=by rw [St.get_put,if_neg (by omega)];exact h0
    have g3c:(s2.put (c+1) (.cells .mut [mv])).get c=some (.cells .mut [.int .i64 (i:Int)]):=by rw [St.get_put,if_neg (by omega)];exact hcc
    have n3:(s2.put (c+1) (.cells .mut [mv])).n=c+2:=by rw [St.n_put,n2]
    have hcall1:=hto g3a h3 g3c true
    have hcall2:=hto g3a h3 g3c false
    generalize s2.put (c+1) (.cells .mut [mv])=s3 at *
    clear h0 hcc ha n2 hsi hel hib hic gr gx hto hxz
    clear s2
    refine q_call wN (fv:=.fn (.func 64) [] [.pref (c+1) 0, .pref 0 0, .pref c 0]) (vs:=[.bool true]) ef (by simp only [List.map,lk,sv1,sv2,sv3,Nat.reduceEqDiff,Nat.reduceAdd,Nat.reduceLeDiff,reduceIte,if_false,if_true,mkVal,unLV,List.map,optTmps]) (CallOk.mono hcall1 fun r s' hh=>⟨trivial,?_⟩)
    obtain ⟨rfl,rfl⟩:=hh
    simp only [Env.put_some]
    cases hgd:decide ((lett P Q (i+1),true)∈cmv B S L P Q i) with
    | true=>
      rw [hgd,Bool.true_and] at hacc
      have hpz2:=hnx true (of_decide_eq_true hgd)
      clear hcall2 hck hnx
      cases haB:accB B S L P Q i with
      | true=>
        rw [haB] at e10
        have hacc2:accB B S L P Q (i+1)=true:=by rw [hacc,haB,Bool.true_or]
        clear hacc haB
        repeat' (first | refine gA trivial ?_ | (refine gB trivial ?_;intro bb hbb;cases bb<;>(try simp only [hbs,if_false,reduceCtorEq] at hbb)) | apply qc_seq | fail)
        refine ⟨pbef S P+pper L Q - (i+1),by omega,i+1,rfl,by omega,h3,by omega,hpz2,fun j hj=>?_,?_⟩
        · rcases Nat.lt_succ_iff_lt_or_eq.1 hj with h | rfl
          · exact hmm j h
          · exact ⟨true,of_decide_eq_true hgd⟩
        · simp only [lk,sv1,sv2,sv3,Nat.reduceEqDiff,Nat.reduceAdd,Nat.reduceLeDiff,reduceIte,if_false,if_true,mkVal,unLV,List.map,optTmps,hw,hacc2,e3,e4,e5,e7,e8,e62,and_self]
      | false=>
        rw [haB] at e10
        rw [haB,Bool.false_or] at hacc
        clear haB
        repeat' (first | refine gA trivial ?_ | (refine gB trivial ?_;intro bb hbb;cases bb<;>(try simp only [hbs,if_false,reduceCtorEq] at hbb)) | apply qc_seq | fail)
        · have hacc2:accB B S L P Q (i+1)=false:=by rw [hacc];exact decide_eq_false (by omega)
          refine ⟨pbef S P+pper L Q - (i+1),by omega,i+1,rfl,by omega,h3,by omega,hpz2,fun j hj=>?_,?_⟩
          · rcases Nat.lt_succ_iff_lt_or_eq.1 hj with h | rfl
            · exact hmm j h
            · exact ⟨true,of_decide_eq_true hgd⟩
          · simp only [lk,sv1,sv2,sv3,Nat.reduceEqDiff,Nat.reduceAdd,Nat.reduceLeDiff,reduceIte,if_false,if_true,mkVal,unLV,List.map,optTmps,hw,hacc2,e3,e4,e5,e7,e8,e62,and_self]
        · have hacc2:accB B S L P Q (i+1)=true:=by rw [hacc];exact decide_eq_true (by omega)
          refine ⟨pbef S P+pper L Q - (i+1),by omega,i+1,rfl,by omega,h3,by omega,hpz2,fun j hj=>?_,?_⟩
          · rcases Nat.lt_succ_iff_lt_or_eq.1 hj with h | rfl
            · exact hmm j h
            · exact ⟨true,of_decide_eq_true hgd⟩
          · simp only [lk,sv1,sv2,sv3,Nat.reduceEqDiff,Nat.reduceAdd,Nat.reduceLeDiff,reduceIte,if_false,if_true,mkVal,unLV,List.map,optTmps,hw,hacc2,e3,e4,e5,e7,e8,e62,and_self]
    | false =>
      rw [hgd,Bool.false_and,Bool.or_false] at hacc
      repeat' (first | refine gA trivial ?_ | (refine gB trivial ?_;intro bb hbb;cases bb<;>(try simp only [hbs,if_false,reduceCtorEq] at hbb)) | apply qc_seq | fail)
      refine q_call (wG ef) (fv:=.fn (.func 64) [] [.pref (c+1) 0, .pref 0 0, .pref c 0]) (vs:=[.bool false]) ef (by simp only [List.map,lk,sv1,sv2,sv3,Nat.reduceEqDiff,Nat.reduceAdd,Nat.reduceLeDiff,reduceIte,if_false,if_true,mkVal,unLV,List.map,optTmps]) (CallOk.mono hcall2 fun r s' hh=>⟨trivial,?_⟩)
      obtain ⟨rfl,rfl⟩:=hh
      simp only [Env.put_some]
      cases hgf:decide ((lett P Q (i+1),false)∈cmv B S L P Q i) with
      | false=>
        repeat' (first | refine gA trivial ?_ | (refine gB trivial ?_;intro bb hbb;cases bb<;>(try simp only [hbs,if_false,reduceCtorEq] at hbb)) | apply qc_seq | fail)
        refine ⟨.inr trivial,?_⟩
        simp only [lk,sv1,sv2,sv3,Nat.reduceEqDiff,Nat.reduceAdd,Nat.reduceLeDiff,reduceIte,if_false,if_true,mkVal,unLV,List.map,optTmps]
        refine bool_f fun h=>?_
        obtain ⟨g,hg⟩:=h.mv i hil
        cases g with
        | true=>exact absurd hg (of_decide_eq_false hgd)
        | false=>exact absurd hg (of_decide_eq_false hgf)
      | true=>
        have hpz2:=hnx false (of_decide_eq_true hgf)
        clear hck hnx
        cases haB:accB B S L P Q i with
        | true=>
          rw [haB] at e10
          have hacc2:accB B S L P Q (i+1)=true:=by rw [hacc,haB]
          clear hacc haB
          repeat' (first | refine gA trivial ?_ | (refine gB trivial ?_;intro bb hbb;cases bb<;>(try simp only [hbs,if_false,reduceCtorEq] at hbb)) | apply qc_seq | fail)
          refine ⟨pbef S P+pper L Q - (i+1),by omega,i+1,rfl,by omega,h3,by omega,hpz2,fun j hj=>?_,?_⟩
          · rcases Nat.lt_succ_iff_lt_or_eq.1 hj with h | rfl
            · exact hmm j h
            · exact ⟨false,of_decide_eq_true hgf⟩
          · simp only [lk,sv1,sv2,sv3,Nat.reduceEqDiff,Nat.reduceAdd,Nat.reduceLeDiff,reduceIte,if_false,if_true,mkVal,unLV,List.map,optTmps,hw,hacc2,e3,e4,e5,e7,e8,e62,and_self]
        | false=>
          rw [haB] at e10
          have hacc2:accB B S L P Q (i+1)=false:=by rw [hacc,haB]
          clear hacc haB
          repeat' (first | refine gA trivial ?_ | (refine gB trivial ?_;intro bb hbb;cases bb<;>(try simp only [hbs,if_false,reduceCtorEq] at hbb)) | apply qc_seq | fail)
          refine ⟨pbef S P+pper L Q - (i+1),by omega,i+1,rfl,by omega,h3,by omega,hpz2,fun j hj=>?_,?_⟩
          · rcases Nat.lt_succ_iff_lt_or_eq.1 hj with h | rfl
            · exact hmm j h
            · exact ⟨false,of_decide_eq_true hgf⟩
          · simp only [lk,sv1,sv2,sv3,Nat.reduceEqDiff,Nat.reduceAdd,Nat.reduceLeDiff,reduceIte,if_false,if_true,mkVal,unLV,List.map,optTmps,hw,hacc2,e3,e4,e5,e7,e8,e62,and_self]
  · obtain rfl:i=pbef S P+pper L Q:=by omega
    have hfin:=hck hmm
    repeat' (first | refine gA trivial ?_ | (refine gB trivial ?_;intro bb hbb;cases bb<;>(try simp only [hbs,if_false,reduceCtorEq] at hbb)) | apply qc_seq | fail)
    all_goals first
      | (exfalso;omega)
      | skip
    refine ⟨.inr trivial,?_⟩
    simp only [lk,sv1,sv2,sv3,Nat.reduceEqDiff,Nat.reduceAdd,Nat.reduceLeDiff,reduceIte,if_false,if_true,mkVal,unLV,List.map,optTmps,hfin]
end Go.Proofs.YtgobbogomchnhaaGreatDoor
