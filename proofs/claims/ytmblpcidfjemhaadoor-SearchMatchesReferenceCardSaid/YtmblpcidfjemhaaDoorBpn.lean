/- The document's pairTurn and pairNumber. -/
import Derived.Test.YtmblpcidfjemhaaDoorBinsert
import Derived.Test.YtmblpcidfjemhaaDoorPboth
import Derived.Test.YtmblpcidfjemhaaDoorRout
import Derived.Test.YtmblpcidfjemhaaDoorRval
import Derived.Test.YtmblpcidfjemhaaDoorPboth2
set_option linter.unusedSimpArgs false
set_option linter.unusedVariables false
section
set_option linter.unusedSimpArgs false
set_option linter.unusedVariables false
namespace Go.Proofs.YtmblpcidfjemhaaDoor
open Go Go.Pv Go.Bfs
open Classical
theorem pairTurn_ok {t:Nat} (ht:t<2) (a b:Bool):PE 46 [.int .i64 (t:Int), .bool a, .bool b] (fun r=>r = .tup [.int .i64 ((tn t a b % 2:Nat):Int), .bool (decide (tn t a b=2))]):=by
  refine q_fnExR Tryd.func46 (by decide +kernel) c46 (Nat.le_of_ble_eq_true rfl) (by simp [LV.closed.closedAll,LV.closed]) ?_
  have e0:(envOf [LV.int .i64 (t:Int), .bool a, .bool b]).at 0 = .int .i64 (t:Int):=by rw [envOf_at];rfl
  have e1:(envOf [LV.int .i64 (t:Int), .bool a, .bool b]).at 1 = .bool a:=by rw [envOf_at];rfl
  have e2:(envOf [LV.int .i64 (t:Int), .bool a, .bool b]).at 2 = .bool b:=by rw [envOf_at];rfl
  generalize envOf [LV.int .i64 (t:Int), .bool a, .bool b]=e at *
  unfold l46
  dsimp only [jA,jD,qM,qC,qK,qm]
  have h':t=0∨t=1:=by omega
  rcases h' with rfl | rfl<;>cases a<;>cases b
  all_goals
    repeat' (first | refine gA trivial ?_ | (refine gB trivial ?_;intro bb hbb;cases bb<;>(try simp only [hbs,if_false,reduceCtorEq] at hbb)) | apply qc_seq | fail)
    all_goals first
      | (exfalso;omega)
      | (exfalso;simp at hbb;done)
      | exact ⟨.inr trivial,_,by simp [resVal,resOne,lk];rfl,_,_,frzD_closed rfl,rfl,by simp [tn]⟩
theorem peq_is (m p q:Nat):eqLV (.struct [(0,(1, .int)),(1,(1, .int)),(2,(1, .int))]) (.agg (pc3 m p)) (.agg (pc3 m q))=some (decide (p=q)):=by
  by_cases h:p=q
  · subst h
    simp [pc3,eqLV,eqLV.eqFields,scEq]
  · rw [decide_eq_false h]
    by_cases h1:px m p=px m q
    · by_cases h2:py m p=py m q
      · by_cases h3:pt p=pt q
        · exact absurd (p_inj h1 h2 h3) h
        · have e:(pt p == pt q)=false:=by simpa using h3
          simp [pc3,eqLV,eqLV.eqFields,scEq,h1,h2,e]
      · have e:(py m p == py m q)=false:=by simpa using h2
        simp [pc3,eqLV,eqLV.eqFields,scEq,h1,e]
    · have e:(px m p == px m q)=false:=by simpa using h1
      simp [pc3,eqLV,eqLV.eqFields,scEq,e]
theorem idx_first {p:Nat} : ∀ {l:List Nat} {i b:Nat},(∀ k,k<i→l[k]? ≠ some p)→l[i]? = some p→idx p l b=some (b+i):=by
  intro l
  induction l with
  | nil=>intro i b _ h;simp at h
  | cons q r ih=>
    intro i b hno h
    cases i with
    | zero=>
      have:q=p:=by simpa using h
      simp [idx,this]
    | succ i=>
      have hq:¬ p=q:=fun e=>hno 0 (by omega) (by simp [e])
      simp only [idx,hq,if_false]
      rw [ih (i:=i) (b:=b+1) (fun k hk=>by have:=hno (k+1) (by omega);simpa using this) (by simpa using h)]
      congr 1;omega
theorem numN_first {ps:List Nat} {p i:Nat} (hno:∀ k,k<i→ps[k]? ≠ some p) (h:ps[i]? = some p):numN (addN ps p) p=i:=by
  have hm:p∈ps:=List.mem_of_getElem? h
  have e:addN ps p=ps:=by unfold addN;rw [if_pos hm]
  rw [e,numN,idx_first hno h];simp
theorem numN_new {ps:List Nat} {p:Nat} (h:p ∉ ps):addN ps p=ps++[p]∧numN (addN ps p) p=ps.length:=by
  have e:addN ps p=ps++[p]:=by unfold addN;rw [if_neg h]
  refine ⟨e,?_⟩
  rw [e,numN,idx_first (i:=ps.length) (fun k hk hh=>?_) (by simp)]
  · simp
  · rw [List.getElem?_append_left hk] at hh
    exact h (List.mem_of_getElem? hh)
set_option maxHeartbeats 8000000 in
theorem pairNumber_call {s0:St} {lv:LV} {m:Nat} {ps:List Nat} (hS:SkE s0 lv 3 (tcells3 m ps) ps.length) (hp:ps.length≤100000) (p:Nat) :
    CallOk Tryd.prog GL (.fn (.func 47) [] []) [lv, .agg (pc3 m p)] s0 (fun r s'=>∃ v',r = .tup [v', .int .i64 (numN (addN ps p) p:Int)]∧SkE s' v' 3 (tcells3 m (addN ps p)) (addN ps p).length∧s0.n≤s'.n∧(∀ id,uses v' id→uses lv id∨s0.n≤id)∧∀ id,id<s0.n→¬ uses lv id→s'.get id=s0.get id):=by
  refine call_fn (first:=[]) (caps:=[]) Tryd.func47 (by decide +kernel) c47 (Nat.le_of_ble_eq_true rfl) (CodeOk.mono (Q:=fun o e s'=>(o = .normal∨o = .jmp .ret)∧∃ v',e.at 4=v'∧e.at 5 = .int .i64 (numN (addN ps p) p:Int)∧SkE s' v' 3 (tcells3 m (addN ps p)) (addN ps p).length∧s0.n≤s'.n∧(∀ id,uses v' id→uses lv id∨s0.n≤id)∧∀ id,id<s0.n→¬ uses lv id→s'.get id=s0.get id) ?_ fun o e s' hh=>by
    obtain ⟨h1,v',h2,h3,h4⟩:=hh
    exact ⟨h1, .tup [v', .int .i64 (numN (addN ps p) p:Int)],by simp [l47,resVal,resOne,h2,h3],v',rfl,h4⟩)
  have e0:(envOf ([]++[lv,LV.agg (pc3 m p)]++[])).at 0=lv:=by rw [envOf_at];rfl
  have e1:(envOf ([]++[lv,LV.agg (pc3 m p)]++[])).at 1 = .agg (pc3 m p):=by rw [envOf_at];rfl
  generalize envOf ([]++[lv,LV.agg (pc3 m p)]++[])=e at *
  have hvc:(LV.agg (pc3 m p)).closed=true:=rfl
  have hll:slLen lv=some ps.length:=by
    obtain ⟨_,⟨rfl,h0⟩ | ⟨j,rfl,_⟩⟩:=hS
    · rw [h0];rfl
    · rfl
  obtain ⟨z,hz⟩:∃ z:Nat,z=0:=⟨0,rfl⟩
  refine Cd.out ?_
  unfold l47
  dsimp only [jA,jB,qM,qN,qS,qI,qA,qB,qC,qO,qm]
  repeat' (first | refine gA trivial ?_ | (refine gB trivial ?_;intro bb hbb;cases bb<;>(try simp only [hbs,if_false,reduceCtorEq] at hbb)) | apply qc_seq | fail)
  refine qc_loop (fun q e s=>∃ (i:Nat),q=ps.length - i∧i≤ps.length∧s=s0∧(∀ k,k<i→ps[k]? ≠ some p)∧e.at 0=lv∧e.at 3 = .pimm (pc3 m p) 0∧e.at 6 = .int .i64 (i:Int)) _
    ⟨0,rfl,by omega,rfl,fun k hk=>absurd hk (Nat.not_lt_zero _),ef,ef,by simp only [lk,sv1,sv2,sv3,Nat.reduceEqDiff,Nat.reduceAdd,Nat.reduceLeDiff,reduceIte,if_false,if_true,mkVal,unLV,List.map,optTmps];rfl⟩ ?_
  clear e0 e1
  clear e
  rintro q e s ⟨i,rfl,hi,rfl,hno,e0,e3,e6⟩
  by_cases hil:i<ps.length
  · have hiI:(i:Int)<(ps.length:Int):=by omega
    have hwi:IntKind.i64.wrap ((i:Int)+1)=((i+1:Nat):Int):=by rw [wrap_i64 _ (by omega) (by omega)];rfl
    obtain ⟨r,hr⟩:∃ r,ps[i]? = some r:=⟨_,List.getElem?_eq_getElem hil⟩
    have hq:=peq_is m r p
    obtain ⟨j,hlv,hj,hg⟩:∃ j,lv = .sref j 0 ps.length 3∧j<s.n∧s.get j=some (.cells .mut (tcells3 m ps)):=by
      obtain ⟨_,⟨_,h0⟩ | ⟨j,h1,h2,h3⟩⟩:=id hS
      · omega
      · exact ⟨j,h1,h2,h3⟩
    have hld:=loadN_pairsR hr hg
    subst hlv
    repeat' (first | refine gA (And.intro @hll (And.intro @iaS (And.intro @hld @hq))) ?_ | (refine gB (And.intro @hll (And.intro @iaS (And.intro @hld @hq))) ?_;intro bb hbb;cases bb<;>(try simp only [hbs,if_false,reduceCtorEq] at hbb)) | apply qc_seq | fail)
    · exfalso;omega
    · have hne:¬ r=p:=by assumption
      refine ⟨ps.length - (i+1),by omega,i+1,rfl,by omega,by first | trivial | rfl,fun k hk=>?_,?_⟩
      · by_cases h:k<i
        · exact hno k h
        · obtain rfl:k=i:=by omega
          rw [hr]
          intro h
          exact hne (Option.some.inj h)
      · simp only [lk,sv1,sv2,sv3,Nat.reduceEqDiff,Nat.reduceAdd,Nat.reduceLeDiff,reduceIte,if_false,if_true,mkVal,unLV,List.map,optTmps,hwi,e0,e3,and_self]
    · have hrp:r=p:=by simpa using hbb
      rw [hrp] at hr
      have hnum:=numN_first hno hr
      have hadd:addN ps p=ps:=by unfold addN;rw [if_pos (List.mem_of_getElem? hr)]
      rw [hnum,hadd]
      exact ⟨.inr trivial, .sref j 0 ps.length 3,ef,ef,hS,Nat.le_refl _,fun id h=>.inl h,fun id _ _=>by first | trivial | rfl⟩
  · have hnm:p ∉ ps:=fun hm=>by
      obtain ⟨k,hk⟩:=List.mem_iff_getElem?.1 hm
      have hkl:=(List.getElem?_eq_some_iff.1 hk).1
      exact hno k (by omega) hk
    obtain ⟨hadd,hnum⟩:=numN_new hnm
    rw [hnum,hadd]
    repeat' (first | refine gA @hll ?_ | (refine gB @hll ?_;intro bb hbb;cases bb<;>(try simp only [hbs,if_false,reduceCtorEq] at hbb)) | apply qc_seq | fail)
    · refine q_appE (n:=ps.length) (esz:=3) (xv:=.agg (pc3 m p)) (yv:=lv) (vs:=pc3 m p) (cells:=tcells3 m ps) ef rfl rfl rfl rfl ef hS (by decide) (by omega) (fun s3 j3 a1 a2 a3 a4=>?_)
      repeat' (first | refine gA @hll ?_ | (refine gB @hll ?_;intro bb hbb;cases bb<;>(try simp only [hbs,if_false,reduceCtorEq] at hbb)) | apply qc_seq | fail)
      refine ⟨.inr trivial, .sref j3 0 (ps.length+1) 3,ef,ef,?_,a3,fun id hu=>.inr (by have:=uses_sref.1 hu;omega),a4⟩
      rw [tcells3_append,List.length_append]
      exact SkC.e (by simpa [tcells3] using a2)
    · exfalso;omega
end Go.Proofs.YtmblpcidfjemhaaDoor
end
section
set_option linter.unusedSimpArgs false
set_option linter.unusedVariables false
namespace Go.Proofs.YtmblpcidfjemhaaDoor
open Go Go.Pv
open Classical
structure RV (s:St) (w:LV) (ms:Moves) (T:Nat→Prop):Prop where
  fz:FZ T (fun v'=>IsMoves v' ms) frzDepth w s
  cell:isCell w=true
  lt:∀ id,T id→id<s.n
theorem RV.keep {s s':St} {w:LV} {ms:Moves} {T:Nat→Prop} (h:RV s w ms T) (hn:s.n≤s'.n) (hs:∀ id,T id→s'.get id=s.get id):RV s' w ms T:=⟨h.fz.stable hs,h.cell,fun id hid=>Nat.lt_of_lt_of_le (h.lt id hid) hn⟩
theorem RV.val {w:LV} {ms:Moves} (h:IsMoves w ms) (s:St):RV s w ms (fun _=>False):=⟨fun s1 _=>⟨w,s1,frzD_closed h.closed,h,rfl,fun _ _=>rfl⟩,h.sl.cell,fun _ h=>h.elim⟩
theorem RV.emp (s:St):RV (s.new (.cells .mut [])) (.sref s.n 0 0 2) [] (uses (.sref s.n 0 0 2)) :=
  have h:SkE (s.new (.cells .mut [])) (.sref s.n 0 0 2) 2 [] 0:=⟨rfl, .inr ⟨s.n,rfl,by simp,by simp [St.get_new]⟩⟩
  ⟨(fz_ske 38 h rfl).mono fun v hv=>⟨hv,by decide,fun x hx=>by cases hx⟩,rfl,fun id hu=>h.lt hu⟩
theorem q_insert {K:Env→St→Prop} {l:List LOper} {e:Env} {s:St} {fl:Bool} {d:Nat} {xs:List Opd} {w:LV} {ms:Moves} {T:Nat→Prop} {m:Int × Bool} (hw:RV s w ms T) (hm:inI64 m.1) (hl:ms.length≤100000) (has:xs.map (·.ev e)=[w, .agg [.int .i64 m.1, .bool m.2]])
    (h:∀ r s',IsMoves r (insM ms m)→s'.n=s.n→(∀ id,¬ T id→s'.get id=s.get id)→W Tryd.prog GL K l (Tr.set e d r) s') :
    W Tryd.prog GL K (⟨some d, .call (.c (.fn (.func 48) [] [])) xs,none,[],fl⟩::l) e s:=by
  obtain ⟨w',s2,f1,f2,f3,f4⟩:=hw.fz s fun _ _=>rfl
  refine q_call wN (fv:=.fn (.func 48) [] []) rfl has (call_frz (args':=[w', .agg [.int .i64 m.1, .bool m.2]]) (s':=s2) (by
    have h2:frz frzDepth (.agg [.int .i64 m.1, .bool m.2]) s2=some (.agg [.int .i64 m.1, .bool m.2],s2):=frzD_closed rfl
    simp [frz.frzAll,f1,h2]) (pure_callEx hG0 (insert_ok f2 m hm hl) fun r hr hrc=>⟨trivial,?_⟩))
  simp only [Env.put_some]
  exact h r s2 hr f3 f4
def zc (n:Nat) (f:Nat→Int):List LV:=(List.range n).map fun p=>.int .i64 (f p)
noncomputable def plf (ps:List Nat) (p:Nat):Int:=if p∈ps then (numN ps p:Int) else -1
structure TM (s:St) (L:Int) (n:Nat) (ov stv nxv:LV) (ps:List Nat) (st:List Int) (nx:List (List Moves)):Prop where
  ob:OB s 3 L stv nxv st nx
  pl:s.get 1=some (.cells .mut (zc n (plf ps)))
  od:SkE s ov 1 (nints ps) ps.length
  oo:∀ id,uses ov id→¬ OU 3 stv nxv id∧id≠1
def TU (ov stv nxv:LV) (id:Nat):Prop:=OU 3 stv nxv id∨id=1∨uses ov id
theorem OB.n1 {s:St} {L:Int} {stv nxv:LV} {st:List Int} {nx:List (List Moves)} (h:OB s 3 L stv nxv st nx):¬ OU 3 stv nxv 1:=by
  rintro (h1 | h1 | h1 | h1)
  · omega
  · omega
  · have:=h.lo 1 (.inl h1);omega
  · have:=h.lo 1 (.inr h1);omega
theorem TM.keep {s s':St} {L:Int} {n:Nat} {ov stv nxv:LV} {ps:List Nat} {st:List Int} {nx:List (List Moves)} (h:TM s L n ov stv nxv ps st nx) (hn:s.n≤s'.n) (hs:∀ id,TU ov stv nxv id→s'.get id=s.get id):TM s' L n ov stv nxv ps st nx:=
  ⟨h.ob.keep hn fun id hu=>hs id (.inl hu),by rw [hs 1 (.inr (.inl rfl))];exact h.pl,h.od.mono hn fun id hu=>hs id (.inr (.inr hu)),h.oo⟩
theorem TM.lt {s:St} {L:Int} {n:Nat} {ov stv nxv:LV} {ps:List Nat} {st:List Int} {nx:List (List Moves)} (h:TM s L n ov stv nxv ps st nx) {id:Nat} (hu:TU ov stv nxv id):id<s.n:=by
  rcases hu with hu | rfl | hu
  · exact h.ob.lt hu
  · have:=h.ob.on;omega
  · exact h.od.lt hu
theorem TM.add {s s2 s3:St} {L:Int} {n:Nat} {ov stv nxv:LV} {ps:List Nat} {st:List Int} {nx:List (List Moves)} {p j:Nat} (h:TM s L n ov stv nxv ps st nx) (hp:p ∉ ps) (h2:s2=s.put 1 (.cells .mut (zc n (plf (ps++[p]))))) (hj:s2.n≤j) (hS:SkC s3 (.sref j 0 (ps.length+1) 1) 1 (nints ps++[.int .i64 (p:Int)]) (ps.length+1)) (hn:s2.n≤s3.n) (hk:∀ id,id<s2.n→¬ uses ov id→s3.get id=s2.get id) :
    TM s3 L n (.sref j 0 (ps.length+1) 1) stv nxv (ps++[p]) st nx:=by
  subst h2
  have n1:=h.ob.n1
  rw [St.n_put] at hj hn hk
  refine ⟨h.ob.keep hn fun id hu=>?_,?_,?_,fun id hu=>?_⟩
  · rw [hk id (h.ob.lt hu) fun hu'=>(h.oo id hu').1 hu,St.get_put,if_neg (by rintro rfl;exact n1 hu)]
  · rw [hk 1 (by have:=h.ob.on;omega) fun hu=>(h.oo 1 hu).2 rfl,St.get_put,if_pos rfl]
  · rw [nints_append,List.length_append]
    exact SkC.e hS
  · have:=uses_sref.1 hu
    have on:=h.ob.on
    exact ⟨fun hu'=>by have:=h.ob.lt hu';omega,by omega⟩
theorem TM.start {s s3:St} {L:Int} {n:Nat} {ov stv nxv:LV} {ps:List Nat} {st:List Int} {nx:List (List Moves)} {z:Int} {j:Nat} (h:TM s L n ov stv nxv ps st nx) (hj:s.n≤j) (hS:SkC s3 (.sref j 0 (st.length+1) 1) 1 (ints st++[.int .i64 z]) (st.length+1)) (hn:s.n≤s3.n) (hk:∀ id,id<s.n→¬ uses stv id→s3.get id=s.get id) :
    TM (s3.put 3 (.cells .mut [.int .i64 L, .sref j 0 (st.length+1) 1,nxv])) L n ov (.sref j 0 (st.length+1) 1) nxv ps (st++[z]) nx:=by
  have on:=h.ob.on
  have n1:=h.ob.n1
  refine ⟨h.ob.start hj hS hn hk,?_,h.od.mono (by rw [St.n_put];exact hn) fun id hu=>?_,fun id hu=>⟨?_,(h.oo id hu).2⟩⟩
  · rw [St.get_put,if_neg (by omega),hk 1 (by omega) fun hu=>n1 (.inr (.inr (.inl hu)))];exact h.pl
  · rw [St.get_put,if_neg (by rintro rfl;exact (h.oo 3 hu).1 (.inr (.inl rfl)))]
    exact hk id (h.od.lt hu) fun hu'=>(h.oo id hu).1 (.inr (.inr (.inl hu')))
  · rintro (h1 | h1 | h1 | h1)
    · exact (h.oo id hu).1 (.inl h1)
    · exact (h.oo id hu).1 (.inr (.inl h1))
    · have:=uses_sref.1 h1
      have:=h.od.lt hu
      omega
    · exact (h.oo id hu).1 (.inr (.inr (.inr h1)))
theorem TM.row {s s3:St} {L:Int} {n:Nat} {ov stv nxv v':LV} {ps:List Nat} {st:List Int} {nx:List (List Moves)} {row:List Moves} {j:Nat} {rvs:List LV} {T:Nat→Prop} (h:TM s L n ov stv nxv ps st nx) (hT:∀ id,T id→¬ TU ov stv nxv id) (h1:rvs.length=nx.length) (h3:∀ i,i<nx.length→IsRowM (rvs.getD i .top) (nx.getD i [])) (hv:IsRowM v' row) (hj:s.n≤j) (hS:SkC s3 (.sref j 0 (nx.length+1) 1) 1 (rvs++[v']) (nx.length+1)) (hn:s.n≤s3.n) (hk:∀ id,id<s.n→¬ uses nxv id→¬ T id→s3.get id=s.get id) :
    TM (s3.put 3 (.cells .mut [.int .i64 L,stv, .sref j 0 (nx.length+1) 1])) L n ov stv (.sref j 0 (nx.length+1) 1) ps st (nx++[row]):=by
  have on:=h.ob.on
  have n1:=h.ob.n1
  refine ⟨h.ob.row (T:=T) (fun id ht hu=>hT id ht (.inl hu)) h1 h3 hv hj hS hn hk,?_,h.od.mono (by rw [St.n_put];exact hn) fun id hu=>?_,fun id hu=>⟨?_,(h.oo id hu).2⟩⟩
  · rw [St.get_put,if_neg (by omega),hk 1 (by omega) (fun hu=>n1 (.inr (.inr (.inr hu)))) fun ht=>hT 1 ht (.inr (.inl rfl))];exact h.pl
  · rw [St.get_put,if_neg (by rintro rfl;exact (h.oo 3 hu).1 (.inr (.inl rfl)))]
    exact hk id (h.od.lt hu) (fun hu'=>(h.oo id hu).1 (.inr (.inr (.inr hu')))) fun ht=>hT id ht (.inr (.inr hu))
  · rintro (h1 | h1 | h1 | h1)
    · exact (h.oo id hu).1 (.inl h1)
    · exact (h.oo id hu).1 (.inr (.inl h1))
    · exact (h.oo id hu).1 (.inr (.inr (.inl h1)))
    · have:=uses_sref.1 h1
      have:=h.od.lt hu
      omega
theorem pre_adds {ps l1 l2:List Nat} : Pre (addsN ps l1) (addsN ps (l1++l2)):=by rw [addsN_append];exact addsN_pre _ _
theorem run_step {suc:Nat→List Nat} {f i:Nat} {ps:List Nat} {p:Nat} (h:ps[i]? = some p):runN suc (f+1) i ps=runN suc f (i+1) (addsN ps (suc p)):=by
  simp only [runN,h]
theorem run_end {suc:Nat→List Nat} {f i:Nat} {ps:List Nat} (h:ps.length≤i):runN suc f i ps=ps:=by
  cases f with
  | zero=>rfl
  | succ f=>simp [runN,List.getElem?_eq_none h]
theorem pre_get {a b:List Nat} (h:Pre a b) {i p:Nat} (hp:a[i]? = some p):b[i]? = some p:=by
  obtain ⟨t,rfl⟩:=h
  rw [List.getElem?_append_left (List.getElem?_eq_some_iff.1 hp).1];exact hp
theorem pre_len {a b:List Nat} (h:Pre a b):a.length≤b.length:=by
  obtain ⟨t,rfl⟩:=h
  simp
theorem insM_len {ms:Moves} {m:Int × Bool} : (insM ms m).length≤ms.length+1:=by
  have hG:∀ (l:Moves) (d:Bool),(insG m l d).length≤l.length+(if d=true then 0 else 1):=by
    intro l
    induction l with
    | nil=>intro d;cases d<;>simp [insG]
    | cons a l ih=>
      intro d
      simp only [insG]
      split
      · rename_i hd
        have:=ih true
        simp only [List.length_cons,hd.1] at this ⊢
        simp at this ⊢
        omega
      · have:=ih d
        simp only [List.length_cons]
        omega
  unfold insM
  split
  · omega
  · have:=hG ms false
    simpa using this
theorem insL_len {l:Moves} : ∀ {ms:Moves},(insL ms l).length≤ms.length+l.length:=by
  induction l with
  | nil=>intro ms;simp [insL]
  | cons a l ih=>
    intro ms
    have h1:insL ms (a::l)=insL (insM ms a) l:=rfl
    rw [h1]
    have:=ih (ms:=insM ms a)
    have:=insM_len (ms:=ms) (m:=a)
    simp only [List.length_cons]
    omega
end Go.Proofs.YtmblpcidfjemhaaDoor
end
section
set_option linter.unusedSimpArgs false
set_option linter.unusedVariables false
namespace Go.Proofs.YtmblpcidfjemhaaDoor
open Go Go.Pv
open Classical
structure TB (s:St) (L:Int) (m:Nat) (ov stv nxv:LV) (ps:List Nat) (st:List Int) (nx:List (List Moves)):Prop where
  ob:OB s 1 L stv nxv st nx
  od:SkE s ov 3 (tcells3 m ps) ps.length
  oo:∀ id,uses ov id→¬ OU 1 stv nxv id
def TV (ov stv nxv:LV) (id:Nat):Prop:=OU 1 stv nxv id∨uses ov id
theorem TB.keep {s s':St} {L:Int} {m:Nat} {ov stv nxv:LV} {ps:List Nat} {st:List Int} {nx:List (List Moves)} (h:TB s L m ov stv nxv ps st nx) (hn:s.n≤s'.n) (hs:∀ id,TV ov stv nxv id→s'.get id=s.get id):TB s' L m ov stv nxv ps st nx:=
  ⟨h.ob.keep hn fun id hu=>hs id (.inl hu),h.od.mono hn fun id hu=>hs id (.inr hu),h.oo⟩
theorem TB.lt {s:St} {L:Int} {m:Nat} {ov stv nxv:LV} {ps:List Nat} {st:List Int} {nx:List (List Moves)} (h:TB s L m ov stv nxv ps st nx) {id:Nat} (hu:TV ov stv nxv id):id<s.n:=by
  rcases hu with hu | hu
  · exact h.ob.lt hu
  · exact h.od.lt hu
theorem TB.od' {s s3:St} {L:Int} {m:Nat} {ov v' stv nxv:LV} {ps ps':List Nat} {st:List Int} {nx:List (List Moves)} (h:TB s L m ov stv nxv ps st nx) (hS:SkE s3 v' 3 (tcells3 m ps') ps'.length) (hn:s.n≤s3.n) (hu:∀ id,uses v' id→uses ov id∨s.n≤id) (hk:∀ id,id<s.n→¬ uses ov id→s3.get id=s.get id):TB s3 L m v' stv nxv ps' st nx:=
  ⟨h.ob.keep hn fun id hu=>hk id (h.ob.lt hu) fun hu'=>h.oo id hu' hu,hS,fun id hid hu'=>by
    rcases hu id hid with h1 | h1
    · exact h.oo id h1 hu'
    · have:=h.ob.lt hu';omega⟩
theorem TB.start {s s3:St} {L:Int} {m:Nat} {ov stv nxv:LV} {ps:List Nat} {st:List Int} {nx:List (List Moves)} {z:Int} {j:Nat} (h:TB s L m ov stv nxv ps st nx) (hj:s.n≤j) (hS:SkC s3 (.sref j 0 (st.length+1) 1) 1 (ints st++[.int .i64 z]) (st.length+1)) (hn:s.n≤s3.n) (hk:∀ id,id<s.n→¬ uses stv id→s3.get id=s.get id) :
    TB (s3.put 1 (.cells .mut [.int .i64 L, .sref j 0 (st.length+1) 1,nxv])) L m ov (.sref j 0 (st.length+1) 1) nxv ps (st++[z]) nx:=by
  have on:=h.ob.on
  refine ⟨h.ob.start hj hS hn hk,h.od.mono (by rw [St.n_put];exact hn) fun id hu=>?_,fun id hu=>?_⟩
  · rw [St.get_put,if_neg (by rintro rfl;exact h.oo 1 hu (.inr (.inl rfl)))]
    exact hk id (h.od.lt hu) fun hu'=>h.oo id hu (.inr (.inr (.inl hu')))
  · rintro (h1 | h1 | h1 | h1)
    · exact h.oo id hu (.inl h1)
    · exact h.oo id hu (.inr (.inl h1))
    · have:=uses_sref.1 h1
      have:=h.od.lt hu
      omega
    · exact h.oo id hu (.inr (.inr (.inr h1)))
theorem TB.row {s s3:St} {L:Int} {m:Nat} {ov stv nxv v':LV} {ps:List Nat} {st:List Int} {nx:List (List Moves)} {row:List Moves} {j:Nat} {rvs:List LV} {T:Nat→Prop} (h:TB s L m ov stv nxv ps st nx) (hT:∀ id,T id→¬ TV ov stv nxv id) (h1:rvs.length=nx.length) (h3:∀ i,i<nx.length→IsRowM (rvs.getD i .top) (nx.getD i [])) (hv:IsRowM v' row) (hj:s.n≤j) (hS:SkC s3 (.sref j 0 (nx.length+1) 1) 1 (rvs++[v']) (nx.length+1)) (hn:s.n≤s3.n) (hk:∀ id,id<s.n→¬ uses nxv id→¬ T id→s3.get id=s.get id) :
    TB (s3.put 1 (.cells .mut [.int .i64 L,stv, .sref j 0 (nx.length+1) 1])) L m ov stv (.sref j 0 (nx.length+1) 1) ps st (nx++[row]):=by
  have on:=h.ob.on
  refine ⟨h.ob.row (T:=T) (fun id ht hu=>hT id ht (.inl hu)) h1 h3 hv hj hS hn hk,h.od.mono (by rw [St.n_put];exact hn) fun id hu=>?_,fun id hu=>?_⟩
  · rw [St.get_put,if_neg (by rintro rfl;exact h.oo 1 hu (.inr (.inl rfl)))]
    exact hk id (h.od.lt hu) (fun hu'=>h.oo id hu (.inr (.inr (.inr hu')))) fun ht=>hT id ht (.inr hu)
  · rintro (h1 | h1 | h1 | h1)
    · exact h.oo id hu (.inl h1)
    · exact h.oo id hu (.inr (.inl h1))
    · exact h.oo id hu (.inr (.inr (.inl h1)))
    · have:=uses_sref.1 h1
      have:=h.od.lt hu
      omega
theorem OB.fz' {s:St} {ob:Nat} {stv nxv:LV} {C:Bu} (h:OB s ob C.L stv nxv C.start C.next) (h1:C.start.length≤1048576) (h2:C.next.length≤1048576) (hr:∀ x∈C.start,inI64 x) {S:St} (hS:∀ id,uses stv id∨uses nxv id→S.get id=s.get id) :
    ∃ r s' sv nv,frz frzDepth (.tup [.agg [.int .i64 C.L,stv,nxv], .int .i64 0]) S=some (.tup [r, .int .i64 0],s')∧IsB r C sv nv:=by
  obtain ⟨rvs,k1,k2,k3⟩:=h.rows
  have hmx:maxLen=9223372036854775807:=by decide
  have f1:FZ (uses stv) (fun v'=>IsInts v' C.start) 38 stv s:=(fz_ske 36 h.ss (ints_cl' _)).mono fun v hv=>⟨hv,by omega,hr⟩
  have f2:FZ (uses nxv) (fun v'=>IsNext v' C.next) 38 nxv s:=(fz_ske 36 k2 (closedAll_of fun i hi=>(k3 i (by omega)).closed)).mono fun v hv=>⟨rvs,hv,k1,by omega,k3⟩
  exact frz_aut' (f1.stable (s':=S) fun id hid=>hS id (.inl hid)) (f2.stable (s':=S) fun id hid=>hS id (.inr hid)) h.dj
theorem pc_get {m:Nat} {l:List Nat} {k p:Nat} (h:l[k]? = some p):(tcells3 m l)[k*3+0]? = some (.int .i64 (px m p))∧(tcells3 m l)[k*3+1]? = some (.int .i64 (py m p))∧(tcells3 m l)[k*3+2]? = some (.int .i64 (pt p)):=by
  have h1:=tcells3_take (m:=m) h
  have h2:∀ j,j<3→(tcells3 m l)[k*3+j]? = (pc3 m p)[j]? := fun j hj=>by
    rw [← h1,List.getElem?_take_of_lt hj,List.getElem?_drop]
  exact ⟨h2 0 (by decide),h2 1 (by decide),h2 2 (by decide)⟩
theorem fm_split {f:Nat→List Nat} {L x:Nat} (hx:x<L) {l1 l2':List Nat} (h:f x=l1++l2'):∃ l2,(List.range L).flatMap f=(List.range x).flatMap f++l1++l2:=by
  obtain ⟨r,h1⟩:∃ r,List.range L=List.range x++x::r:=by
    have h2:x<(List.range L).length:=by rw [List.length_range];omega
    have h3:=List.drop_eq_getElem_cons h2
    rw [List.getElem_range] at h3
    refine ⟨(List.range L).drop (x+1),?_⟩
    rw [← h3]
    have h4:List.range x=(List.range L).take x:=by rw [List.take_range,Nat.min_eq_left (by omega)]
    rw [h4,List.take_append_drop]
  refine ⟨l2'++r.flatMap f,?_⟩
  rw [h1,List.flatMap_append,List.flatMap_cons,h]
  simp only [List.append_assoc]
theorem s0_is {A B:Bu} (okA:Vb A) (okB:Vb B):(grB A B).s0=stP A B:=by
  show addsN [] (stP A B)=stP A B
  have:=addsN_nodup2 (ps:=[]) (l:=stP A B) (by simpa using stP_nd2 okA okB)
  simpa using this
theorem stn_eq {A B:Bu} (okA:Vb A) (okB:Vb B):((grB A B).st.map fun p=>(numN (grB A B).R p:Int))=(List.range (stP A B).length).map fun (j:Nat)=>(j:Int):=by
  have hp:Pre (stP A B) (grB A B).R:=by
    rw [← s0_is okA okB]
    exact runN_pre _ _ _ _
  have hnd:=stP_nd2 okA okB
  apply List.ext_getElem (by simp [grB])
  intro j h1 h2
  have hj:j<(stP A B).length:=by simpa using h2
  have hm:(stP A B)[j]∈stP A B:=List.getElem_mem hj
  have h3:=numN_get hm
  obtain ⟨a1,a2⟩:=List.getElem?_eq_some_iff.1 h3
  have h4:=nd_inj2 hnd a1 hj a2
  simp only [List.getElem_map,List.getElem_range]
  show ((numN (grB A B).R (stP A B)[j]:Nat):Int)=(j:Int)
  rw [numN_pre hp hm,h4]
noncomputable def rowB2 (A B:Bu) (p:Nat):List Moves:=(List.range A.L.toNat).map fun a=>insL [] ((grB A B).ren ((grB A B).mv p a))
def mvJK (m t:Nat) (ms ns:Moves) (j k:Nat):List (Nat × Bool):=((ms.take j).flatMap fun x=>ns.map (pstep m t x))++((ns.take k).map (pstep m t (ms.getD j (0,false))))
theorem mvJK_step {m t:Nat} {ms ns:Moves} {j k:Nat} {y:Int × Bool} (h:ns[k]? = some y):mvJK m t ms ns j (k+1)=mvJK m t ms ns j k++[pstep m t (ms.getD j (0,false)) y]:=by
  unfold mvJK
  rw [List.take_add_one,h];simp
theorem mvJK_row {m t:Nat} {ms ns:Moves} {j:Nat} (h:j<ms.length):mvJK m t ms ns j ns.length=mvJK m t ms ns (j+1) 0:=by
  unfold mvJK
  have hT:ms.take (j+1)=ms.take j++[ms[j]]:=by rw [List.take_add_one,List.getElem?_eq_getElem h];rfl
  have hg:ms.getD j (0,false)=ms[j]:=by simp [List.getD_eq_getElem?_getD,h]
  rw [List.take_length,hT,hg,List.flatMap_append]
  simp
theorem mvJK_all {m t:Nat} {ms ns:Moves} : mvJK m t ms ns ms.length 0=ms.flatMap fun x=>ns.map (pstep m t x):=by
  unfold mvJK
  simp
theorem mvJK_zero {m t:Nat} {ms ns:Moves} : mvJK m t ms ns 0 0=[]:=by simp [mvJK]
theorem mvJK_pre {m t:Nat} {ms ns:Moves} {j k:Nat} (h:j<ms.length∨j=ms.length∧k=0):∃ r,(ms.flatMap fun x=>ns.map (pstep m t x))=mvJK m t ms ns j k++r:=by
  rcases h with hj | ⟨rfl,rfl⟩
  · unfold mvJK
    have h1:=List.take_append_drop j ms
    have h2:=List.drop_eq_getElem_cons hj
    have h3:ms.getD j (0,false)=ms[j]:=by simp [List.getD_eq_getElem?_getD,hj]
    have h4:ns.map (pstep m t ms[j])=(ns.take k).map (pstep m t ms[j])++(ns.drop k).map (pstep m t ms[j]):=by rw [← List.map_append,List.take_append_drop]
    refine ⟨(ns.drop k).map (pstep m t ms[j])++(ms.drop (j+1)).flatMap fun x=>ns.map (pstep m t x),?_⟩
    conv=>lhs;rw [← h1,h2]
    rw [List.flatMap_append,List.flatMap_cons,h3,h4]
    simp only [List.append_assoc]
  · exact ⟨[],by rw [mvJK_all,List.append_nil]⟩
theorem mvJK_len {m t:Nat} {ms ns:Moves} {j k:Nat} (h:j<ms.length∨j=ms.length∧k=0):(mvJK m t ms ns j k).length≤ms.length*ns.length:=by
  obtain ⟨r,hr⟩:=mvJK_pre (m:=m) (t:=t) (ns:=ns) h
  have h1:(ms.flatMap fun x=>ns.map (pstep m t x)).length=ms.length*ns.length:=fm_len fun x _=>by simp
  rw [hr,List.length_append] at h1
  omega
end Go.Proofs.YtmblpcidfjemhaaDoor
end
