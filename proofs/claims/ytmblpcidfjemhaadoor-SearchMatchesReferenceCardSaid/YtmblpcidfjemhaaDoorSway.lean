/- search.Find's way: the letters on the way from some states to a state. -/
import Derived.Test.YtmblpcidfjemhaaDoorSrev
set_option linter.unusedSimpArgs false
set_option linter.unusedVariables false
namespace Go.Proofs.YtmblpcidfjemhaaDoor
open Go Go.Pv Go.Aut Go.Fnd
open Classical
theorem ssearch_ok {v:LV} {B:Bu} {sv nv fv:LV} (hB:IsB v B sv nv) (hf:fv.closed=true) (hfc:isCell fv=true):PO 21 [v,fv] (.fn (.func 38) [] [.pimm [.int .i64 B.L,sv,nv] 0, .pimm [fv] 0]):=by
  have hvc:=hB.closed
  obtain ⟨rfl,hst',vs,hn⟩:=hB
  have hc1:=hst'.sl.cell
  have hc2:=hn.sl.cell
  refine q_fn (t:=4) hm Tryd.func21 (by decide +kernel) c21 (Nat.le_of_ble_eq_true rfl) (by simp [LV.closed.closedAll,hvc,hf]) (by have h:=hvc;simp [LV.closed,LV.closed.closedAll] at h ⊢;exact ⟨h,hf⟩) rfl ?_
  have e0:(envOf [.agg [.int .i64 B.L,sv,nv],fv]).at 0 = .agg [.int .i64 B.L,sv,nv]:=by rw [envOf_at];rfl
  have e1:(envOf [.agg [.int .i64 B.L,sv,nv],fv]).at 1=fv:=by rw [envOf_at];rfl
  generalize envOf [.agg [.int .i64 B.L,sv,nv],fv]=e at *
  unfold l21
  dsimp only [jA,qO,qm]
  have hcc:LV.closed.closedAll [LV.int .i64 B.L,sv,nv]=true:=hvc
  have hcf:LV.closed.closedAll [fv]=true:=by simp [LV.closed.closedAll,hf]
  have hq:cells? fv=some [fv]:=cells_cell hfc
  repeat' (first | refine gA trivial ?_ | (refine gB trivial ?_;intro bb hbb;cases bb<;>(try simp only [hbs,if_false,reduceCtorEq] at hbb)) | fail)
  refine ⟨.inr trivial,?_⟩
  simp only [lk,sv1,sv2,sv3,Nat.reduceEqDiff,Nat.reduceAdd,Nat.reduceLeDiff,reduceIte,if_false,if_true,mkVal,unLV,List.map,optTmps,List.map]
def stpF (R:List Fnd.En) (k:Nat):Nat→List LV:=fun q=>match (R.take k).find? (fun x=>x.1 == q) with | some x=>ecell x | none=>[.int .i64 0, .int .i64 0, .int .i64 0]
theorem stpF_len (R:List Fnd.En) (k q:Nat):(stpF R k q).length=3:=by
  unfold stpF;split<;>rfl
theorem stpF_zero (R:List Fnd.En):stpF R 0=fun _=>[.int .i64 0, .int .i64 0, .int .i64 0]:=rfl
theorem stpF_next {R:List Fnd.En} (hd:(R.map (·.1)).Nodup) {k:Nat} {x:Fnd.En} (hx:R[k]? = some x) (j:Nat):stpF R (k+1) j=if j=x.1 then ecell x else stpF R k j:=by
  unfold stpF
  rw [take_snoc hx,List.find?_append]
  have hno:(R.take k).find? (fun y=>y.1 == x.1)=none:=by
    rw [List.find?_eq_none]
    intro y hy he
    obtain ⟨i,hi⟩:=List.mem_iff_getElem?.1 hy
    rw [List.getElem?_take] at hi
    split at hi
    · rename_i hlt
      have:=nodup_at hd hi hx (by simpa using he)
      omega
    · cases hi
  by_cases he:j=x.1
  · subst he
    rw [hno,if_pos rfl]
    simp
  · rw [if_neg he]
    have:List.find? (fun y:Fnd.En=>y.1 == j) [x]=none:=by
      simp;exact fun h=>he h.symm
    rw [this]
    simp
theorem stpF_at {R:List Fnd.En} (hd:(R.map (·.1)).Nodup) {k i:Nat} {x:Fnd.En} (hx:R[i]? = some x) (hi:i<k):stpF R k x.1=ecell x:=by
  unfold stpF
  cases hf:(R.take k).find? (fun y=>y.1 == x.1) with
  | none=>
    have:=List.find?_eq_none.1 hf x (List.mem_of_getElem? (i:=i) (by rw [List.getElem?_take,if_pos hi];exact hx))
    simp at this
  | some y=>
    have h1:=List.mem_of_find?_eq_some hf
    have h2:=List.find?_some hf
    obtain ⟨j,hj⟩:=List.mem_iff_getElem?.1 h1
    rw [List.getElem?_take] at hj
    split at hj
    · have:=nodup_at hd hj hx (by simpa using h2)
      subst this
      rw [hx] at hj;cases hj;rfl
    · cases hj
set_option maxHeartbeats 16000000 in
theorem sway_ok {v:LV} {B:Bu} {sv nv fv:LV} (hB:IsB v B sv nv) (hok:Vb B) {from_:List Nat} (hf:IsInts fv (zints from_)) (hfr:∀ p∈from_,p<B.next.length) {t to:Nat} {x:Fnd.En} (ht:(sall B from_)[t]? = some x) (hto:x.1=to) {full:List Nat} (hW:Wy (sall B from_) t full) {s:St} :
    CallOk Tryd.prog GL (.fn (.func 20) [] [.pimm [.int .i64 B.L,sv,nv] 0]) [fv, .int .i64 (to:Int)] s (fun r s'=>SkC s' r 1 (nints full) full.length∧(∀ id,uses r id→s.n≤id)∧s.n≤s'.n∧∀ id,id<s.n→s'.get id=s.get id):=by
  have hB0:=hB
  obtain ⟨hRok,hRcl,hRfr⟩:=sall_ok hok hfr
  have hsr:=ssearch_ok hB hf.closed hf.sl.cell
  obtain ⟨rfl,hst',vs,hn⟩:=hB
  have hc1:=hst'.sl.cell
  have hc2:=hn.sl.cell
  have hnl:=hn.sl.len
  have hn3:=hok.2.2.1
  have hxn:to<B.next.length:=by rw [← hto];exact hRok.rng x (List.mem_of_getElem? ht)
  have hRl:=hRok.len
  refine call_fn (first:=[]) (caps:=[.pimm [.int .i64 B.L,sv,nv] 0]) Tryd.func20 (by decide +kernel) c20 (Nat.le_of_ble_eq_true rfl) (CodeOk.mono (Q:=fun o e s'=>(o = .normal∨o = .jmp .ret)∧SkC s' (e.at 5) 1 (nints full) full.length∧(∀ id,uses (e.at 5) id→s.n≤id)∧s.n≤s'.n∧∀ id,id<s.n→s'.get id=s.get id) ?_ fun o e s' hh=>by
    exact ⟨hh.1,e.at 5,by simp [l20,resVal,resOne],hh.2⟩)
  have e0:(envOf ([]++[fv, .int .i64 (to:Int)]++[.pimm [.int .i64 B.L,sv,nv] 0])).at 0=fv:=by rw [envOf_at];rfl
  have e1:(envOf ([]++[fv, .int .i64 (to:Int)]++[.pimm [.int .i64 B.L,sv,nv] 0])).at 1 = .int .i64 (to:Int):=by rw [envOf_at];rfl
  have e2:(envOf ([]++[fv, .int .i64 (to:Int)]++[.pimm [.int .i64 B.L,sv,nv] 0])).at 2 = .pimm [.int .i64 B.L,sv,nv] 0:=by rw [envOf_at];rfl
  generalize envOf ([]++[fv, .int .i64 (to:Int)]++[.pimm [.int .i64 B.L,sv,nv] 0])=e at *
  refine Cd.out ?_
  unfold l20
  dsimp only [jA,jG,qN,qF,qS,qI,qO,qG,qm,ql]
  generalize hR:sall B from_=R at *
  repeat' (first | refine gA @hnl ?_ | (refine gB @hnl ?_;intro bb hbb;cases bb<;>(try simp only [hbs,if_false,reduceCtorEq] at hbb)) | fail)
  refine u_mkR (n:=B.next.length) wN rfl ef ef (by omega) (by omega) rfl ?_
  repeat' (first | refine gA trivial ?_ | (refine gB trivial ?_;intro bb hbb;cases bb<;>(try simp only [hbs,if_false,reduceCtorEq] at hbb)) | fail)
  refine q_pure hG0 hsr wN (by simp only [List.map,lk,sv1,sv2,sv3,Nat.reduceEqDiff,Nat.reduceAdd,Nat.reduceLeDiff,reduceIte,if_false,if_true,mkVal,unLV,List.map,optTmps,e0]) trivial ?_
  simp only [Env.put_some]
  repeat' (first | refine gA trivial ?_ | (refine gB trivial ?_;intro bb hbb;cases bb<;>(try simp only [hbs,if_false,reduceCtorEq] at hbb)) | fail)
  refine qc_gen (fun e s1=>e.at 2 = .pimm [.int .i64 B.L,sv,nv] 0∧e.at 4 = .pimm [.int .i64 (to:Int)] 0∧e.at 6 = .pref (s.n+1) 0∧e.at 16 = .fn (.func 38) [] [.pimm [.int .i64 B.L,sv,nv] 0, .pimm [fv] 0]∧s1.n=s.n+2∧s1.get s.n=some (.cells .mut (rcells B.next.length (stpF R 0)))∧s1.get (s.n+1)=some (.cells .mut [.sref s.n 0 B.next.length 3])∧∀ id,id<s.n→s1.get id=s.get id) ?_ ?_
  · refine ⟨ef,ef,ef,ef,by simp,?_,by simp,fun id hid=>?_⟩
    · rw [stpF_zero]
      simp
    · rw [St.get_put,if_neg (by omega),St.get_new,St.n_new,if_neg (by omega),St.get_new,if_neg (by omega)]
  clear e0 e1 e2
  clear e
  rintro e sA ⟨e2,e4,e6,e16,hAn,gA0,gA1,hAf⟩
  have hpc:∀ x,cells? (.agg (ecell x))=some (ecell x):=fun _=>rfl
  refine srange_ok hB0 hok hf hfr hR ef (fun k s1=>s1.get s.n=some (.cells .mut (rcells B.next.length (stpF R k)))∧s1.get (s.n+1)=some (.cells .mut [.sref s.n 0 B.next.length 3])∧(∀ id,id<s.n→s1.get id=s.get id)∧∀ j x',j<k→R[j]? = some x'→x'.1≠to)
    (fun j s1=>j = .exit 0∧s1.get s.n=some (.cells .mut (rcells B.next.length (stpF R (t+1))))∧s1.get (s.n+1)=some (.cells .mut [.sref s.n 0 B.next.length 3])∧∀ id,id<s.n→s1.get id=s.get id) ⟨gA0,gA1,hAf,fun j x' h=>absurd h (Nat.not_lt_zero _)⟩ ?_ ?_ ?_ ?_ ?_
  · rintro k s1 s2 ⟨h1,h2,h3,h4⟩ h5 h6 h7
    rw [hAn] at h7
    exact ⟨by rw [h7 _ (by omega)];exact h1,by rw [h7 _ (by omega)];exact h2,fun id hid=>by rw [h7 _ (by omega)];exact h3 id hid,h4⟩
  · rintro j s1 s2 ⟨h0,h1,h2,h3⟩ h5 h7
    rw [hAn] at h7
    exact ⟨h0,by rw [h7 _ (by omega)];exact h1,by rw [h7 _ (by omega)];exact h2,fun id hid=>by rw [h7 _ (by omega)];exact h3 id hid⟩
  · rintro k x' s1 b1 b2 hx' ⟨h1,h2,h3,h4⟩ hn1 hrec nt'
    rw [hAn] at hn1 hrec ⊢
    have hxn':x'.1<B.next.length:=hRok.rng x' (List.mem_of_getElem? hx')
    have f17:Env.at (Tr.set e 17 (LV.agg (ecell x'))) 17=LV.agg (ecell x'):=by simp only [lk,sv1,sv2,sv3,Nat.reduceEqDiff,Nat.reduceAdd,Nat.reduceLeDiff,reduceIte,if_false,if_true,mkVal,unLV,List.map,optTmps]
    have f4:Env.at (Tr.set e 17 (LV.agg (ecell x'))) 4=LV.pimm [.int .i64 (to:Int)] 0:=by simp only [lk,sv1,sv2,sv3,Nat.reduceEqDiff,Nat.reduceAdd,Nat.reduceLeDiff,reduceIte,if_false,if_true,mkVal,unLV,List.map,optTmps,e4]
    have f6:Env.at (Tr.set e 17 (LV.agg (ecell x'))) 6=LV.pref (s.n+1) 0:=by simp only [lk,sv1,sv2,sv3,Nat.reduceEqDiff,Nat.reduceAdd,Nat.reduceLeDiff,reduceIte,if_false,if_true,mkVal,unLV,List.map,optTmps,e6]
    generalize Tr.set e 17 (LV.agg (ecell x'))=e' at *
    have c0:=ecell_0 x'
    repeat' (first | refine gA trivial ?_ | (refine gB trivial ?_;intro bb hbb;cases bb<;>(try simp only [hbs,if_false,reduceCtorEq] at hbb)) | fail)
    refine q_storeG (i:=s1.n) (o:=0) (n:=3) (cs:=[.int .i64 0, .int .i64 0, .int .i64 0]) (vs:=ecell x') (cs':=ecell x') (v:=.agg (ecell x')) ef ef rfl (by simp) rfl (by simp) rfl ?_
    repeat' (first | refine gA trivial ?_ | (refine gB trivial ?_;intro bb hbb;cases bb<;>(try simp only [hbs,if_false,reduceCtorEq] at hbb)) | fail)
    refine ⟨by rw [St.get_put,if_neg (by omega),St.get_new,if_neg (by omega)];exact hrec,?_⟩
    have hia:∀ s2,iaLV 3 (.sref s.n 0 B.next.length 3) (.int .i64 (x'.1:Int)) s2=some (.pref s.n (x'.1*3),s2):=fun s2=>by
      have:=iaS (esz:=3) (j:=s.n) (off:=0) (len:=B.next.length) (i:=x'.1) (k:=.i64) (s:=s2) (by omega)
      simpa using this
    generalize hs2:(((s1.new (.cells .mut [.int .i64 0, .int .i64 0, .int .i64 0])).put s1.n (.cells .mut (ecell x'))).put (s.n+2) b2)=s2
    have gb:s2.get (s.n+1)=some (.cells .mut [.sref s.n 0 B.next.length 3]):=by
      rw [← hs2,St.get_put,if_neg (by omega),St.get_put,if_neg (by omega),St.get_new,if_neg (by omega)];exact h2
    have gs:s2.get s.n=some (.cells .mut (rcells B.next.length (stpF R k))):=by
      rw [← hs2,St.get_put,if_neg (by omega),St.get_put,if_neg (by omega),St.get_new,if_neg (by omega)];exact h1
    have g7:s2.get s1.n=some (.cells .mut (ecell x')):=by
      rw [← hs2,St.get_put,if_neg (by omega),St.get_put,if_pos rfl]
    have gr:s2.get (s.n+2)=some b2:=by rw [← hs2,St.get_put,if_pos rfl]
    have go:∀ id,id≠s.n+2→id<s1.n→s2.get id=s1.get id:=fun id h h'=>by
      rw [← hs2,St.get_put,if_neg h,St.get_put,if_neg (by omega),St.get_new,if_neg (by omega)]
    have gn:s2.n=s1.n+1:=by rw [← hs2];rfl
    clear hs2
    have f7:Env.at (Tr.set e' 7 (LV.pref s1.n 0)) 7=LV.pref s1.n 0:=by simp only [lk,sv1,sv2,sv3,Nat.reduceEqDiff,Nat.reduceAdd,Nat.reduceLeDiff,reduceIte,if_false,if_true,mkVal,unLV,List.map,optTmps]
    have f4':Env.at (Tr.set e' 7 (LV.pref s1.n 0)) 4=LV.pimm [.int .i64 (to:Int)] 0:=by simp only [lk,sv1,sv2,sv3,Nat.reduceEqDiff,Nat.reduceAdd,Nat.reduceLeDiff,reduceIte,if_false,if_true,mkVal,unLV,List.map,optTmps,f4]
    have f6':Env.at (Tr.set e' 7 (LV.pref s1.n 0)) 6=LV.pref (s.n+1) 0:=by simp only [lk,sv1,sv2,sv3,Nat.reduceEqDiff,Nat.reduceAdd,Nat.reduceLeDiff,reduceIte,if_false,if_true,mkVal,unLV,List.map,optTmps,f6]
    generalize Tr.set e' 7 (LV.pref s1.n 0)=em at *
    repeat' (first | refine gA (And.intro @ecell_take (And.intro @ecell_drop (And.intro @hpc (And.intro @c0 @hia)))) ?_ | (refine gB (And.intro @ecell_take (And.intro @ecell_drop (And.intro @hpc (And.intro @c0 @hia)))) ?_;intro bb hbb;cases bb<;>(try simp only [hbs,if_false,reduceCtorEq] at hbb)) | fail)
    refine q_storeR (i:=s.n) (q:=x'.1) (v:=.agg (ecell x')) (vs:=ecell x') (f':=stpF R (k+1)) ef ef rfl rfl gs (fun i=>stpF_len R k i) hxn' (fun j=>stpF_next hRok.nd hx' j) (fun s3 a1 a2 a3=>?_)
    have g7':=(a3 s1.n (by omega)).trans g7
    repeat' (first | refine gA @c0 ?_ | (refine gB @c0 ?_;intro bb hbb;cases bb<;>(try simp only [hbs,if_false,reduceCtorEq] at hbb)) | fail)
    · refine ⟨(a3 _ (by omega)).trans gr,by omega,fun i hi hi2=>by rw [a3 i (by omega)];exact go i (by omega) hi2,a2,(a3 _ (by omega)).trans gb,fun id hid=>by rw [a3 id (by omega),go id (by omega) (by omega)];exact h3 id hid,fun j y hj hy=>?_⟩
      by_cases hjk:j<k
      · exact h4 j y hjk hy
      · obtain rfl:j=k:=by omega
        rw [hx'] at hy;cases hy
        omega
    · have hk:k=t:=nodup_at hRok.nd hx' ht (by rw [hto];omega)
      subst hk
      exact ⟨(a3 _ (by omega)).trans gr,by omega,fun i hi hi2=>by rw [a3 i (by omega)];exact go i (by omega) hi2,trivial,a2,(a3 _ (by omega)).trans gb,fun id hid=>by rw [a3 id (by omega),go id (by omega) (by omega)];exact h3 id hid⟩
  · rintro s1 ⟨h1,h2,h3,h4⟩ hn1
    exact absurd hto (h4 t x (List.getElem?_eq_some_iff.1 ht).1 ht)
  · rintro j s1 ⟨rfl,h1,h2,h3⟩ hn1
    clear hsr
    simp only [Blkd,Thn,reduceIte]
    have hia:∀ (q:Nat),q<B.next.length→∀ s2,iaLV 3 (.sref s.n 0 B.next.length 3) (.int .i64 (q:Int)) s2=some (.pref s.n (q*3),s2):=fun q hq s2=>by
      have:=iaS (esz:=3) (j:=s.n) (off:=0) (len:=B.next.length) (i:=q) (k:=.i64) (s:=s2) (by omega)
      simpa using this
    have hldN:∀ (i:Nat) (y:Fnd.En),i≤t→R[i]? = some y→∀ s2,s2.get s.n=some (.cells .mut (rcells B.next.length (stpF R (t+1))))→loadLV (some 3) (.pref s.n (y.1*3)) s2=some (.agg (ecell y)):=fun i y hi hy s2 hs2=>by
      have hyn:y.1<B.next.length:=hRok.rng y (List.mem_of_getElem? hy)
      have h5:y.1*3+3≤(rcells B.next.length (stpF R (t+1))).length:=by
        rw [rcells_len (stpF_len R (t+1))];omega
      have h6:=rcells_take (m:=3) (stpF_len R (t+1)) hyn
      rw [stpF_at hRok.nd hy (by omega)] at h6
      simp only [loadLV,mkVal,hs2]
      rw [if_pos h5,h6]
    have hl0:=hldN t x (Nat.le_refl _) ht s1 h1
    rw [hto] at hl0
    have hia0:=hia to hxn
    have htR:=(List.getElem?_eq_some_iff.1 ht).1
    repeat' (first | refine gA (And.intro @hia0 @hl0) ?_ | (refine gB (And.intro @hia0 @hl0) ?_;intro bb hbb;cases bb<;>(try simp only [hbs,if_false,reduceCtorEq] at hbb)) | fail)
    refine q_storeG (i:=s1.n) (o:=0) (n:=3) (cs:=[.int .i64 0, .int .i64 0, .int .i64 0]) (vs:=ecell x) (cs':=ecell x) (v:=.agg (ecell x)) ef ef rfl (by simp) rfl (by simp) rfl ?_
    repeat' (first | refine gA trivial ?_ | (refine gB trivial ?_;intro bb hbb;cases bb<;>(try simp only [hbs,if_false,reduceCtorEq] at hbb)) | fail)
    have hn1':s.n+2+1≤s1.n:=by omega
    refine qc_loop (fun m e s2=>∃ (y:Fnd.En) (lc lj:List Nat) (lv:LV) (b9:Nat),R[m]? = some y∧m≤t∧Wy R m lj∧lj++lc.reverse=full∧s2.get s.n=some (.cells .mut (rcells B.next.length (stpF R (t+1))))∧s2.get (s.n+1)=some (.cells .mut [.sref s.n 0 B.next.length 3])∧(∀ id,id<s.n→s2.get id=s.get id)∧s.n+2≤b9∧b9<s2.n∧s2.get b9=some (.cells .mut (ecell y))∧SkC s2 lv 1 (nints lc) lc.length∧(∀ id,uses lv id→s.n+2≤id∧id≠b9)∧e.at 4 = .pimm [.int .i64 (to:Int)] 0∧e.at 6 = .pref (s.n+1) 0∧e.at 8=lv∧e.at 9 = .pref b9 0) t
      ⟨x,[],full, .nils,s1.n,ht,Nat.le_refl _,hW,by simp,by rw [St.get_put,if_neg (by omega),St.get_new,if_neg (by omega)];exact h1,by rw [St.get_put,if_neg (by omega),St.get_new,if_neg (by omega)];exact h2,fun id hid=>by rw [St.get_put,if_neg (by omega),St.get_new,if_neg (by omega)];exact h3 id hid,by omega,by simp,by rw [St.get_put,if_pos rfl],SkC.nil _ _,fun id h=>absurd h (uses_nils id),ef,ef,ef,ef⟩ ?_
    clear hl0 hia0 h1 h2 h3 hn1 hn1' e2 e4 e6 e16 hAn gA0 gA1 hAf
    clear s1 e sA
    rintro m e s2 ⟨y,lc,lj,lv,b9,hy,hmt,hWj,hfull,g0,g1,hfr2,hb0,hb1,g9,hS,hlow,e4,e6,e8,e9⟩
    have c1:(ecell y)[1]? = some (.int .i64 y.2.1):=rfl
    have c2:(ecell y)[2]? = some (.int .i64 (y.2.2:Int)):=rfl
    have hWl:=hWj.len
    have hlcl:lc.length≤full.length:=by rw [← hfull];simp
    have hfl:full.length≤t:=hW.len
    rcases hWj with ⟨hy',hyb⟩ | ⟨hy',hz,hj,hyb,hk⟩
    · -- the way's begin
      rw [hy] at hy'
      cases hy'
      repeat' (first | refine gA @c1 ?_ | (refine gB @c1 ?_;intro bb hbb;cases bb<;>(try simp only [hbs,if_false,reduceCtorEq] at hbb)) | fail)
      rotate_left
      · exfalso;omega
      refine q_call wN rfl (vs:=[lv]) (by simp only [List.map,lk,sv1,sv2,sv3,Nat.reduceEqDiff,Nat.reduceAdd,Nat.reduceLeDiff,reduceIte,if_false,if_true,mkVal,unLV,List.map,optTmps,e8]) (CallOk.mono (reverse_ok hS (by omega)) fun v s3 hh=>⟨trivial,?_⟩)
      obtain ⟨a1,a2,a3⟩:=hh
      simp only [Env.put_some]
      repeat' (first | refine gA trivial ?_ | (refine gB trivial ?_;intro bb hbb;cases bb<;>(try simp only [hbs,if_false,reduceCtorEq] at hbb)) | fail)
      have hre:lc.reverse=full:=by simpa using hfull
      have hle:full.length=lc.length:=by rw [← hre];simp
      refine ⟨.inr trivial,?_,?_,by omega,fun id hid=>?_⟩
      · simp only [lk,sv1,sv2,sv3,Nat.reduceEqDiff,Nat.reduceAdd,Nat.reduceLeDiff,reduceIte,if_false,if_true,mkVal,unLV,List.map,optTmps,e8]
        rw [hle,← hre];exact a1
      · simp only [lk,sv1,sv2,sv3,Nat.reduceEqDiff,Nat.reduceAdd,Nat.reduceLeDiff,reduceIte,if_false,if_true,mkVal,unLV,List.map,optTmps,e8]
        exact fun id hu=>by have:=(hlow id hu).1;omega
      · rw [a3 id fun hu=>by have:=(hlow id hu).1;omega]
        exact hfr2 id hid
    · rename_i j' x2 z l2
      rw [hy] at hy'
      cases hy'
      have hzn:z.1<B.next.length:=hRok.rng z (List.mem_of_getElem? hz)
      have hzl:=hldN j' z (by omega) hz
      have hza:=hia z.1 hzn
      rw [hyb] at c1
      repeat' (first | refine gA (And.intro @c1 @c2) ?_ | (refine gB (And.intro @c1 @c2) ?_;intro bb hbb;cases bb<;>(try simp only [hbs,if_false,reduceCtorEq] at hbb)) | fail)
      all_goals first | (exfalso;omega) | skip
      refine q_appC (n:=lc.length) (esz:=1) (xv:=.int .i64 (y.2.2:Int)) (yv:=lv) (vs:=[.int .i64 (y.2.2:Int)]) ef rfl rfl rfl rfl ef hS (by decide) (by omega) (fun s3 j3 b1 b2 b3 b4=>?_)
      have hj3:j3<s3.n:=b2.lt (uses_sref.2 rfl)
      have g0':=(b4 s.n (by omega) fun hu=>by have:=(hlow _ hu).1;omega).trans g0
      have g1':=(b4 (s.n+1) (by omega) fun hu=>by have:=(hlow _ hu).1;omega).trans g1
      have g9':=(b4 b9 (by omega) fun hu=>(hlow _ hu).2 rfl).trans g9
      have hfr3:∀ id,id<s.n→s3.get id=s.get id:=fun id hid=>(b4 id (by omega) fun hu=>by have:=(hlow _ hu).1;omega).trans (hfr2 id hid)
      repeat' (first | refine gA (And.intro @ecell_take @ecell_drop) ?_ | (refine gB (And.intro @ecell_take @ecell_drop) ?_;intro bb hbb;cases bb<;>(try simp only [hbs,if_false,reduceCtorEq] at hbb)) | fail)
      refine qc_seq ?_
      refine qc_seq ?_
      repeat' (first | refine gA (And.intro @ecell_take @ecell_drop) ?_ | (refine gB (And.intro @ecell_take @ecell_drop) ?_;intro bb hbb;cases bb<;>(try simp only [hbs,if_false,reduceCtorEq] at hbb)) | fail)
      refine q_storeG (i:=s3.n) (o:=0) (n:=3) (cs:=[.int .i64 0, .int .i64 0, .int .i64 0]) (vs:=ecell y) (cs':=ecell y) (v:=.agg (ecell y)) ef ef rfl (by simp) rfl (by simp) rfl ?_
      generalize hs4:(s3.new (.cells .mut [.int .i64 0, .int .i64 0, .int .i64 0])).put s3.n (.cells .mut (ecell y))=s4
      have k0:s4.get s.n=some (.cells .mut (rcells B.next.length (stpF R (t+1)))):=by rw [← hs4,St.get_put,if_neg (by omega),St.get_new,if_neg (by omega)];exact g0'
      have k1:s4.get (s.n+1)=some (.cells .mut [.sref s.n 0 B.next.length 3]):=by rw [← hs4,St.get_put,if_neg (by omega),St.get_new,if_neg (by omega)];exact g1'
      have k9:s4.get s3.n=some (.cells .mut (ecell y)):=by rw [← hs4,St.get_put,if_pos rfl]
      have kn:s4.n=s3.n+1:=by rw [← hs4];rfl
      have ko:∀ id,id<s3.n→s4.get id=s3.get id:=fun id hid=>by rw [← hs4,St.get_put,if_neg (by omega),St.get_new,if_neg (by omega)]
      have hl4:=hzl s4 k0
      clear hs4
      repeat' (first | refine gA (And.intro @c1 (And.intro @hza @hl4)) ?_ | (refine gB (And.intro @c1 (And.intro @hza @hl4)) ?_;intro bb hbb;cases bb<;>(try simp only [hbs,if_false,reduceCtorEq] at hbb)) | fail)
      refine q_storeG (i:=s3.n) (o:=0) (n:=3) (cs:=ecell y) (vs:=ecell z) (cs':=ecell z) (v:=.agg (ecell z)) ef ef rfl k9 rfl (by simp [ecell]) rfl ?_
      repeat' (first | refine gA trivial ?_ | (refine gB trivial ?_;intro bb hbb;cases bb<;>(try simp only [hbs,if_false,reduceCtorEq] at hbb)) | fail)
      refine ⟨j',hj,z,lc++[y.2.2],l2, .sref j3 0 (lc.length+1) 1,s3.n,hz,by omega,hk,by rw [← hfull];simp,by rw [St.get_put,if_neg (by omega)];exact k0,by rw [St.get_put,if_neg (by omega)];exact k1,fun id hid=>?_,by omega,by rw [St.n_put];omega,by rw [St.get_put,if_pos rfl],?_,fun id hu=>?_,?_⟩
      · rw [St.get_put,if_neg (by omega),ko id (by omega)];exact hfr3 id hid
      · have:nints (lc++[y.2.2])=nints lc++[.int .i64 (y.2.2:Int)]:=by simp [nints]
        rw [this,List.length_append,List.length_singleton]
        exact b2.mono (by rw [St.n_put];omega) fun id hu=>by
          have:=uses_sref.1 hu
          rw [St.get_put,if_neg (by omega),ko id (by omega)]
      · have:=uses_sref.1 hu
        omega
      · simp only [lk,sv1,sv2,sv3,Nat.reduceEqDiff,Nat.reduceAdd,Nat.reduceLeDiff,reduceIte,if_false,if_true,mkVal,unLV,List.map,optTmps,e4,e6,and_self]
end Go.Proofs.YtmblpcidfjemhaaDoor
