/- slices.Reverse at numbers: the list turned round, in place. -/
import Derived.Test.YtmblpcidfjemhaaDoorSiter
set_option linter.unusedSimpArgs false
set_option linter.unusedVariables false
section
set_option linter.unusedSimpArgs false
set_option linter.unusedVariables false
namespace Go.Proofs.YtmblpcidfjemhaaDoor
open Go Go.Pv Go.Aut Go.Fnd
open Classical
theorem nints_fcells (l:List Nat):nints l=fcells l.length fun k=>l.getD k 0:=by
  apply List.ext_getElem?
  intro j
  by_cases hj:j<l.length
  · rw [fcells_get hj]
    simp [nints,List.getElem?_eq_getElem hj,List.getD_eq_getElem?_getD]
  · rw [List.getElem?_eq_none (by simpa using hj),List.getElem?_eq_none (by simpa using hj)]
def revF (l:List Nat) (i k:Nat):Nat:=if k<i∨l.length≤k+i then l.getD (l.length - 1 - k) 0 else l.getD k 0
theorem revF_end {l:List Nat} {i:Nat} (h:l.length≤2*i+1):fcells l.length (revF l i)=nints l.reverse:=by
  rw [nints_fcells,List.length_reverse]
  unfold fcells
  refine List.map_congr_left fun k hk=>?_
  have hk':k<l.length:=List.mem_range.1 hk
  have e1:l.reverse.getD k 0=l.getD (l.length - 1 - k) 0:=by
    rw [List.getD_eq_getElem?_getD,List.getD_eq_getElem?_getD,List.getElem?_reverse hk']
  have e2:revF l i k=l.getD (l.length - 1 - k) 0:=by
    unfold revF
    by_cases h1:k<i∨l.length≤k+i
    · rw [if_pos h1]
    · rw [if_neg h1]
      congr 1
      omega
  show LV.int .i64 (revF l i k:Int)=LV.int .i64 (l.reverse.getD k 0:Int)
  rw [e1,e2]
set_option maxHeartbeats 4000000 in
theorem reverse_ok {s:St} {lv:LV} {l:List Nat} (h:SkC s lv 1 (nints l) l.length) (hl:l.length≤1048576) :
    CallOk Tryd.prog GL (.fn (.func 22) [] []) [lv] s (fun _ s'=>SkC s' lv 1 (nints l.reverse) l.length∧s'.n=s.n∧∀ id,¬ uses lv id→s'.get id=s.get id):=by
  refine call_fn (first:=[]) (caps:=[]) Tryd.func22 (by decide +kernel) c22 (Nat.le_of_ble_eq_true rfl) (CodeOk.mono (Q:=fun o e s'=>(o = .normal∨o = .jmp .ret)∧SkC s' lv 1 (nints l.reverse) l.length∧s'.n=s.n∧∀ id,¬ uses lv id→s'.get id=s.get id) ?_ fun o e s' hh=>by
    exact ⟨hh.1, .tup [],by simp [l22,resVal],hh.2⟩)
  have e0:(envOf ([]++[lv]++[])).at 0=lv:=by rw [envOf_at];rfl
  generalize envOf ([]++[lv]++[])=e at *
  refine Cd.out ?_
  unfold l22
  dsimp only [jA,jB,jH,qM,qL,qS,qI,qA,qB,qC,qm]
  have hlen:=h.len
  obtain ⟨n,hn⟩:∃ n,l.length=n:=⟨_,rfl⟩
  rw [hn] at hlen hl
  have hw0:IntKind.i64.wrap ((n:Int) - 1)=(n:Int) - 1:=wrap_i64 _ (by omega) (by omega)
  repeat' (first | refine gA (And.intro @hlen @hw0) ?_ | (refine gB (And.intro @hlen @hw0) ?_;intro bb hbb;cases bb<;>(try simp only [hbs,if_false,reduceCtorEq] at hbb)) | fail)
  refine qc_loop (fun m e s1=>∃ i:Nat,m=n+1 - 2*i∧2*i≤n+1∧s1.n=s.n∧(∀ id,¬ uses lv id→s1.get id=s.get id)∧SkC s1 lv 1 (fcells n (revF l i)) n∧e.at 0=lv∧e.at 2 = .int .i64 (i:Int)∧e.at 3 = .int .i64 ((n:Int) - 1 - i)) _
    ⟨0, rfl, by omega, rfl, fun _ _ => rfl, by
      have:fcells n (revF l 0)=nints l:=by
        rw [nints_fcells,hn]
        unfold fcells
        refine List.map_congr_left fun k hk=>?_
        have hk':k<n:=List.mem_range.1 hk
        unfold revF
        rw [if_neg (by omega)]
      rw [this,← hn];exact h,ef,by simp only [lk,sv1,sv2,sv3,Nat.reduceEqDiff,Nat.reduceAdd,Nat.reduceLeDiff,reduceIte,if_false,if_true,mkVal,unLV,List.map,optTmps];rfl,by simp only [lk,sv1,sv2,sv3,Nat.reduceEqDiff,Nat.reduceAdd,Nat.reduceLeDiff,reduceIte,if_false,if_true,mkVal,unLV,List.map,optTmps];rw [hw0];simp⟩ ?_
  clear e0
  clear e
  rintro m e s1 ⟨i,rfl,hi,hn1,hfr,hS,e0,e2,e3⟩
  have hw1:IntKind.i64.wrap ((i:Int)+1)=((i+1:Nat):Int):=by rw [wrap_i64 _ (by omega) (by omega)];rfl
  have hw2:IntKind.i64.wrap ((n:Int) - 1 - (i:Int) - 1)=(n:Int) - 1 - ((i+1:Nat):Int):=by rw [wrap_i64 _ (by omega) (by omega)];omega
  by_cases hij:(i:Int)<(n:Int) - 1 - (i:Int)
  · obtain ⟨j,rfl,hj,hg⟩:=hS.pos (by omega)
    obtain ⟨q,hq⟩:∃ q:Nat,(n:Int) - 1 - (i:Int)=(q:Int):=⟨n - 1 - i,by omega⟩
    rw [hq] at e3 hij hw2
    have hiI:(i:Int)<(n:Int):=by omega
    have hqI:(q:Int)<(n:Int):=by omega
    have g1:(fcells n (revF l i))[i]? = some (.int .i64 (revF l i i:Int)):=fcells_get (by omega)
    have g2:(fcells n (revF l i))[q]? = some (.int .i64 (revF l i q:Int)):=fcells_get (by omega)
    repeat' (first | refine gA (And.intro @iaS (And.intro @g1 @g2)) ?_ | (refine gB (And.intro @iaS (And.intro @g1 @g2)) ?_;intro bb hbb;cases bb<;>(try simp only [hbs,if_false,reduceCtorEq] at hbb)) | fail)
    · exfalso;omega
    refine q_storeF (i:=j) (v:=i) (y:=revF l i q) (f:=revF l i) (f':=fun k=>if k=i then revF l i q else revF l i k) (by simp only [lk,sv1,sv2,sv3,Nat.reduceEqDiff,Nat.reduceAdd,Nat.reduceLeDiff,reduceIte,if_false,if_true,mkVal,unLV,List.map,optTmps,Nat.zero_add,Nat.mul_one]) ef hg (by omega) (fun _=>rfl) (fun s2 a1 a2 a3=>?_)
    repeat' (first | refine gA (And.intro @iaS (And.intro @g1 @g2)) ?_ | (refine gB (And.intro @iaS (And.intro @g1 @g2)) ?_;intro bb hbb;cases bb<;>(try simp only [hbs,if_false,reduceCtorEq] at hbb)) | fail)
    refine q_storeF (i:=j) (v:=q) (y:=revF l i i) (f:=fun k=>if k=i then revF l i q else revF l i k) (f':=revF l (i+1)) (by simp only [lk,sv1,sv2,sv3,Nat.reduceEqDiff,Nat.reduceAdd,Nat.reduceLeDiff,reduceIte,if_false,if_true,mkVal,unLV,List.map,optTmps,Nat.zero_add,Nat.mul_one]) ef a2 (by omega) (fun k=>?_) (fun s3 b1 b2 b3=>?_)
    · have hq':q=n - 1 - i:=by omega
      subst hq'
      by_cases h1:k=n - 1 - i
      · rw [if_pos h1]
        unfold revF
        rw [hn,if_pos (by omega),if_neg (by omega)]
        congr 1
        omega
      · rw [if_neg h1]
        by_cases h2:k=i
        · rw [if_pos h2]
          unfold revF
          rw [hn,if_pos (by omega),if_neg (by omega)]
          congr 1
          omega
        · rw [if_neg h2]
          unfold revF
          rw [hn]
          by_cases h3:k<i∨n≤k+i
          · rw [if_pos h3,if_pos (by omega)]
          · rw [if_neg h3,if_neg (by omega)]
    repeat' (first | refine gA trivial ?_ | (refine gB trivial ?_;intro bb hbb;cases bb<;>(try simp only [hbs,if_false,reduceCtorEq] at hbb)) | fail)
    refine ⟨n+1 - 2*(i+1),by omega,i+1,rfl,by omega,by omega,fun id hu=>?_,⟨by simp, .inr ⟨j,rfl,by omega,by omega,b2⟩⟩,?_⟩
    · have hne:id≠j:=fun e=>hu (uses_sref.2 e)
      rw [b3 id hne,a3 id hne];exact hfr id hu
    · simp only [lk,sv1,sv2,sv3,Nat.reduceEqDiff,Nat.reduceAdd,Nat.reduceLeDiff,reduceIte,if_false,if_true,mkVal,unLV,List.map,optTmps,hw1,hw2,e0,and_self]
  · repeat' (first | refine gA trivial ?_ | (refine gB trivial ?_;intro bb hbb;cases bb<;>(try simp only [hbs,if_false,reduceCtorEq] at hbb)) | fail)
    · refine ⟨.inl trivial,?_,hn1,hfr⟩
      have:=revF_end (l:=l) (i:=i) (by omega)
      rw [hn] at this
      rw [← this,hn]
      exact hS
    · exfalso;omega
end Go.Proofs.YtmblpcidfjemhaaDoor
end
section
set_option linter.unusedSimpArgs false
set_option linter.unusedVariables false
namespace Go.Proofs.YtmblpcidfjemhaaDoor
open Go Go.Pv Go.Aut Go.Fnd
open Classical
theorem srange_ok {v:LV} {B:Bu} {sv nv fv:LV} (hB:IsB v B sv nv) (hok:Vb B) {from_:List Nat} (hf:IsInts fv (zints from_)) (hfr:∀ p∈from_,p<B.next.length) {R:List Fnd.En} (hR:sall B from_=R) {y:Opd} {p nt:Nat} {ac bc:LCode} {e:Env} {s:St} {Q:Out→Env→St→Prop}
    (hy:y.ev e = .fn (.func 38) [] [.pimm [.int .i64 B.L,sv,nv] 0, .pimm [fv] 0]) (Jv:Nat→St→Prop) (Jx:Jmp→St→Prop) (h0:Jv 0 s)
    (hst:∀ k s1 s2,Jv k s1→s.n≤s1.n→s1.n≤s2.n→(∀ i,i<s.n→s2.get i=s1.get i)→Jv k s2)
    (hsx:∀ j s1 s2,Jx j s1→s2.n=s1.n→(∀ i,i≠s.n→s2.get i=s1.get i)→Jx j s2)
    (hbd:∀ k x s1 (b1 b2:Blk),R[k]? = some x→Jv k s1→s.n+1≤s1.n→s1.get s.n=some b1→∀ nt',Cd Tryd.prog GL true nt' ac (Tr.set e p (.agg (ecell x))) s1 (Thn (fun e1 s2=>s2.get s.n=some b1 ∧
      Cd Tryd.prog GL true nt' bc e1 (s2.put s.n b2) (fun o _ s3=>s3.get s.n=some b2∧s1.n≤s3.n∧(∀ i,s.n+1≤i→i<s1.n→s3.get i=s1.get i)∧(match o with | .normal=>Jv (k+1) s3 | .jmp j=>Jx j s3))) (fun _ _ _=>False)))
    (hend:∀ s1,Jv R.length s1→s.n+1≤s1.n→Q .normal e s1) (hjmp:∀ j s1,Jx j s1→s.n+1≤s1.n→Q (.jmp j) e s1):Cd Tryd.prog GL false nt (.rangeFunc y [p] ac bc) e s Q:=by
  subst hR
  refine qc_range hy ?_
  let rec0:Blk:=.loop .ready none e [p] ac bc
  have hput:∀ (s1:St) (b:Blk),s.n+1≤s1.n→∀ i,i<s.n→(s1.put s.n b).get i=s1.get i:=fun s1 b _ i hi=>by rw [St.get_put,if_neg (by omega)]
  refine CallOk.mono (siter_ok hB hok hf hfr (s:=s.new (.loop .ready none e [p] ac bc)) (y:=.yld s.n)
    (I:=fun k s1=>s1.get s.n=some (.loop .ready none e [p] ac bc)∧s.n+1≤s1.n∧Jv k s1) (J:=fun s1=>∃ j,s1.get s.n=some (.loop .done (some j) e [p] ac bc)∧s.n+1≤s1.n∧Jx j s1) ?_ ?_ ?_) ?_
  · refine ⟨by simp,by simp,hst 0 s _ h0 (Nat.le_refl _) (by simp) fun i hi=>?_⟩
    rw [St.get_new,if_neg (by omega)]
  · rintro k s1 s2 ⟨h1,h2,h3⟩ h4 h5 h6
    rw [St.n_new] at h6
    exact ⟨by rw [h6 s.n (by omega)];exact h1,by omega,hst k s1 s2 h3 (by omega) h5 fun i hi=>h6 i (by omega)⟩
  · rintro k x s1 hx ⟨h1,h2,h3⟩ h4
    rw [St.n_new] at h4
    refine qc_yield h1 rfl fun nt'=>qc_mono _ (hbd k x s1 _ (.loop .busy none e [p] ac bc) hx h3 h2 h1 nt') fun o e1 s2 hh=>?_
    cases o with
    | jmp j=>exact hh.elim
    | normal=>
      refine ⟨hh.1,qc_mono _ hh.2 fun o e3 s3 h5=>?_⟩
      obtain ⟨g1,g2,g3,g4⟩:=h5
      cases o with
      | normal=>
        refine ⟨_,_,_,_,_,_,g1,by rw [St.n_put];exact g2,fun i hi hi2=>?_, .inl ⟨rfl,by rw [St.get_put,if_pos rfl],by rw [St.n_put];omega,?_⟩⟩
        · rw [St.n_new] at hi
          rw [St.get_put,if_neg (by omega)]
          exact g3 i hi hi2
        · exact hst _ s3 _ g4 (by omega) (by rw [St.n_put];omega) (hput s3 _ (by omega))
      | jmp j=>
        refine ⟨_,_,_,_,_,_,g1,by rw [St.n_put];exact g2,fun i hi hi2=>?_, .inr ⟨rfl,j,by rw [St.get_put,if_pos rfl],by rw [St.n_put];omega,?_⟩⟩
        · rw [St.n_new] at hi
          rw [St.get_put,if_neg (by omega)]
          exact g3 i hi hi2
        · exact hsx _ s3 _ g4 rfl fun i hi=>by rw [St.get_put,if_neg hi]
  · rintro v s1 (⟨h1,h2,h3⟩ | ⟨j,h1,h2,h3⟩)
    · refine ⟨_,_,_,_,_,_,h1,by simp,?_⟩
      exact hend _ (hst _ s1 _ h3 (by omega) (by rw [St.n_put];omega) (hput s1 _ h2)) (by rw [St.n_put];omega)
    · refine ⟨_,_,_,_,_,_,h1,by simp,?_⟩
      exact hjmp _ _ (hsx _ s1 _ h3 rfl fun i hi=>by rw [St.get_put,if_neg hi]) (by rw [St.n_put];omega)
end Go.Proofs.YtmblpcidfjemhaaDoor
end
