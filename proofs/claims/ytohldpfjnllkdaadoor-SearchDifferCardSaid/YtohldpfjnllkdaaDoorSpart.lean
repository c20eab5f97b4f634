/- search.parts: states that can reach each other, and no others, have the same number. -/
import Derived.Test.YtohldpfjnllkdaaDoorSvis
set_option linter.unusedSimpArgs false
set_option linter.unusedVariables false
namespace Go.Proofs.YtohldpfjnllkdaaDoor
open Go Go.Pv Go.Aut Go.Tarjan
open Classical
set_option maxHeartbeats 8000000 in
theorem sparts_ok {v0:LV} {B:Bu} {sv nv:LV} (hB:IsB v0 B sv nv) (hok:Vb B) :
    PE 27 [v0] (fun r=>∃ p:Nat→Nat,r = .simm (fcells B.next.length p) B.next.length∧∀ u v,u<B.next.length→v<B.next.length→(p u=p v↔Rch (nxB B) u v∧Rch (nxB B) v u)):=by
  have hvc:=hB.closed
  have hvo:=fun vis (hvis)=>visit_ok (vis:=vis) hB hok hvis
  obtain ⟨rfl,hst',vs,hn⟩:=hB
  have hc1:=hst'.sl.cell
  have hc2:=hn.sl.cell
  have hnl:=hn.sl.len
  have hn3:=hok.2.2.1
  obtain ⟨n,hnn⟩:∃ n,B.next.length=n:=⟨_,rfl⟩
  rw [hnn] at hnl hn3 hvo ⊢
  refine q_fnEx (t:=2) hm Tryd.func27 (by decide +kernel) c27 (Nat.le_of_ble_eq_true rfl) (by simp [LV.closed.closedAll,hvc]) rfl ?_
  have e0:(envOf [LV.agg [.int .i64 B.L,sv,nv]]).at 0 = .agg [.int .i64 B.L,sv,nv]:=by rw [envOf_at];rfl
  generalize envOf [LV.agg [.int .i64 B.L,sv,nv]]=e at *
  unfold l27
  dsimp only [jA,jG,qF,qS,qI,qA,qB,qC,qO,qm,ql]
  have hb:n≤1048576:=by omega
  repeat' (first | refine gA @hnl ?_ | (refine gB @hnl ?_;intro bb hbb;cases bb<;>(try simp only [hbs,if_false,reduceCtorEq] at hbb)) | fail)
  generalize hvis:LV.fn (.func 49) [] [.pref 7 0, .pref 3 0, .pref 5 0, .pref 6 0, .pimm [.int .i64 B.L,sv,nv] 0, .pref 8 0, .pref 1 0]=vis at *
  have hvo:=hvo vis rfl
  refine qc_loop (fun m e s=>∃ (r:Nat) (T:S) (ent:List Nat) (kv:LV),m=n - r∧r≤n∧T.path=[]∧(∀ v,v<r→T.idx v≠0)∧Inv n (nxB B) T∧En n T ent∧VS n vis T s kv∧e.at 3 = .pref 1 0∧e.at 4 = .pref 3 0∧e.at 8 = .pref 8 0∧e.at 25 = .int .i64 (n:Int)∧e.at 26 = .int .i64 (r:Int)) _
    ⟨0,S.init,[], .nils,rfl,by omega,rfl,fun v hv=>absurd hv (Nat.not_lt_zero _),inv_init n (nxB B),⟨by simp,rfl,by simp [S.init],by simp⟩,⟨by simp [n_empty],by simp [n_empty,S.init],by simp [n_empty,S.init],by simp [n_empty,S.init],by simp [n_empty,S.init],by simp [n_empty,S.init],by simp [n_empty,S.init],by simp [n_empty,S.init],by simp [n_empty,S.init],by simp [n_empty,hvis], .inl ⟨rfl,rfl⟩,fun id h=>absurd h (uses_nils id)⟩,ef,ef,ef,ef,by simp only [lk,sv1,sv2,sv3,Nat.reduceEqDiff,Nat.reduceAdd,Nat.reduceLeDiff,reduceIte,if_false,if_true,mkVal,unLV,List.map,optTmps];rfl⟩ ?_
  clear e0
  rintro m e s ⟨r,T,ent,kv,rfl,hrn,hp,hall,hI,hE,hS,e3,e4,e8,e25,e26⟩
  have k1:=hS.g1
  have k2:=hS.g2
  have k3:=hS.g3
  have k8:=hS.g8
  by_cases hr:r<n
  · have hrI:(r:Int)<(n:Int):=by omega
    have hwr:IntKind.i64.wrap ((r:Int)+1)=((r+1:Nat):Int):=by rw [wrap_i64 _ (by omega) (by omega)];rfl
    have gi:(fcells n T.idx)[r]? = some (.int .i64 (T.idx r:Int)):=fcells_get hr
    repeat' (first | refine gA (And.intro @iaS @gi) ?_ | (refine gB (And.intro @iaS @gi) ?_;intro bb hbb;cases bb<;>(try simp only [hbs,if_false,reduceCtorEq] at hbb)) | fail)
    · exfalso;omega
    · refine ⟨n - (r+1),by omega,r+1,T,ent,kv,rfl,by omega,hp,fun v hv=>?_,hI,hE,hS,?_⟩
      · by_cases h:v<r
        · exact hall v h
        · obtain rfl:v=r:=by omega
          omega
      · simp only [lk,sv1,sv2,sv3,Nat.reduceEqDiff,Nat.reduceAdd,Nat.reduceLeDiff,reduceIte,if_false,if_true,mkVal,unLV,List.map,optTmps,hwr,e3,e4,e8,e25,and_self]
    · have hr0:T.idx r=0:=by omega
      refine q_call wN (fv:=vis) (vs:=[.int .i64 (r:Int)]) ef (by simp only [List.map,lk,sv1,sv2,sv3,Nat.reduceEqDiff,Nat.reduceAdd,Nat.reduceLeDiff,reduceIte,if_false,if_true,mkVal,unLV,List.map,optTmps]) (CallOk.mono (hvo _ T ent s kv r rfl hI hE hS hr hr0 (.inl hp)) fun v s2 hh=>⟨trivial,?_⟩)
      obtain ⟨T2,ent2,kv2,hI2,hE2,hS2,hr2,⟨p1,p2,p3,p4⟩,hF⟩:=hh
      simp only [Env.put_some]
      repeat' (first | refine gA trivial ?_ | (refine gB trivial ?_;intro bb hbb;cases bb<;>(try simp only [hbs,if_false,reduceCtorEq] at hbb)) | fail)
      refine ⟨n - (r+1),by omega,r+1,T2,ent2,kv2,rfl,by omega,p1.trans hp,fun v hv=>?_,hI2,hE2,hS2,?_⟩
      · by_cases h:v<r
        · exact p3 v (hall v h)
        · obtain rfl:v=r:=by omega
          exact hr2
      · simp only [lk,sv1,sv2,sv3,Nat.reduceEqDiff,Nat.reduceAdd,Nat.reduceLeDiff,reduceIte,if_false,if_true,mkVal,unLV,List.map,optTmps,hwr,e3,e4,e8,e25,and_self]
  · have hrn':r=n:=by omega
    have k0:=hS.g0
    have hfin:=hI.final hp fun v hv=>hall v (by omega)
    repeat' (first | refine gA trivial ?_ | (refine gB trivial ?_;intro bb hbb;cases bb<;>(try simp only [hbs,if_false,reduceCtorEq] at hbb)) | fail)
    rotate_left
    · exfalso;omega
    refine ⟨.inr trivial, .simm (fcells n T.part) n,s.put 0 (.cells .app (fcells n T.part)),?_,?_,T.part,rfl,fun u v hu hv=>(hfin u v (by omega) (by omega)).2⟩
    · simp only [lk,sv1,sv2,sv3,Nat.reduceEqDiff,Nat.reduceAdd,Nat.reduceLeDiff,reduceIte,if_false,if_true,mkVal,unLV,List.map,optTmps]
      exact frz_sref k0 (by simp) (by rw [fcells_ints];exact ints_closed _)
    · show LV.closed.closedAll (fcells n T.part)=true
      rw [fcells_ints];exact ints_closed _
end Go.Proofs.YtohldpfjnllkdaaDoor
