/- The word package: clone, turned. -/
import Derived.Test.YtkbiecjdcjfhaaaWob
set_option linter.unusedSimpArgs false
set_option linter.unusedVariables false
namespace Go.Proofs.Ytkbiecjdcjfhaaa
open Go Go.Pv
open Classical
theorem mk_ints {l:List Int} (hl:l.length≤64) (hr:∀ x∈l,inI64 x):IsInts (.simm (ints l) l.length) l:=by
  have:maxLen=9223372036854775807:=by decide
  exact ⟨.simm _ _,by omega,hr⟩
theorem fin_ints {e:Env} {t:Nat} {s:St} {j n:Nat} {l:List Int} (hv:e.at t = .sref j 0 n 1) (hn:n=l.length) (hs:s.get j=some (.cells .mut (ints l))) (hlm:IsInts (.simm (ints l) l.length) l) :
    ∃ r s',frz frzDepth (e.at t) s=some (r,s')∧r.closed=true∧IsInts r l:=by
  subst hn
  rw [hv]
  exact ⟨_,_,frz_sref hs (by simp) (ints_closed l),hlm.closed,hlm⟩
set_option maxHeartbeats 4000000 in
theorem cloneEx {v:LV} {l:List Int} (hv:IsInts v l) (hl:l.length≤64):PE 30 [v] (fun r=>IsInts r l):=by
  refine q_fnEx (t:=2) hm Try.func30 (by decide +kernel) c30 (Nat.le_of_ble_eq_true rfl) (by simp [LV.closed.closedAll,hv.closed]) rfl ?_
  have hsl:=hv.sl
  have hr:=hv.rng
  have hlm:=mk_ints hl hr
  clear hv
  have hv':v = .nils∧l=[]∨eqLV .slc v .nils=some false∧lenLV v=some l.length∧∀ s,rowOf s 1 l.length v=some (ints l):=by
    generalize hc:ints l=cs at hsl
    generalize hn:l.length=n at hsl
    cases hsl with
    | nil=>exact .inl ⟨rfl,by simpa [ints] using hc⟩
    | zs=>exact .inr ⟨rfl,rfl,fun _=>rfl⟩
    | simm=>exact .inr ⟨rfl,rfl,fun _=>rowOf_simm (by rw [← hc];simpa using hn)⟩
  have h0:(envOf [v]).at 0=v:=by rw [envOf_at];rfl
  generalize envOf [v]=e at *
  unfold l30
  dsimp only [jA,qm]
  rcases hv' with ⟨rfl,rfl⟩ | ⟨hne,hlen,hrow⟩
  · repeat' (first | refine gA trivial ?_ | (refine gB trivial ?_;intro bb hbb;cases bb<;>(try simp only [hbs,if_false,reduceCtorEq] at hbb)) | fail)
    refine ⟨.inr trivial, .nils,St.empty,?_,rfl, .nil,by simp,hr⟩
    simp only [lk,sv1,sv2,sv3,Nat.reduceEqDiff,Nat.reduceAdd,Nat.reduceLeDiff,reduceIte,if_false,if_true,mkVal,unLV,List.map,optTmps]
    exact frzD_closed rfl
  · repeat' (first | refine gA trivial ?_ | (refine gB trivial ?_;intro bb hbb;cases bb<;>(try simp only [hbs,if_false,reduceCtorEq] at hbb)) | fail)
    refine q_append wN (xv:=.sref 0 0 0 1) (yv:=v) ef ef hlen (hrow _) (frzTry_all (ints_closed l))
      (appendLV_mutN (cs:=[]) (by rw [St.get_new,n_empty,if_pos rfl]) rfl (by simp) (by decide) (by omega)) ?_
    repeat' (first | refine gA trivial ?_ | (refine gB trivial ?_;intro bb hbb;cases bb<;>(try simp only [hbs,if_false,reduceCtorEq] at hbb)) | fail)
    exact ⟨.inr trivial,fin_ints (by simp only [lk,sv1,sv2,sv3,Nat.reduceEqDiff,Nat.reduceAdd,Nat.reduceLeDiff,reduceIte,if_false,if_true,mkVal,unLV,List.map,optTmps];rfl) (Nat.zero_add _) (by simp only [St.get_new,St.n_put,if_true];rfl) hlm⟩
end Go.Proofs.Ytkbiecjdcjfhaaa
