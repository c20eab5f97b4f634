/- What is found is accepted, and if something is accepted, something is found: plain. -/
import Derived.Test.YtohldpfjnllkdaaDoorSfind
import Derived.Test.YtohldpfjnllkdaaDoorNewtrack
set_option linter.unusedSimpArgs false
set_option linter.unusedVariables false
namespace Go.Proofs.YtohldpfjnllkdaaDoor
open Go Go.Pv Go.Aut Go.Tarjan
open Classical
theorem zints_len (l:List Nat):(zints l).length=l.length:=by simp [zints]
theorem zints_getD (l:List Nat) (i:Nat):(zints l).getD i 0=((l.getD i 0:Nat):Int):=by
  simp only [zints,List.getD_eq_getElem?_getD,List.getElem?_map]
  cases l[i]?<;>rfl
theorem lett_lw (S L:List Nat) (i:Nat):(lett (zints S) (zints L) i).toNat=Fnd.lw S L i:=by
  unfold lett Fnd.lw
  rw [zints_len,zints_len,zints_getD,zints_getD]
  split<;>simp
theorem hit_mv {B:Bu} {q a c:Nat} {m:Int × Bool} (h:(rowAt B q a)[c]? = some m):(m.1.toNat,m.2)∈bmv B q a:=by
  simp only [bmv]
  exact List.mem_map_of_mem (List.mem_of_getElem? h)
theorem lw_rch {B:Bu} (hok:Vb B) {q p:Nat} {l:List Nat} (h:Fnd.LW (bmv B) q l p):Rch (nxB B) q p:=by
  induction h with
  | nil=>exact .refl _
  | @cons q r p a g l e _ ih=>
    refine .head ?_ ih
    exact List.mem_map.2 ⟨(r,(q:Int),a),Fnd.mem_sucs.2 ⟨blet hok _ _ _ e,rfl,g,e⟩,rfl⟩
theorem find_complete {B:Bu} (hok:Vb B) {S L:List Nat} {ok:Bool} (h:FindR B S L ok) {w:Nat→Nat} (hA:BAcc B w):ok=true:=by
  rcases h with ⟨h,_⟩ | ⟨_,_,_,hno⟩
  · exact h
  · exfalso
    obtain ⟨q,l,x,a,y,l',h1,h2,h3,h4⟩:=Fnd.acc_loop (n:=B.next.length) (fun q hq=>by have:=(start_nat hok hq).2;simpa using this) (fun q a hq=>bmv_lt hok q a hq) hA
    obtain ⟨hRok,hRcl,hRfr⟩:=sall_ok hok (stN_lt hok)
    have hqs:q∈stN B:=List.mem_map.2 ⟨(q:Int),h1,by simp⟩
    have hx:=Fnd.reach_all (n:=0) (from_:=[]) (blet hok) hRcl h2 (hRfr q hqs)
    obtain ⟨e,he,hex⟩:=List.mem_map.1 hx
    obtain ⟨k,hk⟩:=List.mem_iff_getElem?.1 he
    have h3':=h3
    simp only [bmv] at h3
    obtain ⟨m,hm,hme⟩:=List.mem_map.1 h3
    obtain ⟨c,hc⟩:=List.mem_iff_getElem?.1 hm
    have h5:m.1.toNat=y∧m.2=true:=by simpa using hme
    refine hno k a c e m (.inl (List.getElem?_eq_some_iff.1 hk).1) hk (by rw [hex];exact hc) ⟨h5.2,?_,?_⟩
    · rw [h5.1,hex];exact lw_rch hok h4
    · rw [h5.1,hex];exact lw_rch hok (.cons h3' (.nil _))
end Go.Proofs.YtohldpfjnllkdaaDoor
