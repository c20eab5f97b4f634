/- The law of numbers, plain. -/
import Derived.Test.YtkbiecjdcjfhaaaPbd
set_option linter.unusedSimpArgs false
set_option linter.unusedVariables false
namespace Go.Proofs.Ytkbiecjdcjfhaaa
open Go Go.Pv Go.Tre
open Classical
theorem mokL {n:Nat} {ms:Moves} (h:MOK n ms):ms.length≤2*n:=by
  have key:∀ k,k<ms.length→(k:Int)≤2*(ms.getD k (0,false)).1+(if (ms.getD k (0,false)).2=true then 1 else 0):=by
    intro k
    induction k with
    | zero=>
      intro hk
      have:=(h 0 hk).1
      split<;>omega
    | succ k ih=>
      intro hk
      have h1:=ih (by omega)
      have h2:=(h (k+1) hk).2.2 (by omega)
      rw [Nat.add_sub_cancel] at h2
      rcases h2 with h2 | ⟨h2,h3,h4⟩
      · revert h1;split<;>split<;>omega
      · rw [h3,if_neg (by decide)] at h1
        rw [h4,if_pos rfl]
        omega
  by_cases h0:ms.length=0
  · omega
  · have h1:=key (ms.length - 1) (by omega)
    have h2:=(h (ms.length - 1) (by omega)).2.1
    revert h1
    split<;>omega
theorem mvs_len {B:Bu} (hv:Vb B) (q a:Nat):(mvs B q a).length≤1000000:=by
  unfold mvs
  by_cases hq:q<B.next.length
  · have h1:=hv.2.2.2.2 q hq
    by_cases ha:a<(B.next.getD q []).length
    · have h2:=mokL (h1.2 a ha)
      have:=hv.2.2.1
      omega
    · rw [List.getD_eq_getElem?_getD,List.getElem?_eq_none (by omega)];simp
  · have:B.next.getD q []=[]:=by rw [List.getD_eq_getElem?_getD,List.getElem?_eq_none (by omega)];rfl
    rw [this];simp
noncomputable def seenN (B:Bu) (i x:Nat):Nat:=(xsA B (sqB B (i+1)).1 ((sqB B i).1.getD ((sqB B i).2.getD i default).1 []) ((sqB B i).2.getD i default).2 (sqB B i).2 x).length
noncomputable def nxC (B:Bu) (i x:Nat):Nat:=nxA B (sqB B (i+1)).1 ((sqB B i).1.getD ((sqB B i).2.getD i default).1 []) ((sqB B i).2.getD i default).2 (sqB B i).2 x
noncomputable def prC (B:Bu) (i x:Nat):Nat:=prA B ((sqB B i).1.getD ((sqB B i).2.getD i default).1 []) ((sqB B i).2.getD i default).2 x
theorem nxB_eq (B:Bu) (i:Nat):nxB B i=(List.range B.L.toNat).map fun a=>(nxC B i a:Int):=rfl
theorem prB_eq (B:Bu) (i:Nat):prB B i=(List.range B.L.toNat).map fun a=>(prC B i a:Int):=rfl
theorem map_at {f:Nat→Nat} {n x:Nat} (h:x<n):((List.range n).map fun a=>(f a:Int))[x]? = some (f x:Int):=by
  rw [List.getElem?_map,List.getElem?_range h];rfl
theorem seen_start (B:Bu):seenN B 0 0=1:=rfl
theorem seen_next (B:Bu) (i:Nat):seenN B i B.L.toNat=(sqB B (i+1)).2.length:=rfl
theorem seen_zero (B:Bu) (i:Nat):seenN B i 0=(sqB B i).2.length:=rfl
theorem seen_le {B:Bu} {i x:Nat} (h:x≤B.L.toNat):seenN B i x≤(sqB B (i+1)).2.length:=by
  rw [← seen_next]
  exact xsA_mono B _ _ _ _ h
theorem nx_le (B:Bu) (i x:Nat):nxC B i x≤seenN B i x:=idxK_le _ _ _
theorem seen_step (B:Bu) (i x:Nat):seenN B i (x+1)=if nxC B i x=seenN B i x then seenN B i x+1 else seenN B i x:=by
  have h:=nx_le B i x
  unfold seenN nxC at *
  unfold nxA at *
  generalize hxs:xsA B (sqB B (i+1)).1 ((sqB B i).1.getD ((sqB B i).2.getD i default).1 []) ((sqB B i).2.getD i default).2 (sqB B i).2 x=xs at *
  show (addK keyX (xsA B (sqB B (i+1)).1 ((sqB B i).1.getD ((sqB B i).2.getD i default).1 []) ((sqB B i).2.getD i default).2 (sqB B i).2 x) _).length=_
  rw [hxs]
  unfold addK
  split<;>split
  · omega
  · rfl
  · simp
  · omega
theorem sq_rec (B:Bu):∀ n,(∀ j,j<n→j<(sqB B j).2.length)→∀ x∈(sqB B n).2,x.2.length=2*B.next.length:=by
  intro n
  induction n with
  | zero=>
    intro _ x hx
    rw [List.mem_singleton.1 hx]
    exact recS_len _
  | succ n ih=>
    intro hj
    have h1:=ih fun j hj'=>hj j (by omega)
    have hm:(sqB B n).2.getD n default∈(sqB B n).2:=Go.Pv.getD_mem (hj n (by omega))
    have hl:=h1 _ hm
    have key:∀ k,∀ x∈xsA B (sqB B (n+1)).1 ((sqB B n).1.getD ((sqB B n).2.getD n default).1 []) ((sqB B n).2.getD n default).2 (sqB B n).2 k,x.2.length=2*B.next.length:=by
      intro k
      induction k with
      | zero=>exact h1
      | succ k ihk=>
        intro x hx
        rcases addK_mem hx with hx | rfl
        · exact ihk x hx
        · show (recN _ _).length=_
          rw [(recN_perm _ _).length_eq];exact hl
    exact key B.L.toNat
theorem pr_rng {B:Bu} {n i:Nat} (h:∀ j,j<n→j<(sqB B j).2.length) (hi:i<n) (x:Nat):1≤prC B i x∧prC B i x≤4*B.next.length+1:=by
  have h1:=sq_rec B i (fun j hj=>h j (by omega)) _ (Go.Pv.getD_mem (d:=default) (h i hi))
  unfold prC prA
  have:=recPr_rng (marks (stG B ((sqB B i).1.getD ((sqB B i).2.getD i default).1 []) x) (stB B ((sqB B i).1.getD ((sqB B i).2.getD i default).1 []) x) ((sqB B i).2.getD i default).2.length) ((sqB B i).2.getD i default).2
  omega
end Go.Proofs.Ytkbiecjdcjfhaaa
