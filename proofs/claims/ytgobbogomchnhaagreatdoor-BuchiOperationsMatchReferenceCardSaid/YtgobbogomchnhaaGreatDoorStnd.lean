/- The states with which both begin are different. Plain. -/
import Derived.Test.YtgobbogomchnhaaGreatDoorPboth
set_option linter.unusedSimpArgs false
set_option linter.unusedVariables false
namespace Go.Proofs.YtgobbogomchnhaaGreatDoor
open Go Go.Pv
open Classical
theorem addsN_nodup2 {ps l:List Nat} : (ps++l).Nodup→addsN ps l=ps++l:=by
 induction l generalizing ps with
 | nil=>intro _;simp [addsN]
 | cons p l ih=>
  intro h
  have hp:p ∉ ps:=fun hp=>by
   rw [List.nodup_append] at h
   exact h.2.2 p hp p (by simp) rfl
  have h1:addN ps p=ps++[p]:=by unfold addN;rw [if_neg hp]
  show addsN (addN ps p) l=_
  rw [h1,ih (by simpa using h)]
  simp
theorem sok_lt2 {n:Nat} {st:List Int} (h:SOK n st):∀ i j,i<j→j<st.length→st.getD i 0<st.getD j 0:=by
 intro i j hij
 induction j with
 | zero=>omega
 | succ j ih=>
  intro hj
  have h1:=(h (j+1) hj).2.2 (by omega)
  rw [Nat.add_sub_cancel] at h1
  by_cases he:i=j
  ·rw [he];exact h1
  ·have:=ih (by omega) (by omega)
   omega
theorem pc_nat2 {m x y t:Nat} (hy:y<m) (ht:t<2):pcode m x y t / 2 / m=x∧pcode m x y t / 2 % m=y∧pcode m x y t % 2=t:=by
 obtain ⟨h1,h2,h3⟩:=pcode_parts (x:=x) hy ht
 unfold px at h1
 unfold py at h2
 unfold pt at h3
 omega
theorem start_lt2 {B:Bu} (ok:Vb B):B.start.Pairwise (fun a b=>a<b∧0≤a∧0≤b):=by
 rw [List.pairwise_iff_getElem]
 intro i j hi hj hij
 have h1:=sok_lt2 ok.2.2.2.1 i j hij hj
 have p1:=(ok.2.2.2.1 i hi).1
 have p2:=(ok.2.2.2.1 j hj).1
 have ei:B.start.getD i 0=B.start[i]:=by simp [List.getD_eq_getElem?_getD,hi]
 have ej:B.start.getD j 0=B.start[j]:=by simp [List.getD_eq_getElem?_getD,hj]
 rw [ei] at p1 h1
 rw [ej] at p2 h1
 exact ⟨h1,p1,p2⟩
theorem st_lt2 {B:Bu} (ok:Vb B) {y:Int} (hy:y∈B.start):y.toNat<B.next.length:=by
 obtain ⟨k,hk⟩:=List.mem_iff_getElem?.1 hy
 have h0:=ok.2.2.2.1 k (List.getElem?_eq_some_iff.1 hk).1
 rw [List.getD_eq_getElem?_getD,hk] at h0
 have h1:0≤y:=h0.1
 have h2:y<(B.next.length:Int):=h0.2.1
 omega
theorem stP_nd2 {A B:Bu} (okA:Vb A) (okB:Vb B):(stP A B).Nodup:=by
 rw [List.nodup_iff_pairwise_ne,stP,List.pairwise_flatMap]
 have hrB:∀ y∈B.start,y.toNat<B.next.length:=fun y hy=>st_lt2 okB hy
 constructor
 ·intro x hx
  rw [List.pairwise_map]
  refine (start_lt2 okB).imp_of_mem fun {a b} ha hb h he=>?_
  have e1:=pc_nat2 (m:=B.next.length) (x:=x.toNat) (t:=0) (hrB a ha) (by decide)
  have e2:=pc_nat2 (m:=B.next.length) (x:=x.toNat) (t:=0) (hrB b hb) (by decide)
  rw [he] at e1
  have:=e1.2.1.symm.trans e2.2.1
  omega
 ·refine (start_lt2 okA).imp fun {a b} h p hp q hq he=>?_
  obtain ⟨y,hy,rfl⟩:=List.mem_map.1 hp
  obtain ⟨z,hz,rfl⟩:=List.mem_map.1 hq
  have e1:=pc_nat2 (m:=B.next.length) (x:=a.toNat) (t:=0) (hrB y hy) (by decide)
  have e2:=pc_nat2 (m:=B.next.length) (x:=b.toNat) (t:=0) (hrB z hz) (by decide)
  rw [he] at e1
  have:=e1.1.symm.trans e2.1
  omega
theorem stP_R {A B:Bu} (okA:Vb A) (okB:Vb B):(stP A B).length≤(grB A B).R.length:=by
 have h0:(grB A B).s0=stP A B:=by
  show addsN [] (stP A B)=stP A B
  have:=addsN_nodup2 (ps:=[]) (l:=stP A B) (by simpa using stP_nd2 okA okB)
  simpa using this
 obtain ⟨tl,htl⟩:=runN_pre (grB A B).suc ((grB A B).N+1) 0 (grB A B).s0
 show (stP A B).length≤(runN (grB A B).suc ((grB A B).N+1) 0 (grB A B).s0).length
 rw [htl,h0,List.length_append]
 omega
end Go.Proofs.YtgobbogomchnhaaGreatDoor
