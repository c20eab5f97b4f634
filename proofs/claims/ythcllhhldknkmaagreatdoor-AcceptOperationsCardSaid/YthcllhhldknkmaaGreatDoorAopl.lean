/- What both, either and trim accept: plain. -/
import Derived.Test.YthcllhhldknkmaaGreatDoorPboth
import Derived.Test.YthcllhhldknkmaaGreatDoorBeither
import Derived.Test.YthcllhhldknkmaaGreatDoorWd
set_option linter.unusedSimpArgs false
set_option linter.unusedVariables false
namespace Go.Proofs.YthcllhhldknkmaaGreatDoor
open Go Go.Pv Go.Aut
open Classical
def stN (B:Bu):List Nat:=B.start.map Int.toNat
theorem nd_inj {α:Type} {l:List α} (h:l.Nodup) {i j:Nat} (hi:i<l.length) (hj:j<l.length) (e:l[i]=l[j]):i=j:=by
 rw [List.nodup_iff_pairwise_ne,List.pairwise_iff_getElem] at h
 rcases Nat.lt_trichotomy i j with h1 | h1 | h1
 ·exact absurd e (h i j hi hj h1)
 ·exact h1
 ·exact absurd e.symm (h j i hj hi h1)
theorem getD_lt' {α:Type} {l:List α} {k:Nat} {d:α} (h:k<l.length):l.getD k d=l[k]:=by simp [List.getD_eq_getElem?_getD,h]
theorem trim_row {B C:Bu} (hok:Vb B) (hT:TrimR B C) {p a:Nat} (hp:p∈trimR B) (ha:(a:Int)<B.L):((C.next.getD (numN (trimR B) p) []).getD a []).Perm (renM (trimR B) (rowM B p a)):=by
 have h1:=(hT.row _ (numN_lt hp)).2 a ha
 have h2:(trimR B).getD (numN (trimR B) p) 0=p:=by rw [List.getD_eq_getElem?_getD,numN_get hp];rfl
 rw [h2] at h1
 exact h1.1
theorem stN_in {B C:Bu} (hok:Vb B) (hT:TrimR B C):∀ p∈stN B,p∈trimR B:=fun p hp=>by
 have:=stT_pre B B.start.length
 rw [List.take_length] at this
 exact this.mem (addsN_mem hp)
theorem addsN_nodup {B:Bu} (hok:Vb B) {ps l:List Nat} : (ps++l).Nodup→addsN ps l=ps++l:=by
 clear hok
 induction l generalizing ps with
 | nil=>intro _;simp [addsN]
 | cons p l ih=>
  intro h
  have hp:p ∉ ps:=fun hp=>by
   rw [List.nodup_append] at h
   exact h.2.2 p hp p (by simp) rfl
  have h1:addN ps p=ps++[p]:=by unfold addN;rw [if_neg hp]
  show addsN (addN ps p) l=_
  rw [h1,ih (by simpa using h)]
  simp
theorem sok_lt {n:Nat} {st:List Int} (h:SOK n st):∀ i j,i<j→j<st.length→st.getD i 0<st.getD j 0:=by
 intro i j hij
 induction j with
 | zero=>omega
 | succ j ih=>
  intro hj
  have h1:=(h (j+1) hj).2.2 (by omega)
  rw [Nat.add_sub_cancel] at h1
  by_cases he:i=j
  ·rw [he];exact h1
  ·have:=ih (by omega) (by omega)
   omega
theorem stN_nd {B:Bu} (hok:Vb B):(stN B).Nodup:=by
 rw [List.nodup_iff_pairwise_ne,stN,List.pairwise_map,List.pairwise_iff_getElem]
 intro i j hi hj hij he
 have h1:=sok_lt hok.2.2.2.1 i j hij hj
 have p1:=(hok.2.2.2.1 i hi).1
 have ei:B.start.getD i 0=B.start[i]:=by simp [List.getD_eq_getElem?_getD,hi]
 have ej:B.start.getD j 0=B.start[j]:=by simp [List.getD_eq_getElem?_getD,hj]
 rw [ei] at p1
 rw [ei,ej] at h1
 omega
theorem num_start {B:Bu} (hok:Vb B) {k:Nat} (hk:k<B.start.length):numN (trimR B) (B.start.getD k 0).toNat=k:=by
 have hpre:=stT_pre B B.start.length
 rw [List.take_length] at hpre
 have hnd:=stN_nd hok
 have h1:addsN [] (B.start.map Int.toNat)=stN B:=by
  rw [addsN_nodup hok (B:=B) (by simpa [stN] using hnd)];rfl
 rw [h1] at hpre
 have hg:(stN B)[k]? = some (B.start.getD k 0).toNat:=by
  simp [stN,List.getD_eq_getElem?_getD,hk]
 have hm:=List.mem_of_getElem? hg
 rw [numN_pre hpre hm]
 have h2:=numN_get hm
 obtain ⟨a1,a2⟩:=List.getElem?_eq_some_iff.1 hg
 obtain ⟨b1,b2⟩:=List.getElem?_eq_some_iff.1 h2
 exact nd_inj hnd b1 a1 (b2.trans a2.symm)
theorem mlt_tri {x y:Int × Bool} (h:x≠y) (hn:¬ mlt y x):mlt x y:=by
 obtain ⟨x1,x2⟩:=x
 obtain ⟨y1,y2⟩:=y
 unfold mlt at *
 simp only at *
 by_cases h1:x1<y1
 ·exact .inl h1
 ·by_cases h2:y1<x1
  ·exact absurd (.inl h2) hn
  ·have h3:x1=y1:=by omega
   subst h3
   cases x2<;>cases y2<;>simp at *
theorem vb_trim {B C:Bu} (hok:Vb B) (hT:TrimR B C):Vb C:=by
 obtain ⟨hnd,hlt,hcl⟩:=trim_ok hok
 have hlen:=ai_len hok (Pre.refl (trimR B))
 have hn3:=hok.2.2.1
 refine ⟨by rw [hT.L];exact hok.1,by rw [hT.L];exact hok.2.1,by rw [hT.len];omega,fun k hk=>?_,fun i hi=>?_⟩
 ·rw [hT.st,List.length_map] at hk
  have e:∀ k,k<B.start.length→C.start.getD k 0=(k:Int):=fun k hk=>by
   have:C.start.getD k 0=(numN (trimR B) (B.start.getD k 0).toNat:Int):=by
    rw [hT.st];simp [List.getD_eq_getElem?_getD,hk]
   rw [this,num_start hok hk]
  have hin:(B.start.getD k 0).toNat∈trimR B:=stN_in hok hT _ (List.mem_map.2 ⟨B.start.getD k 0,by simp [List.getD_eq_getElem?_getD,hk],rfl⟩)
  have h1:=numN_lt hin
  rw [num_start hok hk] at h1
  rw [e k hk,hT.len]
  refine ⟨by omega,by omega,fun h0=>?_⟩
  rw [e (k - 1) (by omega)]
  omega
 ·rw [hT.len] at hi ⊢
  obtain ⟨p,hp⟩:∃ p,(trimR B)[i]? = some p:=⟨_,List.getElem?_eq_getElem hi⟩
  have hpm:=List.mem_of_getElem? hp
  have hgd:(trimR B).getD i 0=p:=by rw [List.getD_eq_getElem?_getD,hp];rfl
  obtain ⟨h1,h2⟩:=hT.row i hi
  rw [hT.L]
  refine ⟨h1,fun a ha=>?_⟩
  have haL:(a:Int)<B.L:=by omega
  obtain ⟨h3,h4⟩:=h2 a haL
  rw [hgd] at h3
  have hrow:=hok.2.2.2.2 p (hlt p hpm)
  have ha':a<(B.next.getD p []).length:=by have:=hrow.1;omega
  have hmo:MOK B.next.length (rowM B p a):=hrow.2 a ha'
  have hinR:∀ x∈rowM B p a,x.1.toNat∈trimR B:=fun x hx=>
   hcl p hpm _ (List.mem_flatMap.2 ⟨a,List.mem_range.2 (by omega),List.mem_map.2 ⟨x,hx,rfl⟩⟩)
  have hnd':=h3.symm.nodup (renM_nodup (B:=B) hmo hinR)
  intro k hk
  have hmem:=h3.mem_iff.1 (List.getElem_mem hk)
  obtain ⟨x,hx,hxe⟩:=List.mem_map.1 hmem
  have hgk:((C.next.getD i []).getD a []).getD k (0,false)=((C.next.getD i []).getD a [])[k]:=getD_lt' hk
  have hnl:=numN_lt (hinR x hx)
  refine ⟨?_,?_,fun h0=>?_⟩
  ·rw [hgk,← hxe];show (0:Int)≤((numN _ _:Nat):Int);omega
  ·rw [hgk,← hxe];show ((numN _ _:Nat):Int)<_;omega
  ·refine mlt_tri (fun he=>?_) (h4 (k - 1) k (by omega) hk)
   have hk1:k - 1<((C.next.getD i []).getD a []).length:=by omega
   have hgk1:((C.next.getD i []).getD a []).getD (k - 1) (0,false)=((C.next.getD i []).getD a [])[k - 1]:=getD_lt' hk1
   rw [hgk,hgk1] at he
   have:=nd_inj hnd' hk hk1 he.symm
   omega
theorem trim_mv {B C:Bu} (hok:Vb B) (hT:TrimR B C) {p a j:Nat} {g:Bool} (hp:p∈trimR B):(j,g)∈bmv C (numN (trimR B) p) a↔∃ q,q∈trimR B∧j=numN (trimR B) q∧(q,g)∈bmv B p a:=by
 obtain ⟨hnd,hlt,hcl⟩:=trim_ok hok
 by_cases ha:(a:Int)<B.L
 ·have hperm:=trim_row hok hT hp ha
  simp only [bmv,List.mem_map]
  constructor
  ·rintro ⟨m,hm,hme⟩
   have hm':=hperm.mem_iff.1 hm
   obtain ⟨x,hx,rfl⟩:=List.mem_map.1 hm'
   have e:numN (trimR B) x.1.toNat=j∧x.2=g:=by simpa using hme
   refine ⟨x.1.toNat,hcl p hp _ (List.mem_flatMap.2 ⟨a,List.mem_range.2 (by omega),List.mem_map.2 ⟨x,hx,rfl⟩⟩),e.1.symm,x,hx,by rw [e.2]⟩
  ·rintro ⟨q,hq,rfl,x,hx,hxe⟩
   have e:x.1.toNat=q∧x.2=g:=by simpa using hxe
   refine ⟨((numN (trimR B) x.1.toNat:Int),x.2),hperm.mem_iff.2 (List.mem_map.2 ⟨x,hx,rfl⟩),?_⟩
   rw [e.1,e.2]
   simp
 ·have h1:=(hT.row _ (numN_lt hp)).1
  have h2:=(hok.2.2.2.2 p (hlt p hp)).1
  have e1:(C.next.getD (numN (trimR B) p) []).getD a []=[]:=by rw [List.getD_eq_getElem?_getD,List.getElem?_eq_none (by omega)];rfl
  have e2:(B.next.getD p []).getD a []=[]:=by rw [List.getD_eq_getElem?_getD,List.getElem?_eq_none (by omega)];rfl
  simp only [bmv,e1,e2,List.map_nil,List.not_mem_nil,false_iff]
  rintro ⟨q,_,_,h⟩
  exact h
theorem R_num {l:List Nat} {p:Nat} (h:p∈l):l.getD (numN l p) 0=p:=by rw [List.getD_eq_getElem?_getD,numN_get h];rfl
theorem auto_row {g:Grf} {C:Bu} (hT:AutoR g C) {p a:Nat} (hp:p∈g.R) (ha:(a:Int)<g.L):(∀ x,x∈rowM C (numN g.R p) a↔x∈g.ren (g.mv p a)):=by
 have h1:=((hT.row _ (numN_lt hp)).2 a ha).1
 rw [R_num hp] at h1
 exact h1
theorem auto_start {g:Grf} {C:Bu} (hT:AutoR g C) {q:Nat} : (q:Int)∈C.start↔∃ p∈g.st,q=numN g.R p:=by
 rw [hT.st]
 constructor
 ·intro h
  obtain ⟨p,hp,he⟩:=List.mem_map.1 h
  exact ⟨p,hp,by omega⟩
 ·rintro ⟨p,hp,rfl⟩
  exact List.mem_map.2 ⟨p,hp,rfl⟩
theorem grB_mL {A B:Bu} (okA:Vb A):∀ p a m,m∈(grB A B).mv p a→(a:Int)<(grB A B).L:=by
 intro p a m hm
 obtain ⟨mx,hx,hm⟩:=List.mem_flatMap.1 hm
 show (a:Int)<A.L
 by_cases hp:p / 2 / B.next.length<A.next.length
 ·exact (mv_rng okA hp hx).2.2
 ·have:rowM A (p / 2 / B.next.length) a=[]:=by
   unfold rowM
   rw [List.getD_eq_getElem?_getD (l:=A.next),List.getElem?_eq_none (by omega)]
   simp
  rw [this] at hx
  cases hx
theorem pc_nat {m x y t:Nat} (hy:y<m) (ht:t<2):pcode m x y t / 2 / m=x∧pcode m x y t / 2 % m=y∧pcode m x y t % 2=t:=by
 obtain ⟨h1,h2,h3⟩:=pcode_parts (x:=x) hy ht
 unfold px at h1
 unfold py at h2
 unfold pt at h3
 omega
theorem start_lt {B:Bu} (ok:Vb B):B.start.Pairwise (fun a b=>a<b∧0≤a∧0≤b):=by
 rw [List.pairwise_iff_getElem]
 intro i j hi hj hij
 have h1:=sok_lt ok.2.2.2.1 i j hij hj
 have p1:=(ok.2.2.2.1 i hi).1
 have p2:=(ok.2.2.2.1 j hj).1
 have ei:B.start.getD i 0=B.start[i]:=by simp [List.getD_eq_getElem?_getD,hi]
 have ej:B.start.getD j 0=B.start[j]:=by simp [List.getD_eq_getElem?_getD,hj]
 rw [ei] at p1 h1
 rw [ej] at p2 h1
 exact ⟨h1,p1,p2⟩
theorem stP_nd {A B:Bu} (okA:Vb A) (okB:Vb B):(stP A B).Nodup:=by
 rw [List.nodup_iff_pairwise_ne,stP,List.pairwise_flatMap]
 have hrB:∀ y∈B.start,y.toNat<B.next.length:=fun y hy=>(start_nat okB hy).2
 constructor
 ·intro x hx
  rw [List.pairwise_map]
  refine (start_lt okB).imp_of_mem fun {a b} ha hb h he=>?_
  have e1:=pc_nat (m:=B.next.length) (x:=x.toNat) (t:=0) (hrB a ha) (by decide)
  have e2:=pc_nat (m:=B.next.length) (x:=x.toNat) (t:=0) (hrB b hb) (by decide)
  rw [he] at e1
  have:=e1.2.1.symm.trans e2.2.1
  omega
 ·refine (start_lt okA).imp fun {a b} h p hp q hq he=>?_
  obtain ⟨y,hy,rfl⟩:=List.mem_map.1 hp
  obtain ⟨z,hz,rfl⟩:=List.mem_map.1 hq
  have e1:=pc_nat (m:=B.next.length) (x:=a.toNat) (t:=0) (hrB y hy) (by decide)
  have e2:=pc_nat (m:=B.next.length) (x:=b.toNat) (t:=0) (hrB z hz) (by decide)
  rw [he] at e1
  have:=e1.1.symm.trans e2.1
  omega
theorem gr_num {g:Grf} (hnd:g.st.Nodup) {k p:Nat} (hk:g.st[k]? = some p):numN g.R p=k:=by
 have hpre:=s0_pre g g.st.length
 rw [List.take_length] at hpre
 have h1:∀ (l ps:List Nat),(ps++l).Nodup→addsN ps l=ps++l:=by
  intro l
  induction l with
  | nil=>intro ps _;simp [addsN]
  | cons p l ih=>
   intro ps h
   have hp:p ∉ ps:=fun hp=>by
    rw [List.nodup_append] at h
    exact h.2.2 p hp p (by simp) rfl
   have h1:addN ps p=ps++[p]:=by unfold addN;rw [if_neg hp]
   show addsN (addN ps p) l=_
   rw [h1,ih _ (by simpa using h)]
   simp
 rw [h1 g.st [] (by simpa using hnd),List.nil_append] at hpre
 have hm:=List.mem_of_getElem? hk
 rw [numN_pre hpre hm]
 have h2:=numN_get hm
 obtain ⟨a1,a2⟩:=List.getElem?_eq_some_iff.1 hk
 obtain ⟨b1,b2⟩:=List.getElem?_eq_some_iff.1 h2
 exact nd_inj hnd b1 a1 (b2.trans a2.symm)
theorem vb_auto {g:Grf} {C:Bu} {most:Int} (hok:GrfOk g most) (hnd:g.st.Nodup) (hT:AutoR g C):Vb C:=by
 obtain ⟨_,hlt,hcl⟩:=gr_ok hok
 have hlen:=gr_len hok (Pre.refl g.R)
 have hN:=hok.N3
 have hm3:=hok.m3
 refine ⟨by rw [hT.L];exact hok.L1,by rw [hT.L];exact hok.L2,by rw [hT.len];omega,fun k hk=>?_,fun i hi=>?_⟩
 ·rw [hT.st,List.length_map] at hk
  have e:∀ k,k<g.st.length→C.start.getD k 0=(k:Int)∧k<g.R.length:=fun k hk=>by
   have hg:g.st[k]? = some g.st[k]:=List.getElem?_eq_getElem hk
   have hn:=gr_num hnd hg
   have h1:=numN_lt (st_in _ (List.getElem_mem hk))
   rw [hn] at h1
   refine ⟨?_,h1⟩
   rw [hT.st]
   simp [List.getD_eq_getElem?_getD,hk,hn]
  rw [(e k hk).1,hT.len]
  have:=(e k hk).2
  refine ⟨by omega,by omega,fun h0=>?_⟩
  rw [(e (k - 1) (by omega)).1]
  omega
 ·rw [hT.len] at hi ⊢
  obtain ⟨p,hp⟩:∃ p,g.R[i]? = some p:=⟨_,List.getElem?_eq_getElem hi⟩
  have hpm:=List.mem_of_getElem? hp
  have hgd:g.R.getD i 0=p:=by rw [List.getD_eq_getElem?_getD,hp];rfl
  obtain ⟨h1,h2⟩:=hT.row i hi
  rw [hT.L]
  refine ⟨h1,fun a ha=>?_⟩
  have haL:(a:Int)<g.L:=by omega
  obtain ⟨h3,h4⟩:=h2 a haL
  rw [hgd] at h3
  intro k hk
  have hgk:((C.next.getD i []).getD a []).getD k (0,false)=((C.next.getD i []).getD a [])[k]:=getD_lt' hk
  obtain ⟨x,hx,hxe⟩:=List.mem_map.1 ((h3 _).1 (List.getElem_mem hk))
  have hxR:x.1∈g.R:=hcl p hpm _ (List.mem_flatMap.2 ⟨a,List.mem_range.2 (by omega),List.mem_map.2 ⟨x,hx,rfl⟩⟩)
  have hnl:=numN_lt hxR
  refine ⟨?_,?_,fun h0=>h4 (k - 1) k (by omega) hk⟩
  ·rw [hgk,← hxe];show (0:Int)≤((numN _ _:Nat):Int);omega
  ·rw [hgk,← hxe];show ((numN _ _:Nat):Int)<_;omega
theorem vb_both {A B C:Bu} (okA:Vb A) (okB:Vb B) (hL:A.L=B.L) {most:Int} (hN:((A.next.length*B.next.length*2:Nat):Int)≤most) (hm:most≤3000) (hT:AutoR (grB A B) C):Vb C:=
 vb_auto (grB_ok okA okB hL hN hm) (stP_nd okA okB) hT
theorem ei_row {A B:Bu} (q a:Nat):rowM (eiB A B) q a=if q<A.next.length then rowM A q a else shM A.next.length (rowM B (q - A.next.length) a):=by
 unfold rowM eiB
 simp only
 by_cases h:q<A.next.length
 ·rw [if_pos h,List.getD_eq_getElem?_getD (l:=A.next++_),List.getElem?_append_left h,← List.getD_eq_getElem?_getD]
 ·rw [if_neg h,List.getD_eq_getElem?_getD (l:=A.next++_),List.getElem?_append_right (by omega)]
  unfold shN
  rw [List.getElem?_map]
  cases hb:B.next[q - A.next.length]? with
  | none=>simp [List.getD_eq_getElem?_getD,hb,shM]
  | some row=>
   simp only [Option.map_some,Option.getD_some,List.getD_eq_getElem?_getD,hb,List.getElem?_map]
   cases row[a]?<;>simp [shM]
theorem vb_ei {A B:Bu} (okA:Vb A) (okB:Vb B) (hL:A.L=B.L) (hs:A.next.length+B.next.length≤3000):Vb (eiB A B):=by
 have hlen:(eiB A B).next.length=A.next.length+B.next.length:=by simp [eiB]
 refine ⟨okA.1,okA.2.1,by rw [hlen];exact hs,fun k hk=>?_,fun i hi=>?_⟩
 ·rw [hlen]
  have e1:∀ k,k<A.start.length→(eiB A B).start.getD k 0=A.start.getD k 0:=fun k hk=>by
   unfold eiB
   simp only
   rw [List.getD_eq_getElem?_getD,List.getElem?_append_left hk,← List.getD_eq_getElem?_getD]
  have e2:∀ k,k<B.start.length→(eiB A B).start.getD (A.start.length+k) 0=B.start.getD k 0+(A.next.length:Int):=fun k hk=>by
   unfold eiB
   simp only
   rw [List.getD_eq_getElem?_getD,List.getElem?_append_right (by omega),Nat.add_sub_cancel_left]
   simp [shS,List.getD_eq_getElem?_getD,hk]
  have hk':k<A.start.length+B.start.length:=by simpa [eiB] using hk
  by_cases h:k<A.start.length
  ·have h1:=okA.2.2.2.1 k h
   rw [e1 k h]
   refine ⟨h1.1,by omega,fun h0=>?_⟩
   rw [e1 (k - 1) (by omega)]
   exact h1.2.2 h0
  ·obtain ⟨j,rfl⟩:∃ j,k=A.start.length+j:=⟨k - A.start.length,by omega⟩
   have hj:j<B.start.length:=by omega
   have h1:=okB.2.2.2.1 j hj
   rw [e2 j hj]
   refine ⟨by omega,by omega,fun h0=>?_⟩
   by_cases hj0:j=0
   ·subst hj0
    have h2:=okA.2.2.2.1 (A.start.length - 1) (by omega)
    rw [show A.start.length+0 - 1=A.start.length - 1 by omega,e1 _ (by omega)]
    omega
   ·rw [show A.start.length+j - 1=A.start.length+(j - 1) by omega,e2 _ (by omega)]
    have:=h1.2.2 (by omega)
    omega
 ·have hi':i<A.next.length+B.next.length:=by rw [hlen] at hi;exact hi
  rw [hlen]
  have hLe:(eiB A B).L=A.L:=rfl
  rw [hLe]
  by_cases h:i<A.next.length
  ·have e:(eiB A B).next.getD i []=A.next.getD i []:=by
    unfold eiB
    simp only
    rw [List.getD_eq_getElem?_getD,List.getElem?_append_left h,← List.getD_eq_getElem?_getD]
   rw [e]
   obtain ⟨h1,h2⟩:=okA.2.2.2.2 i h
   refine ⟨h1,fun a ha k hk=>?_⟩
   have:=h2 a ha k hk
   exact ⟨this.1,by omega,this.2.2⟩
  ·have hb:i - A.next.length<B.next.length:=by omega
   have e:(eiB A B).next.getD i []=(B.next.getD (i - A.next.length) []).map (shM A.next.length):=by
    unfold eiB
    simp only
    rw [List.getD_eq_getElem?_getD,List.getElem?_append_right (by omega)]
    simp [shN,List.getD_eq_getElem?_getD,hb]
   rw [e]
   obtain ⟨h1,h2⟩:=okB.2.2.2.2 _ hb
   refine ⟨by rw [List.length_map,hL];exact h1,fun a ha k hk=>?_⟩
   have ha':a<(B.next.getD (i - A.next.length) []).length:=by simpa using ha
   have e3:((B.next.getD (i - A.next.length) []).map (shM A.next.length)).getD a []=shM A.next.length ((B.next.getD (i - A.next.length) []).getD a []):=by
    rw [List.getD_eq_getElem?_getD,List.getElem?_map,List.getElem?_eq_getElem ha',List.getD_eq_getElem?_getD (l:=B.next.getD _ []),List.getElem?_eq_getElem ha'];rfl
   rw [e3] at hk ⊢
   rw [shM_length] at hk
   have hm:=h2 a ha'
   generalize (B.next.getD (i - A.next.length) []).getD a []=ms at *
   have e4:∀ k,k<ms.length→(shM A.next.length ms).getD k (0,false)=((ms.getD k (0,false)).1+(A.next.length:Int),(ms.getD k (0,false)).2):=fun k hk=>by
    simp [shM,List.getD_eq_getElem?_getD,hk]
   have h3:=hm k hk
   rw [e4 k hk]
   refine ⟨by simp only;omega,by simp only;omega,fun h0=>?_⟩
   rw [e4 (k - 1) (by omega)]
   rcases h3.2.2 h0 with h4 | ⟨h4,h5,h6⟩
   ·exact .inl (by simp only;omega)
   ·exact .inr ⟨by simp only;omega,h5,h6⟩
theorem auto_mv {g:Grf} {C:Bu} {most:Int} (hok:GrfOk g most) (hmL:∀ p a m,m∈g.mv p a→(a:Int)<g.L) (hT:AutoR g C) {p a j:Nat} {b:Bool} (hp:p∈g.R):(j,b)∈bmv C (numN g.R p) a↔∃ q,q∈g.R∧j=numN g.R q∧(q,b)∈g.mv p a:=by
 obtain ⟨hnd,hlt,hcl⟩:=gr_ok hok
 by_cases ha:(a:Int)<g.L
 ·have hr:=auto_row hT hp ha
  simp only [bmv,List.mem_map]
  constructor
  ·rintro ⟨m,hm,hme⟩
   obtain ⟨x,hx,rfl⟩:=List.mem_map.1 ((hr m).1 hm)
   have e:numN g.R x.1=j∧x.2=b:=by simpa using hme
   refine ⟨x.1,hcl p hp _ (List.mem_flatMap.2 ⟨a,List.mem_range.2 (by have:=hok.L1;omega),List.mem_map.2 ⟨x,hx,rfl⟩⟩),e.1.symm,?_⟩
   rw [← e.2];exact hx
  ·rintro ⟨q,hq,rfl,hm⟩
   exact ⟨((numN g.R q:Int),b),(hr _).2 (List.mem_map.2 ⟨(q,b),hm,rfl⟩),by simp⟩
 ·constructor
  ·intro h
   exfalso
   simp only [bmv,List.mem_map] at h
   obtain ⟨m,hm,_⟩:=h
   have h1:=(hT.row _ (numN_lt hp)).1
   have e1:(C.next.getD (numN g.R p) []).getD a []=[]:=by rw [List.getD_eq_getElem?_getD,List.getElem?_eq_none (by omega)];rfl
   have hm':m∈(C.next.getD (numN g.R p) []).getD a []:=hm
   rw [e1] at hm'
   cases hm'
  ·rintro ⟨q,_,_,hm⟩
   exact absurd (hmL p a _ hm) ha
theorem auto_acc {g:Grf} {C:Bu} {most:Int} (hok:GrfOk g most) (hmL:∀ p a m,m∈g.mv p a→(a:Int)<g.L) (hT:AutoR g C) {w:Nat→Nat} : BAcc C w↔Acc (fun p=>p∈g.st) g.mv w:=by
 obtain ⟨hnd,hlt,hcl⟩:=gr_ok hok
 constructor
 ·rintro ⟨q,b,h0,h1,h2⟩
  obtain ⟨p0,hp0,hq0⟩:=(auto_start hT).1 h0
  have hall:∀ i,g.R.getD (q i) 0∈g.R∧q i=numN g.R (g.R.getD (q i) 0):=by
   intro i
   induction i with
   | zero=>rw [hq0,R_num (st_in p0 hp0)];exact ⟨st_in p0 hp0,rfl⟩
   | succ i ih=>
    have h3:=h1 i
    rw [ih.2] at h3
    obtain ⟨r,hr,he,_⟩:=(auto_mv hok hmL hT ih.1).1 h3
    rw [he,R_num hr];exact ⟨hr,rfl⟩
  refine ⟨fun i=>g.R.getD (q i) 0,b,?_,fun i=>?_,h2⟩
  ·show g.R.getD (q 0) 0∈g.st
   rw [hq0,R_num (st_in p0 hp0)];exact hp0
  ·have h3:=h1 i
   rw [(hall i).2] at h3
   obtain ⟨r,hr,he,hm⟩:=(auto_mv hok hmL hT (hall i).1).1 h3
   show (g.R.getD (q (i+1)) 0,b i)∈g.mv (g.R.getD (q i) 0) (w i)
   rw [he,R_num hr];exact hm
 ·rintro ⟨p,b,h0,h1,h2⟩
  have hall:∀ i,p i∈g.R:=by
   intro i
   induction i with
   | zero=>exact st_in _ h0
   | succ i ih=>
    have h3:=h1 i
    have ha:=hmL _ _ _ h3
    exact hcl _ ih _ (List.mem_flatMap.2 ⟨w i,List.mem_range.2 (by have:=hok.L1;omega),List.mem_map.2 ⟨_,h3,rfl⟩⟩)
  refine ⟨fun i=>numN g.R (p i),b,(auto_start hT).2 ⟨_,h0,rfl⟩,fun i=>?_,h2⟩
  exact (auto_mv hok hmL hT (hall i)).2 ⟨_,hall (i+1),rfl,h1 i⟩
theorem tn_two {t:Nat} (ht:t<2) {b c:Bool} (h:tn t b c=2):c=true∧(t=1∨b=true):=by
 have h':t=0∨t=1:=by omega
 rcases h' with rfl | rfl<;>cases b<;>cases c<;>simp [tn] at h ⊢
theorem tn_zero {c:Bool} : tn 0 false c=0:=by cases c<;>rfl
theorem tn_one {t:Nat} (ht:t<2) {b c:Bool} (h1:t=1∨b=true) (h2:tn t b c≠2):tn t b c=1∧c=false:=by
 have h':t=0∨t=1:=by omega
 rcases h' with rfl | rfl<;>cases b<;>cases c<;>simp [tn] at h1 h2 ⊢
theorem both_acc {A B:Bu} (okA:Vb A) (okB:Vb B) {w:Nat→Nat} : Acc (fun p=>p∈(grB A B).st) (grB A B).mv w↔BAcc A w∧BAcc B w:=by
 constructor
 ·rintro ⟨p,b,h0,h1,h2⟩
  obtain ⟨x0,hx0,h0⟩:=List.mem_flatMap.1 h0
  obtain ⟨y0,hy0,h0⟩:=List.mem_map.1 h0
  obtain ⟨ix,hix⟩:=List.mem_iff_getElem?.1 hx0
  obtain ⟨iy,hiy⟩:=List.mem_iff_getElem?.1 hy0
  have rx:=st_rng okA hix
  have ry:=st_rng okB hiy
  have hstep:∀ i,∃ mx my,mx∈rowM A (p i / 2 / B.next.length) (w i)∧my∈rowM B (p i / 2 % B.next.length) (w i)∧p (i+1)=pcode B.next.length mx.1.toNat my.1.toNat (tn (p i % 2) mx.2 my.2 % 2)∧b i=decide (tn (p i % 2) mx.2 my.2=2):=fun i=>by
   obtain ⟨mx,hx,hm⟩:=List.mem_flatMap.1 (h1 i)
   obtain ⟨my,hy,he⟩:=List.mem_map.1 hm
   have e1:=congrArg Prod.fst he
   have e2:=congrArg Prod.snd he
   exact ⟨mx,my,hx,hy,e1.symm,e2.symm⟩
  obtain ⟨fx,hfx⟩:∃ fx:Nat→Int × Bool,∀ i,∃ my,fx i∈rowM A (p i / 2 / B.next.length) (w i)∧my∈rowM B (p i / 2 % B.next.length) (w i)∧p (i+1)=pcode B.next.length (fx i).1.toNat my.1.toNat (tn (p i % 2) (fx i).2 my.2 % 2)∧b i=decide (tn (p i % 2) (fx i).2 my.2=2):=⟨fun i=>Classical.choose (hstep i),fun i=>Classical.choose_spec (hstep i)⟩
  obtain ⟨fy,hf⟩:∃ fy:Nat→Int × Bool,∀ i,fx i∈rowM A (p i / 2 / B.next.length) (w i)∧fy i∈rowM B (p i / 2 % B.next.length) (w i)∧p (i+1)=pcode B.next.length (fx i).1.toNat (fy i).1.toNat (tn (p i % 2) (fx i).2 (fy i).2 % 2)∧b i=decide (tn (p i % 2) (fx i).2 (fy i).2=2):=⟨fun i=>Classical.choose (hfx i),fun i=>Classical.choose_spec (hfx i)⟩
  have hrng : ∀ i, p i / 2 / B.next.length < A.next.length ∧ p i / 2 % B.next.length < B.next.length := by
   intro i
   cases i with
   | zero=>
    obtain ⟨e1,e2,_⟩:=pc_nat (m:=B.next.length) (x:=x0.toNat) (y:=y0.toNat) (t:=0) (by omega) (by decide)
    rw [← h0,e1,e2];omega
   | succ i=>
    obtain ⟨hx,hy,he,_⟩:=hf i
    have hp:p i / 2 % B.next.length<B.next.length:=by
     rcases Nat.eq_zero_or_pos B.next.length with hz | hz
     ·omega
     ·exact Nat.mod_lt _ hz
    have hyr:=mv_rng okB hp hy
    have hpx:p i / 2 / B.next.length<A.next.length:=by
     rcases Nat.lt_or_ge (p i / 2 / B.next.length) A.next.length with h | h
     ·exact h
     ·have:rowM A (p i / 2 / B.next.length) (w i)=[]:=by
       unfold rowM
       rw [List.getD_eq_getElem?_getD (l:=A.next),List.getElem?_eq_none (by omega)]
       simp
      rw [this] at hx
      cases hx
    have hxr:=mv_rng okA hpx hx
    obtain ⟨e1,e2,_⟩:=pc_nat (m:=B.next.length) (x:=(fx i).1.toNat) (y:=(fy i).1.toNat) (t:=tn (p i % 2) (fx i).2 (fy i).2 % 2) (by omega) (Nat.mod_lt _ (by decide))
    rw [he,e1,e2];omega
  have hnx:∀ i,p (i+1) / 2 / B.next.length=(fx i).1.toNat∧p (i+1) / 2 % B.next.length=(fy i).1.toNat∧p (i+1) % 2=tn (p i % 2) (fx i).2 (fy i).2 % 2:=fun i=>by
   have hyr:=mv_rng okB (hrng i).2 (hf i).2.1
   rw [(hf i).2.2.1]
   exact pc_nat (by omega) (Nat.mod_lt _ (by decide))
  constructor
  ·refine ⟨fun i=>p i / 2 / B.next.length,fun i=>(fx i).2,?_,fun i=>?_,fun T=>?_⟩
   ·show ((p 0 / 2 / B.next.length:Nat):Int)∈A.start
    obtain ⟨e1,_,_⟩:=pc_nat (m:=B.next.length) (x:=x0.toNat) (y:=y0.toNat) (t:=0) (by omega) (by decide)
    rw [← h0,e1,show ((x0.toNat:Nat):Int)=x0 by omega];exact hx0
   ·show (p (i+1) / 2 / B.next.length,(fx i).2)∈bmv A (p i / 2 / B.next.length) (w i)
    rw [(hnx i).1]
    exact List.mem_map.2 ⟨fx i,(hf i).1,rfl⟩
   · -- between two good moves of both the first one has one
    obtain ⟨i,hi,hb⟩:=h2 T
    obtain ⟨k,hk,hbk⟩:=h2 (i+1)
    have e1:tn (p i % 2) (fx i).2 (fy i).2=2:=by have:=(hf i).2.2.2;rw [hb] at this;simpa using this.symm
    have t0:p (i+1) % 2=0:=by rw [(hnx i).2.2,e1]
    have e2:tn (p k % 2) (fx k).2 (fy k).2=2:=by have:=(hf k).2.2.2;rw [hbk] at this;simpa using this.symm
    apply Classical.byContradiction
    intro hno
    have hz:∀ d,i+1+d≤k→p (i+1+d) % 2=0:=by
     intro d
     induction d with
     | zero=>intro _;exact t0
     | succ d ih=>
      intro hd
      have h3:=ih (by omega)
      have h4:(fx (i+1+d)).2=false:=by
       cases h5:(fx (i+1+d)).2 with
       | false=>rfl
       | true=>exact absurd ⟨i+1+d,by omega,h5⟩ hno
      rw [← Nat.add_assoc,(hnx (i+1+d)).2.2,h3,h4,tn_zero]
    have h3:=hz (k - (i+1)) (by omega)
    rw [show i+1+(k - (i+1))=k by omega] at h3
    rcases (tn_two (by omega) e2).2 with h4 | h4
    ·omega
    ·exact hno ⟨k,by omega,h4⟩
  ·refine ⟨fun i=>p i / 2 % B.next.length,fun i=>(fy i).2,?_,fun i=>?_,fun T=>?_⟩
   ·show ((p 0 / 2 % B.next.length:Nat):Int)∈B.start
    obtain ⟨_,e1,_⟩:=pc_nat (m:=B.next.length) (x:=x0.toNat) (y:=y0.toNat) (t:=0) (by omega) (by decide)
    rw [← h0,e1,show ((y0.toNat:Nat):Int)=y0 by omega];exact hy0
   ·show (p (i+1) / 2 % B.next.length,(fy i).2)∈bmv B (p i / 2 % B.next.length) (w i)
    rw [(hnx i).2.1]
    exact List.mem_map.2 ⟨fy i,(hf i).2.1,rfl⟩
   ·obtain ⟨i,hi,hb⟩:=h2 T
    have e1:tn (p i % 2) (fx i).2 (fy i).2=2:=by have:=(hf i).2.2.2;rw [hb] at this;simpa using this.symm
    exact ⟨i,hi,(tn_two (Nat.mod_lt _ (by decide)) e1).1⟩
 ·rintro ⟨⟨x,bx,hx0,hx1,hx2⟩,⟨y,by',hy0,hy1,hy2⟩⟩
  have hxr:∀ i,x i<A.next.length:=by
   intro i
   induction i with
   | zero=>have:=(start_nat okA hx0).2;simpa using this
   | succ i ih=>exact bmv_lt okA _ _ ih _ (hx1 i)
  have hyr:∀ i,y i<B.next.length:=by
   intro i
   induction i with
   | zero=>have:=(start_nat okB hy0).2;simpa using this
   | succ i ih=>exact bmv_lt okB _ _ ih _ (hy1 i)
  let t:Nat→Nat:=fun i=>Nat.rec 0 (fun i r=>tn r (bx i) (by' i) % 2) i
  have ts:∀ i,t (i+1)=tn (t i) (bx i) (by' i) % 2:=fun _=>rfl
  have tl:∀ i,t i<2:=fun i=>by
   cases i with
   | zero=>exact Nat.zero_lt_two
   | succ i=>rw [ts];exact Nat.mod_lt _ (by decide)
  refine ⟨fun i=>pcode B.next.length (x i) (y i) (t i),fun i=>decide (tn (t i) (bx i) (by' i)=2),?_,fun i=>?_,fun T=>?_⟩
  ·exact List.mem_flatMap.2 ⟨(x 0:Int),hx0,List.mem_map.2 ⟨(y 0:Int),hy0,by simp;rfl⟩⟩
  ·obtain ⟨e1,e2,e3⟩:=pc_nat (m:=B.next.length) (x:=x i) (y:=y i) (t:=t i) (hyr i) (tl i)
   show (pcode B.next.length (x (i+1)) (y (i+1)) (t (i+1)),decide (tn (t i) (bx i) (by' i)=2))∈mvX A B (pcode B.next.length (x i) (y i) (t i) / 2 / B.next.length) (pcode B.next.length (x i) (y i) (t i) / 2 % B.next.length) (pcode B.next.length (x i) (y i) (t i) % 2) (w i)
   rw [e1,e2,e3]
   have hx:=hx1 i
   have hy:=hy1 i
   simp only [bmv,List.mem_map] at hx hy
   obtain ⟨mx,hmx,hme⟩:=hx
   obtain ⟨my,hmy,hye⟩:=hy
   have f1:mx.1.toNat=x (i+1)∧mx.2=bx i:=by simpa using hme
   have f2:my.1.toNat=y (i+1)∧my.2=by' i:=by simpa using hye
   refine List.mem_flatMap.2 ⟨mx,hmx,List.mem_map.2 ⟨my,hmy,?_⟩⟩
   unfold pstep
   rw [f1.1,f1.2,f2.1,f2.2,ts]
  ·apply Classical.byContradiction
   intro hno
   have hne:∀ i,T≤i→tn (t i) (bx i) (by' i)≠2:=fun i hi he=>hno ⟨i,hi,decide_eq_true he⟩
   obtain ⟨k,hk,hbk⟩:=hx2 T
   have h1:t (k+1)=1:=by rw [ts,(tn_one (tl k) (.inr hbk) (hne k hk)).1]
   have hst:∀ d,t (k+1+d)=1:=by
    intro d
    induction d with
    | zero=>exact h1
    | succ d ih=>
     rw [← Nat.add_assoc,ts,(tn_one (tl _) (.inl ih) (hne _ (by omega))).1]
   obtain ⟨l,hl,hbl⟩:=hy2 (k+1)
   have h2:=hst (l - (k+1))
   rw [show k+1+(l - (k+1))=l by omega] at h2
   have:=(tn_one (tl l) (.inl h2) (hne l (by omega))).2
   rw [hbl] at this
   cases this
theorem both_iff {A B C:Bu} (okA:Vb A) (okB:Vb B) (hL:A.L=B.L) {most:Int} (hN:((A.next.length*B.next.length*2:Nat):Int)≤most) (hm:most≤3000) (hT:AutoR (grB A B) C) {w:Nat→Nat} : BAcc C w↔BAcc A w∧BAcc B w:=
 (auto_acc (grB_ok okA okB hL hN hm) (grB_mL okA) hT).trans (both_acc okA okB)
theorem trim_start {B C:Bu} (hok:Vb B) (hT:TrimR B C) {q:Nat} : (q:Int)∈C.start↔∃ p∈stN B,q=numN (trimR B) p:=by
 rw [hT.st]
 constructor
 ·intro h
  obtain ⟨z,hz,he⟩:=List.mem_map.1 h
  exact ⟨z.toNat,List.mem_map.2 ⟨z,hz,rfl⟩,by omega⟩
 ·rintro ⟨p,hp,rfl⟩
  obtain ⟨z,hz,rfl⟩:=List.mem_map.1 hp
  exact List.mem_map.2 ⟨z,hz,rfl⟩
theorem trim_acc {B C:Bu} (hok:Vb B) (hT:TrimR B C) {w:Nat→Nat} : BAcc C w↔BAcc B w:=by
 obtain ⟨hnd,hlt,hcl⟩:=trim_ok hok
 have hst:=stN_in hok hT
 have hRn:∀ {p:Nat},p∈trimR B→(trimR B).getD (numN (trimR B) p) 0=p:=fun h=>R_num h
 constructor
 ·rintro ⟨q,b,h0,h1,h2⟩
  obtain ⟨p0,hp0,hq0⟩:=(trim_start hok hT).1 h0
  have hall:∀ i,(trimR B).getD (q i) 0∈trimR B∧q i=numN (trimR B) ((trimR B).getD (q i) 0):=by
   intro i
   induction i with
   | zero=>rw [hq0,hRn (hst p0 hp0)];exact ⟨hst p0 hp0,rfl⟩
   | succ i ih=>
    have h3:=h1 i
    rw [ih.2] at h3
    obtain ⟨r,hr,he,_⟩:=(trim_mv hok hT ih.1).1 h3
    rw [he,hRn hr];exact ⟨hr,rfl⟩
  refine ⟨fun i=>(trimR B).getD (q i) 0,b,?_,fun i=>?_,h2⟩
  ·show (((trimR B).getD (q 0) 0:Nat):Int)∈B.start
   rw [hq0,hRn (hst p0 hp0)]
   obtain ⟨z,hz,rfl⟩:=List.mem_map.1 hp0
   rw [(start_nat hok hz).1];exact hz
  ·have h3:=h1 i
   rw [(hall i).2] at h3
   obtain ⟨r,hr,he,hm⟩:=(trim_mv hok hT (hall i).1).1 h3
   show ((trimR B).getD (q (i+1)) 0,b i)∈bmv B ((trimR B).getD (q i) 0) (w i)
   rw [he,hRn hr];exact hm
 ·rintro ⟨p,b,h0,h1,h2⟩
  have h0':(p 0:Int)∈B.start:=h0
  have hp0:p 0∈stN B:=List.mem_map.2 ⟨_,h0',by simp⟩
  have hall:∀ i,p i∈trimR B:=by
   intro i
   induction i with
   | zero=>exact hst _ hp0
   | succ i ih=>
    have h3:=h1 i
    simp only [bmv] at h3
    obtain ⟨m,hm,hme⟩:=List.mem_map.1 h3
    have e:m.1.toNat=p (i+1)∧m.2=b i:=by simpa using hme
    have ha:(w i:Int)<B.L:=by
     apply Classical.byContradiction
     intro hn
     have h4:=(hok.2.2.2.2 (p i) (hlt _ ih)).1
     have:(B.next.getD (p i) []).getD (w i) []=[]:=by rw [List.getD_eq_getElem?_getD,List.getElem?_eq_none (by omega)];rfl
     rw [this] at hm
     cases hm
    exact hcl _ ih _ (List.mem_flatMap.2 ⟨w i,List.mem_range.2 (by omega),List.mem_map.2 ⟨m,hm,e.1⟩⟩)
  refine ⟨fun i=>numN (trimR B) (p i),b,(trim_start hok hT).2 ⟨_,hp0,rfl⟩,fun i=>?_,h2⟩
  exact (trim_mv hok hT (hall i)).2 ⟨_,hall (i+1),rfl,h1 i⟩
theorem ei_mv {A B:Bu} (q a:Nat):bmv (eiB A B) q a=if q<A.next.length then bmv A q a else ((rowM B (q - A.next.length) a).map fun m=>((m.1+(A.next.length:Int)).toNat,m.2)):=by
 have h:=ei_row (A:=A) (B:=B) q a
 unfold rowM at h
 simp only [bmv,h]
 split
 ·rfl
 ·simp only [shM,List.map_map]
  rfl
theorem ei_acc {A B:Bu} (okA:Vb A) (okB:Vb B) {w:Nat→Nat} : BAcc (eiB A B) w↔BAcc A w∨BAcc B w:=by
 have hst:∀ z:Int,z∈(eiB A B).start↔z∈A.start∨∃ y∈B.start,z=y+(A.next.length:Int):=fun z=>by
  show z∈A.start++shS A.next.length B.start↔_
  rw [List.mem_append]
  refine or_congr Iff.rfl ⟨fun h=>?_,fun h=>?_⟩
  ·obtain ⟨y,hy,rfl⟩:=List.mem_map.1 h
   exact ⟨y,hy,rfl⟩
  ·obtain ⟨y,hy,rfl⟩:=h
   exact List.mem_map.2 ⟨y,hy,rfl⟩
 constructor
 ·rintro ⟨q,g,h0,h1,h2⟩
  rcases (hst _).1 h0 with h0 | ⟨y,hy,h0⟩
  ·left
   have hlt:∀ i,q i<A.next.length:=by
    intro i
    induction i with
    | zero=>have:=(start_nat okA h0).2;simpa using this
    | succ i ih=>
     have h3:=h1 i
     rw [ei_mv,if_pos ih] at h3
     exact bmv_lt okA _ _ ih _ h3
   refine ⟨q,g,h0,fun i=>?_,h2⟩
   have h3:=h1 i
   rwa [ei_mv,if_pos (hlt i)] at h3
  ·right
   have hy2:=start_nat okB hy
   have hge:∀ i,A.next.length≤q i∧q i - A.next.length<B.next.length:=by
    intro i
    induction i with
    | zero=>omega
    | succ i ih=>
     have h3:=h1 i
     rw [ei_mv,if_neg (by omega)] at h3
     obtain ⟨m,hm,hme⟩:=List.mem_map.1 h3
     have e:(m.1+(A.next.length:Int)).toNat=q (i+1)∧m.2=g i:=by simpa using hme
     have hr:=mv_rng okB ih.2 hm
     omega
   refine ⟨fun i=>q i - A.next.length,g,?_,fun i=>?_,h2⟩
   ·show ((q 0 - A.next.length:Nat):Int)∈B.start
    have:((q 0 - A.next.length:Nat):Int)=y:=by omega
    rw [this];exact hy
   ·have h3:=h1 i
    rw [ei_mv,if_neg (by have:=(hge i).1;omega)] at h3
    obtain ⟨m,hm,hme⟩:=List.mem_map.1 h3
    have e:(m.1+(A.next.length:Int)).toNat=q (i+1)∧m.2=g i:=by simpa using hme
    have hr:=mv_rng okB (hge i).2 hm
    simp only [bmv]
    refine List.mem_map.2 ⟨m,hm,?_⟩
    have e1:m.1.toNat=q (i+1) - A.next.length:=by omega
    rw [e1,e.2]
 ·rintro (⟨q,g,h0,h1,h2⟩ | ⟨q,g,h0,h1,h2⟩)
  ·have hlt:∀ i,q i<A.next.length:=by
    intro i
    induction i with
    | zero=>have:=(start_nat okA h0).2;simpa using this
    | succ i ih=>exact bmv_lt okA _ _ ih _ (h1 i)
   refine ⟨q,g,(hst _).2 (.inl h0),fun i=>?_,h2⟩
   rw [ei_mv,if_pos (hlt i)]
   exact h1 i
  ·have hlt:∀ i,q i<B.next.length:=by
    intro i
    induction i with
    | zero=>have:=(start_nat okB h0).2;simpa using this
    | succ i ih=>exact bmv_lt okB _ _ ih _ (h1 i)
   refine ⟨fun i=>q i+A.next.length,g,(hst _).2 (.inr ⟨_,h0,by push_cast;rfl⟩),fun i=>?_,h2⟩
   have hge2:¬ (q i+A.next.length<A.next.length):=by omega
   show (q (i+1)+A.next.length,g i)∈bmv (eiB A B) (q i+A.next.length) (w i)
   rw [ei_mv,if_neg hge2,Nat.add_sub_cancel]
   have h3:=h1 i
   simp only [bmv] at h3
   obtain ⟨m,hm,hme⟩:=List.mem_map.1 h3
   have e:m.1.toNat=q (i+1)∧m.2=g i:=by simpa using hme
   have hr:=mv_rng okB (hlt i) hm
   refine List.mem_map.2 ⟨m,hm,?_⟩
   have e1:(m.1+(A.next.length:Int)).toNat=q (i+1)+A.next.length:=by omega
   rw [e1,e.2]
end Go.Proofs.YthcllhhldknkmaaGreatDoor
