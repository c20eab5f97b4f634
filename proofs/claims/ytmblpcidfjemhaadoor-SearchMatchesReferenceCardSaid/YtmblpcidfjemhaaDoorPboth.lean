/- buchi.Both. -/
import Derived.Test.YtmblpcidfjemhaaDoorPauto
import Derived.Test.YtmblpcidfjemhaaDoorTsort
set_option linter.unusedSimpArgs false
set_option linter.unusedVariables false
section
set_option linter.unusedSimpArgs false
set_option linter.unusedVariables false
namespace Go.Proofs.YtmblpcidfjemhaaDoor
open Go Go.Pv
open Classical
theorem hasI_take {l:List Nat} {k q:Nat} (h:l[k]? = some q) (m:Nat):tcells3 m (l.take (k+1))=tcells3 m (l.take k)++pc3 m q:=by
  rw [List.take_add_one,h,tcells3_append]
  simp [tcells3]
theorem tcells3_cl (m:Nat):∀ l:List Nat,LV.closed.closedAll (tcells3 m l)=true
  | []=>rfl
  | p::l=>by simp [tcells3,LV.closed.closedAll,LV.closed,tcells3_cl m l]
theorem stP_len (A B:Bu):(stP A B).length=A.start.length*B.start.length:=fm_len fun x _=>by simp
theorem stP_get {A B:Bu} {i j:Nat} {x y:Int} (hi:A.start[i]? = some x) (hj:B.start[j]? = some y):(stP A B)[i*B.start.length+j]? = some (pcode B.next.length x.toNat y.toNat 0):=by
  unfold stP
  rw [fm_get (List.getElem?_eq_some_iff.1 hj).1 (fun x _=>by simp) hi,List.getElem?_map,hj];rfl
theorem st_rng {B:Bu} (ok:Vb B) {i:Nat} {x:Int} (h:B.start[i]? = some x):0≤x∧x<B.next.length:=by
  obtain ⟨h1,h2⟩:=List.getElem?_eq_some_iff.1 h
  have:=ok.2.2.2.1 i h1
  rw [List.getD_eq_getElem?_getD,h] at this
  exact ⟨this.1,this.2.1⟩
theorem mv_rng {B:Bu} (ok:Vb B) {q a:Nat} (hq:q<B.next.length) {m:Int × Bool} (h:m∈rowM B q a):0≤m.1∧m.1<B.next.length∧(a:Int)<B.L:=by
  have hrow:=ok.2.2.2.2 q hq
  obtain ⟨k,hk⟩:=List.mem_iff_getElem?.1 h
  obtain ⟨h1,h2⟩:=List.getElem?_eq_some_iff.1 hk
  have ha:a<(B.next.getD q []).length:=by
    rcases Nat.lt_or_ge a (B.next.getD q []).length with h3 | h3
    · exact h3
    · have:rowM B q a=[]:=by unfold rowM;rw [List.getD_eq_getElem?_getD (l:=B.next.getD q []),List.getElem?_eq_none h3];rfl
      rw [this] at h1
      exact absurd h1 (Nat.not_lt_zero _)
  have:=hrow.2 a ha k h1
  have hg:((B.next.getD q []).getD a []).getD k (0,false)=m:=by
    have hm':((B.next.getD q []).getD a [])[k]? = some m:=hk
    rw [List.getD_eq_getElem?_getD,hm'];rfl
  rw [hg] at this
  exact ⟨this.1,this.2.1,by have:=hrow.1;omega⟩
theorem mv_len {B:Bu} (ok:Vb B) {q:Nat} (hq:q<B.next.length) (a:Nat):(rowM B q a).length≤2*B.next.length:=by
  have hrow:=ok.2.2.2.2 q hq
  rcases Nat.lt_or_ge a (B.next.getD q []).length with h3 | h3
  · exact mok_len' (hrow.2 a h3)
  · have:rowM B q a=[]:=by unfold rowM;rw [List.getD_eq_getElem?_getD (l:=B.next.getD q []),List.getElem?_eq_none h3];rfl
    rw [this];simp
theorem pidx {na m p:Nat} (h:p<na*m*2):p / 2 / m<na∧p / 2 % m<m∧p % 2<2:=by
  have hm:0<m:=by
    rcases Nat.eq_zero_or_pos m with h0 | h0
    · rw [h0] at h;omega
    · exact h0
  exact ⟨(Nat.div_lt_iff_lt_mul hm).2 (by omega),Nat.mod_lt _ hm,Nat.mod_lt _ (by decide)⟩
theorem grB_ok {A B:Bu} (okA:Vb A) (okB:Vb B) (hL:A.L=B.L) {most:Int} (hN:((A.next.length*B.next.length*2:Nat):Int)≤most) (hm:most≤3000):GrfOk (grB A B) most where
  L1:=okA.1
  L2:=okA.2.1
  N3:=hN
  m3:=hm
  stN:=fun p hp=>by
    obtain ⟨x,hx,hp⟩:=List.mem_flatMap.1 hp
    obtain ⟨y,hy,rfl⟩:=List.mem_map.1 hp
    obtain ⟨i,hi⟩:=List.mem_iff_getElem?.1 hx
    obtain ⟨j,hj⟩:=List.mem_iff_getElem?.1 hy
    have h1:=st_rng okA hi
    have h2:=st_rng okB hj
    exact pcode_lt (by omega) (by omega) (by decide)
  stl:=by
    show (stP A B).length≤_
    rw [stP_len]
    have h1:=start_len okA
    have h2:=start_len okB
    have:A.start.length*B.start.length≤A.next.length*B.next.length:=Nat.mul_le_mul h1 h2
    omega
  mvN:=fun p a hp m hm=>by
    obtain ⟨h1,h2,h3⟩:=pidx hp
    obtain ⟨mx,hx,hm⟩:=List.mem_flatMap.1 hm
    obtain ⟨my,hy,rfl⟩:=List.mem_map.1 hm
    have k1:=mv_rng okA h1 hx
    have k2:=mv_rng okB h2 hy
    exact pcode_lt (by omega) (by omega) (Nat.mod_lt _ (by decide))
  mvl := fun p a hp => by
    obtain ⟨h1,h2,h3⟩:=pidx hp
    show (mvX A B _ _ _ a).length≤_
    have e:(mvX A B (p / 2 / B.next.length) (p / 2 % B.next.length) (p % 2) a).length=(rowM A (p / 2 / B.next.length) a).length*(rowM B (p / 2 % B.next.length) a).length:=fm_len fun mx _=>by simp
    rw [e]
    have k1:=mv_len okA h1 a
    have k2:=mv_len okB h2 a
    have h5:=Nat.mul_le_mul k1 k2
    have h6:2*A.next.length*(2*B.next.length)=2*(A.next.length*B.next.length*2):=by
      rw [Nat.mul_assoc,Nat.mul_left_comm A.next.length,Nat.mul_comm (A.next.length*B.next.length) 2]
    omega
theorem closed_tup1 {v:LV} {k:IntKind} {n:Int} : (LV.tup [v, .int k n]).closed=v.closed:=by simp [LV.closed,LV.closed.closedAll]
theorem frz_aut' {s:St} {stv nxv:LV} {C:Bu} {T1 T2:Nat→Prop} (f1:FZ T1 (fun v'=>IsInts v' C.start) 38 stv s) (f2:FZ T2 (fun v'=>IsNext v' C.next) 38 nxv s) (hd:∀ id,T1 id→¬ T2 id) :
    ∃ r s' sv nv,frz frzDepth (.tup [.agg [.int .i64 C.L,stv,nxv], .int .i64 0]) s=some (.tup [r, .int .i64 0],s')∧IsB r C sv nv:=by
  obtain ⟨v1,s1,a1,a2,a3,a4⟩:=f1 s fun _ _=>rfl
  obtain ⟨v2,s2,b1,b2,b3,b4⟩:=f2 s1 fun id hid=>a4 id fun h=>hd id h hid
  by_cases hc:(LV.agg [.int .i64 C.L,stv,nxv]).closed=true
  · have hc':stv.closed=true∧nxv.closed=true:=by simpa [LV.closed,LV.closed.closedAll] using hc
    rw [frz_closed hc'.1] at a1
    rw [frz_closed hc'.2] at b1
    cases a1
    cases b1
    exact ⟨_,s,stv,nxv,frz_closed (by rw [closed_tup1];exact hc),rfl,a2,b2⟩
  · have hc0:(LV.agg [.int .i64 C.L,stv,nxv]).closed=false:=by simpa using hc
    refine ⟨.agg [.int .i64 C.L,v1,v2],s2,v1,v2,?_,rfl,a2,b2⟩
    have hb:frz 38 (.int .i64 C.L) s=some (.int .i64 C.L,s):=frz_closed rfl
    have hz:frz 39 (.int .i64 0) s2=some (.int .i64 0,s2):=frz_closed rfl
    have hag:frz 39 (.agg [.int .i64 C.L,stv,nxv]) s=some (.agg [.int .i64 C.L,v1,v2],s2):=by
      show frz (38+1) _ s=_
      unfold frz
      rw [hc0]
      simp only [Bool.false_eq_true,if_false,frz.frzAll,hb,a1,b1,Option.bind_eq_bind,Option.bind_some]
    have ht0:(LV.tup [.agg [.int .i64 C.L,stv,nxv], .int .i64 0]).closed=false:=by
      rw [closed_tup1];exact hc0
    show frz (39+1) _ s=_
    unfold frz
    rw [ht0]
    simp only [Bool.false_eq_true,if_false,frz.frzAll,hag,hz,Option.bind_eq_bind,Option.bind_some]
end Go.Proofs.YtmblpcidfjemhaaDoor
end
section
set_option linter.unusedSimpArgs false
set_option linter.unusedVariables false
namespace Go.Proofs.YtmblpcidfjemhaaDoor
open Go Go.Pv
open Classical
theorem addsN_nodup2 {ps l:List Nat} : (ps++l).Nodup→addsN ps l=ps++l:=by
  induction l generalizing ps with
  | nil=>intro _;simp [addsN]
  | cons p l ih=>
    intro h
    have hp:p ∉ ps:=fun hp=>by
      rw [List.nodup_append] at h
      exact h.2.2 p hp p (by simp) rfl
    have h1:addN ps p=ps++[p]:=by unfold addN;rw [if_neg hp]
    show addsN (addN ps p) l=_
    rw [h1,ih (by simpa using h)]
    simp
theorem sok_lt2 {n:Nat} {st:List Int} (h:SOK n st):∀ i j,i<j→j<st.length→st.getD i 0<st.getD j 0:=by
  intro i j hij
  induction j with
  | zero=>omega
  | succ j ih=>
    intro hj
    have h1:=(h (j+1) hj).2.2 (by omega)
    rw [Nat.add_sub_cancel] at h1
    by_cases he:i=j
    · rw [he];exact h1
    · have:=ih (by omega) (by omega)
      omega
theorem pc_nat2 {m x y t:Nat} (hy:y<m) (ht:t<2):pcode m x y t / 2 / m=x∧pcode m x y t / 2 % m=y∧pcode m x y t % 2=t:=by
  obtain ⟨h1,h2,h3⟩:=pcode_parts (x:=x) hy ht
  unfold px at h1
  unfold py at h2
  unfold pt at h3
  omega
theorem start_lt2 {B:Bu} (ok:Vb B):B.start.Pairwise (fun a b=>a<b∧0≤a∧0≤b):=by
  rw [List.pairwise_iff_getElem]
  intro i j hi hj hij
  have h1:=sok_lt2 ok.2.2.2.1 i j hij hj
  have p1:=(ok.2.2.2.1 i hi).1
  have p2:=(ok.2.2.2.1 j hj).1
  have ei:B.start.getD i 0=B.start[i]:=by simp [List.getD_eq_getElem?_getD,hi]
  have ej:B.start.getD j 0=B.start[j]:=by simp [List.getD_eq_getElem?_getD,hj]
  rw [ei] at p1 h1
  rw [ej] at p2 h1
  exact ⟨h1,p1,p2⟩
theorem st_lt2 {B:Bu} (ok:Vb B) {y:Int} (hy:y∈B.start):y.toNat<B.next.length:=by
  obtain ⟨k,hk⟩:=List.mem_iff_getElem?.1 hy
  have h0:=ok.2.2.2.1 k (List.getElem?_eq_some_iff.1 hk).1
  rw [List.getD_eq_getElem?_getD,hk] at h0
  have h1:0≤y:=h0.1
  have h2:y<(B.next.length:Int):=h0.2.1
  omega
theorem stP_nd2 {A B:Bu} (okA:Vb A) (okB:Vb B):(stP A B).Nodup:=by
  rw [List.nodup_iff_pairwise_ne,stP,List.pairwise_flatMap]
  have hrB:∀ y∈B.start,y.toNat<B.next.length:=fun y hy=>st_lt2 okB hy
  constructor
  · intro x hx
    rw [List.pairwise_map]
    refine (start_lt2 okB).imp_of_mem fun {a b} ha hb h he=>?_
    have e1:=pc_nat2 (m:=B.next.length) (x:=x.toNat) (t:=0) (hrB a ha) (by decide)
    have e2:=pc_nat2 (m:=B.next.length) (x:=x.toNat) (t:=0) (hrB b hb) (by decide)
    rw [he] at e1
    have:=e1.2.1.symm.trans e2.2.1
    omega
  · refine (start_lt2 okA).imp fun {a b} h p hp q hq he=>?_
    obtain ⟨y,hy,rfl⟩:=List.mem_map.1 hp
    obtain ⟨z,hz,rfl⟩:=List.mem_map.1 hq
    have e1:=pc_nat2 (m:=B.next.length) (x:=a.toNat) (t:=0) (hrB y hy) (by decide)
    have e2:=pc_nat2 (m:=B.next.length) (x:=b.toNat) (t:=0) (hrB z hz) (by decide)
    rw [he] at e1
    have:=e1.1.symm.trans e2.1
    omega
theorem stP_R {A B:Bu} (okA:Vb A) (okB:Vb B):(stP A B).length≤(grB A B).R.length:=by
  have h0:(grB A B).s0=stP A B:=by
    show addsN [] (stP A B)=stP A B
    have:=addsN_nodup2 (ps:=[]) (l:=stP A B) (by simpa using stP_nd2 okA okB)
    simpa using this
  obtain ⟨tl,htl⟩:=runN_pre (grB A B).suc ((grB A B).N+1) 0 (grB A B).s0
  show (stP A B).length≤(runN (grB A B).suc ((grB A B).N+1) 0 (grB A B).s0).length
  rw [htl,h0,List.length_append]
  omega
end Go.Proofs.YtmblpcidfjemhaaDoor
end
