/- buchi.automaton at Trim's moves. -/
import Derived.Test.YtgobbogomchnhaaGreatDoorTsort
import Derived.Test.YtgobbogomchnhaaGreatDoorTnum
set_option linter.unusedSimpArgs false
set_option linter.unusedVariables false
section
set_option linter.unusedSimpArgs false
set_option linter.unusedVariables false
namespace Go.Proofs.YtgobbogomchnhaaGreatDoor
open Go Go.Pv
open Classical
structure AI (s s1:St) (L:Int) (r8 r9 M ja jb jc jd:Nat) (pv stv nxv:LV) (ps:List Nat):Prop where
 ids:r8=s.n∧r9=s.n+1∧M=s.n+2∧ja=s.n+3∧jb=s.n+4∧jc=s.n+5∧jd=s.n+6
 nt:NT s.n (fun _=>False) s1 s1 ja jb M pv ps
 n7:s.n+7≤s1.n
 g8:s1.get r8=some (.cells .mut [.int .i64 0, .nils, .nils])
 g9:s1.get r9=some (.cells .mut [.int .i64 0])
 gc:s1.get jc=some (.cells .mut [.fn (.func 78) [] [.pref ja 0, .pref jb 0]])
 gd:s1.get jd=some (.cells .mut [.int .i64 L,stv,nxv])
 low:∀ id,uses pv id→s.n+7≤id
 old:∀ id,id<s.n→s1.get id=s.get id
theorem AI.keep {s s1 s2:St} {L:Int} {r8 r9 M ja jb jc jd:Nat} {pv stv nxv:LV} {ps:List Nat} (h:AI s s1 L r8 r9 M ja jb jc jd pv stv nxv ps) (hn:s1.n≤s2.n) (hs:∀ id,id<s.n+7∨uses pv id→s2.get id=s1.get id):AI s s2 L r8 r9 M ja jb jc jd pv stv nxv ps:=by
 obtain ⟨i1,i2,i3,i4,i5,i6,i7⟩:=h.ids
 have n7:=h.n7
 have N:=h.nt
 refine ⟨h.ids,⟨by have:=N.le;omega,N.a0,by have:=N.a1;omega,N.b0,by have:=N.b1;omega,N.m0,by have:=N.m1;omega,N.ab,N.ma,N.mb,by rw [hs _ (.inl (by omega))];exact N.ga,by rw [hs _ (.inl (by omega))];exact N.gb,by rw [hs _ (.inl (by omega))];exact N.gM,N.sp.mono hn fun id hu=>hs id (.inr hu),N.dp,fun id hk=>hk.elim,fun id hk=>hk.elim⟩,by omega,
  by rw [hs _ (.inl (by omega))];exact h.g8,by rw [hs _ (.inl (by omega))];exact h.g9,by rw [hs _ (.inl (by omega))];exact h.gc,by rw [hs _ (.inl (by omega))];exact h.gd,h.low,fun id hid=>by rw [hs _ (.inl (by omega))];exact h.old id hid⟩
theorem anum_ok {s s1:St} {L:Int} {r8 r9 M ja jb jc jd:Nat} {pv stv nxv:LV} {ps:List Nat} (h:AI s s1 L r8 r9 M ja jb jc jd pv stv nxv ps) (hl:ps.length≤1000000) (p:Nat) :
  CallOk Tryz.prog GL (.fn (.func 78) [] [.pref ja 0, .pref jb 0]) [.int .i64 (p:Int)] s1 (fun r s2=>∃ pv',r = .int .i64 (numN (addN ps p) p:Int)∧AI s s2 L r8 r9 M ja jb jc jd pv' stv nxv (addN ps p)∧s1.n≤s2.n∧(∀ id,uses pv' id→uses pv id∨s1.n≤id)∧∀ id,id<s1.n→id≠ja→id≠jb→id≠M→¬ uses pv id→s2.get id=s1.get id):=by
 obtain ⟨i1,i2,i3,i4,i5,i6,i7⟩:=h.ids
 have n7:=h.n7
 refine CallOk.mono (tnum_call h.nt hl p) fun r s2 hh=>?_
 obtain ⟨pv',h1,h2,h3,h4,h5⟩:=hh
 have hk:∀ id,id<s.n+7→id≠ja→id≠jb→id≠M→s2.get id=s1.get id:=fun id a b c d=>h5 id (by omega) b c d fun hu=>by have:=h.low id hu;omega
 refine ⟨pv',h1,⟨h.ids,h2,by omega,by rw [hk _ (by omega) (by omega) (by omega) (by omega)];exact h.g8,by rw [hk _ (by omega) (by omega) (by omega) (by omega)];exact h.g9,by rw [hk _ (by omega) (by omega) (by omega) (by omega)];exact h.gc,by rw [hk _ (by omega) (by omega) (by omega) (by omega)];exact h.gd,fun id hu=>?_,fun id hid=>?_⟩,h3,h4,h5⟩
 ·rcases h4 id hu with h6 | h6
  ·exact h.low id h6
  ·omega
 ·rw [hk _ (by omega) (by omega) (by omega) (by omega)];exact h.old id hid
theorem start_len {B:Bu} (hok:Vb B):B.start.length≤B.next.length:=by
 have hge:∀ i,i<B.start.length→(i:Int)≤B.start.getD i 0:=by
  intro i
  induction i with
  | zero=>intro hi;exact (hok.2.2.2.1 0 hi).1
  | succ i ih=>
   intro hi
   have h1:=ih (by omega)
   have h2:=(hok.2.2.2.1 (i+1) hi).2.2 (by omega)
   rw [Nat.add_sub_cancel] at h2
   omega
 by_cases h:B.start.length=0
 ·omega
 ·have h1:=hge (B.start.length - 1) (by omega)
  have h2:=(hok.2.2.2.1 (B.start.length - 1) (by omega)).2.1
  omega
theorem getD_set' {α:Type} {l:List α} {i k:Nat} {x d:α} (h:i<l.length):(l.set i x).getD k d=if k=i then x else l.getD k d:=by
 by_cases e:k=i
 ·subst e;simp [List.getD_eq_getElem?_getD,h]
 ·have e':i≠k:=fun h=>e h.symm
  simp [List.getD_eq_getElem?_getD,e,e']
theorem renM_nodup {B:Bu} {R:List Nat} {N:Nat} {ms:Moves} (hmo:MOK N ms) (hin:∀ m∈ms,m.1.toNat∈R):(renM R ms).Nodup:=by
 rw [List.nodup_iff_pairwise_ne,renM,List.pairwise_map]
 have hlt:∀ i j,i<j→j<ms.length→mlt (ms.getD i (0,false)) (ms.getD j (0,false)):=by
  intro i j hij
  induction j with
  | zero=>omega
  | succ j ih=>
   intro hj
   have h1:=(hmo (j+1) hj).2.2 (by omega)
   rw [Nat.add_sub_cancel] at h1
   by_cases he:i=j
   ·rw [he];exact h1
   ·have h2:=ih (by omega) (by omega)
    unfold mlt at *
    rcases h1 with h1 | ⟨h1,h3,h4⟩<;>rcases h2 with h2 | ⟨h2,h5,h6⟩
    ·exact .inl (by omega)
    ·exact .inl (by omega)
    ·exact .inl (by omega)
    ·rw [h6] at h3;cases h3
 rw [List.pairwise_iff_getElem]
 intro i j hi hj hij he
 have h1:=hlt i j hij hj
 have ei:ms.getD i (0,false)=ms[i]:=by simp [List.getD_eq_getElem?_getD,hi]
 have ej:ms.getD j (0,false)=ms[j]:=by simp [List.getD_eq_getElem?_getD,hj]
 have p1:=(hmo i hi).1
 have p2:=(hmo j hj).1
 rw [ei,ej] at h1
 rw [ei] at p1
 rw [ej] at p2
 have e1:=congrArg Prod.fst he
 have e2:=congrArg Prod.snd he
 simp only at e1 e2
 have e3:=numN_inj (hin _ (List.getElem_mem hi)) (hin _ (List.getElem_mem hj)) (by omega)
 unfold mlt at h1
 rcases h1 with h1 | ⟨_,h3,h4⟩
 ·omega
 ·rw [e2,h4] at h3;cases h3
theorem mok_len' {n:Nat} {ms:Moves} (h:MOK n ms):ms.length≤2*n:=by
 let f:Nat→Int:=fun k=>2*(ms.getD k (0,false)).1+(if (ms.getD k (0,false)).2=true then 1 else 0)
 have hf : ∀ k, k < ms.length → (k : Int) ≤ f k := by
  intro k
  induction k with
  | zero=>
   intro hk
   have:=(h 0 hk).1
   show (0:Int)≤2*_+_
   split<;>omega
  | succ k ih=>
   intro hk
   have h1:=ih (by omega)
   have h2:=(h (k+1) hk).2.2 (by omega)
   rw [Nat.add_sub_cancel] at h2
   have h3:f k<f (k+1):=by
    show 2*_+_<2*_+_
    rcases h2 with h2 | ⟨h2,h4,h5⟩
    ·split<;>split<;>omega
    ·rw [h4,h5,h2]
     first
      | (simp;done)
      | (simp;omega)
   omega
 by_cases h0:ms.length=0
 ·omega
 ·have h1:=hf (ms.length - 1) (by omega)
  have h2:=(h (ms.length - 1) (by omega)).2.1
  have h3:f (ms.length - 1)≤2*(ms.getD (ms.length - 1) (0,false)).1+1:=by
   show 2*_+_≤_
   split<;>omega
  omega
theorem stT_pre (B:Bu) (i:Nat):Pre (addsN [] ((B.start.take i).map Int.toNat)) (trimR B):=by
 refine Pre.trans ?_ (runN_pre (succT B) _ 0 (stT B))
 have:B.start.map Int.toNat=(B.start.take i).map Int.toNat++(B.start.drop i).map Int.toNat:=by rw [← List.map_append,List.take_append_drop]
 rw [stT,this,addsN_append]
 exact addsN_pre _ _
theorem trim_ok {B:Bu} (hok:Vb B):(trimR B).Nodup∧(∀ p∈trimR B,p<B.next.length)∧∀ p∈trimR B,∀ q∈succT B p,q∈trimR B:=by
 have h0:∀ p∈stT B,p<B.next.length:=addsN_in (fun p hp=>by cases hp) fun p hp=>by
  obtain ⟨z,hz,rfl⟩:=List.mem_map.1 hp
  obtain ⟨i,hi⟩:=List.mem_iff_getElem?.1 hz
  obtain ⟨h1,h2⟩:=List.getElem?_eq_some_iff.1 hi
  have:=hok.2.2.2.1 i h1
  have hg:B.start.getD i 0=z:=by rw [List.getD_eq_getElem?_getD,hi];rfl
  rw [hg] at this
  omega
 have hs:∀ p,p<B.next.length→∀ q∈succT B p,q<B.next.length:=by
  intro p hp q hq
  obtain ⟨a,ha,hq⟩:=List.mem_flatMap.1 hq
  obtain ⟨m,hm,rfl⟩:=List.mem_map.1 hq
  have hrow:=hok.2.2.2.2 p hp
  have ha':a<(B.next.getD p []).length:=by have:=hrow.1;have:=List.mem_range.1 ha;omega
  obtain ⟨k,hk⟩:=List.mem_iff_getElem?.1 hm
  obtain ⟨hk1,hk2⟩:=List.getElem?_eq_some_iff.1 hk
  have:=hrow.2 a ha' k hk1
  have hg:((B.next.getD p []).getD a []).getD k (0,false)=m:=by rw [List.getD_eq_getElem?_getD,hk];rfl
  rw [hg] at this
  omega
 exact runN_ok hs (B.next.length+1) 0 (stT B) (addsN_nd (by simp)) h0 (fun i p hi=>absurd hi (Nat.not_lt_zero _)) (by omega)
theorem ai_len {B:Bu} (hok:Vb B) {ps:List Nat} (hp:Pre ps (trimR B)):ps.length≤B.next.length:=by
 obtain ⟨h1,h2,_⟩:=trim_ok hok
 have h3:=Aut.pig B.next.length (trimR B) h1 h2
 obtain ⟨t,ht⟩:=hp
 rw [ht,List.length_append] at h3
 omega
structure Fr1 (s1 s2:St) (ja jb M:Nat) (pv pv':LV):Prop where
 n:s1.n≤s2.n
 u:∀ id,uses pv' id→uses pv id∨s1.n≤id
 g:∀ id,id<s1.n→id≠ja→id≠jb→id≠M→¬ uses pv id→s2.get id=s1.get id
theorem Fr1.refl (s1:St) (ja jb M:Nat) (pv:LV):Fr1 s1 s1 ja jb M pv pv:=⟨Nat.le_refl _,fun _ h=>.inl h,fun _ _ _ _ _ _=>rfl⟩
theorem Fr1.trans {s1 s2 s3:St} {ja jb M:Nat} {pv pv' pv'':LV} (h:Fr1 s1 s2 ja jb M pv pv') (k:Fr1 s2 s3 ja jb M pv' pv''):Fr1 s1 s3 ja jb M pv pv'':=by
 refine ⟨Nat.le_trans h.n k.n,fun id hu=>?_,fun id h1 h2 h3 h4 h5=>?_⟩
 ·rcases k.u id hu with h6 | h6
  ·exact h.u id h6
  ·exact .inr (by have:=h.n;omega)
 ·rw [k.g id (by have:=h.n;omega) h2 h3 h4 fun hu=>by
   rcases h.u id hu with h6 | h6
   ·exact h5 h6
   ·omega]
  exact h.g id h1 h2 h3 h4 h5
theorem Fr1.young {s1 s2 s3:St} {ja jb M:Nat} {pv pv':LV} (h:Fr1 s1 s2 ja jb M pv pv') (hn:s2.n≤s3.n) (hs:∀ id,id<s1.n→s3.get id=s2.get id):Fr1 s1 s3 ja jb M pv pv' :=
 ⟨Nat.le_trans h.n hn,h.u,fun id h1 h2 h3 h4 h5=>by rw [hs id h1];exact h.g id h1 h2 h3 h4 h5⟩
def RowT (B:Bu) (p:Nat) (row:List Moves) (a:Nat):Prop:=∀ k,k<a→(row.getD k []).Perm (renM (trimR B) (rowM B p k))∧∀ i j,i<j→j<(row.getD k []).length→¬ mlt ((row.getD k []).getD j (0,false)) ((row.getD k []).getD i (0,false))
structure AR (B:Bu) (s s1:St) (r8 r9 M ja jb jc jd:Nat) (pv stv nxv:LV) (ps:List Nat) (n:Nat):Prop where
 ai:AI s s1 B.L r8 r9 M ja jb jc jd pv stv nxv ps
 ss:SkC s1 stv 1 (ints (B.start.map fun z=>(numN (trimR B) z.toNat:Int))) B.start.length
 ds:∀ id,uses stv id→s.n+7≤id∧¬ uses pv id
 rows:∃ (rvs:List LV) (nxs:List (List Moves)),rvs.length=n∧nxs.length=n∧SkC s1 nxv 1 rvs n∧(∀ id,uses nxv id→s.n+7≤id∧¬ uses pv id∧¬ uses stv id) ∧
  (∀ i,i<n→IsRowM (rvs.getD i .top) (nxs.getD i []))∧∀ i,i<n→((nxs.getD i []).length:Int)=B.L∧RowT B ((trimR B).getD i 0) (nxs.getD i []) B.L.toNat
theorem AR.next {B:Bu} {s s1 s2:St} {r8 r9 M ja jb jc jd:Nat} {pv pv' stv nxv:LV} {ps ps':List Nat} {n:Nat} (h:AR B s s1 r8 r9 M ja jb jc jd pv stv nxv ps n) (hA:AI s s2 B.L r8 r9 M ja jb jc jd pv' stv nxv ps') (hF:Fr1 s1 s2 ja jb M pv pv'):AR B s s2 r8 r9 M ja jb jc jd pv' stv nxv ps' n:=by
 obtain ⟨rvs,nxs,h1,h2,h3,h4,h5,h8⟩:=h.rows
 obtain ⟨i1,i2,i3,i4,i5,i6,i7⟩:=h.ai.ids
 have hup:∀ id,id<s1.n→¬ uses pv id→¬ uses pv' id:=fun id hid hn hu=>by
  rcases hF.u id hu with h | h
  ·exact hn h
  ·omega
 have hk:∀ id,s.n+7≤id→id<s1.n→¬ uses pv id→s2.get id=s1.get id:=fun id a b c=>hF.g id b (by omega) (by omega) (by omega) c
 exact ⟨hA,h.ss.mono hF.n fun id hu=>hk id (h.ds id hu).1 (h.ss.lt hu) (h.ds id hu).2,fun id hu=>⟨(h.ds id hu).1,hup id (h.ss.lt hu) (h.ds id hu).2⟩,rvs,nxs,h1,h2,h3.mono hF.n fun id hu=>hk id (h4 id hu).1 (h3.lt hu) (h4 id hu).2.1,fun id hu=>⟨(h4 id hu).1,hup id (h3.lt hu) (h4 id hu).2.1,(h4 id hu).2.2⟩,h5,h8⟩
theorem AR.row {B:Bu} {s s2 s':St} {r8 r9 M ja jb jc jd j:Nat} {pv stv nxv v':LV} {ps:List Nat} {n:Nat} {rvs:List LV} {nxs:List (List Moves)} {row:List Moves} {T:Nat→Prop} (hA:AI s s2 B.L r8 r9 M ja jb jc jd pv stv nxv ps) (ss:SkC s2 stv 1 (ints (B.start.map fun z=>(numN (trimR B) z.toNat:Int))) B.start.length) (ds:∀ id,uses stv id→s.n+7≤id∧¬ uses pv id)
  (h1:rvs.length=n) (h2:nxs.length=n) (h4:∀ id,uses nxv id→s.n+7≤id∧¬ uses pv id∧¬ uses stv id) (h5:∀ i,i<n→IsRowM (rvs.getD i .top) (nxs.getD i [])) (h8:∀ i,i<n→((nxs.getD i []).length:Int)=B.L∧RowT B ((trimR B).getD i 0) (nxs.getD i []) B.L.toNat)
  (hT:∀ id,T id→s.n+7≤id∧¬ uses pv id∧¬ uses stv id) (hv:IsRowM v' row) (hj:s2.n≤j) (hS:SkC s' (.sref j 0 (n+1) 1) 1 (rvs++[v']) (n+1)) (hn:s2.n≤s'.n) (hk:∀ id,id<s2.n→¬ uses nxv id→¬ T id→s'.get id=s2.get id) (hrow:(row.length:Int)=B.L∧RowT B ((trimR B).getD n 0) row B.L.toNat) :
  AR B s (s'.put jd (.cells .mut [.int .i64 B.L,stv, .sref j 0 (n+1) 1])) r8 r9 M ja jb jc jd pv stv (.sref j 0 (n+1) 1) ps (n+1):=by
 obtain ⟨i1,i2,i3,i4,i5,i6,i7⟩:=hA.ids
 have n7:=hA.n7
 have hyoung:∀ id,id<s.n+7→s'.get id=s2.get id:=fun id hid=>hk id (by omega) (fun hu=>by have:=(h4 id hu).1;omega) fun ht=>by have:=(hT id ht).1;omega
 have hK:=hA.keep (s2:=s') hn fun id hid=>by
  rcases hid with hid | hid
  ·exact hyoung id hid
  ·exact hk id (hA.nt.sp.lt hid) (fun hu=>(h4 id hu).2.1 hid) fun ht=>(hT id ht).2.1 hid
 have N:=hK.nt
 have hpvd:¬ uses pv jd:=fun hu=>by have:=hA.low jd hu;omega
 refine ⟨⟨hK.ids,⟨N.le,N.a0,N.a1,N.b0,N.b1,N.m0,N.m1,N.ab,N.ma,N.mb,by rw [St.get_put,if_neg (by omega)];exact N.ga,by rw [St.get_put,if_neg (by omega)];exact N.gb,by rw [St.get_put,if_neg (by omega)];exact N.gM,N.sp.mono (Nat.le_refl _) fun id hu=>by rw [St.get_put,if_neg (by rintro rfl;exact hpvd hu)],N.dp,fun id h=>h.elim,fun id h=>h.elim⟩,hK.n7,by rw [St.get_put,if_neg (by omega)];exact hK.g8,by rw [St.get_put,if_neg (by omega)];exact hK.g9,by rw [St.get_put,if_neg (by omega)];exact hK.gc,by rw [St.get_put,if_pos rfl],hK.low,fun id hid=>by rw [St.get_put,if_neg (by omega)];exact hK.old id hid⟩,?_,ds,rvs++[v'],nxs++[row],by simp [h1],by simp [h2],?_,?_,?_,?_⟩
 ·exact ss.mono (by rw [St.n_put];exact hn) fun id hu=>by
   rw [St.get_put,if_neg (by have:=(ds id hu).1;omega)]
   exact hk id (ss.lt hu) (fun hu'=>(h4 id hu').2.2 hu) fun ht=>(hT id ht).2.2 hu
 ·exact hS.mono (Nat.le_refl _) fun id hu=>by
   obtain rfl:=uses_sref.1 hu
   rw [St.get_put,if_neg (by omega)]
 ·intro id hu
  obtain rfl:=uses_sref.1 hu
  exact ⟨by omega,fun hu'=>by have:=hA.nt.sp.lt hu';omega,fun hu'=>by have:=ss.lt hu';omega⟩
 ·intro i hi
  by_cases he:i=n
  ·subst he
   rw [List.getD_eq_getElem?_getD,List.getElem?_append_right (by omega),h1,Nat.sub_self,List.getD_eq_getElem?_getD,List.getElem?_append_right (by omega),h2,Nat.sub_self]
   exact hv
  ·rw [List.getD_eq_getElem?_getD,List.getElem?_append_left (by omega),← List.getD_eq_getElem?_getD,List.getD_eq_getElem?_getD (l:=nxs++[row]),List.getElem?_append_left (by omega),← List.getD_eq_getElem?_getD]
   exact h5 i (by omega)
 ·intro i hi
  by_cases he:i=n
  ·subst he
   rw [List.getD_eq_getElem?_getD,List.getElem?_append_right (by omega),h2,Nat.sub_self]
   exact hrow
  ·rw [List.getD_eq_getElem?_getD,List.getElem?_append_left (by omega),← List.getD_eq_getElem?_getD]
   exact h8 i (by omega)
theorem skc_cell {s:St} {v:LV} {esz n:Nat} {cells:List LV} (h:SkC s v esz cells n):isCell v=true:=by
 obtain ⟨_,⟨rfl,_⟩ | ⟨j,rfl,_⟩⟩:=h<;>rfl
theorem AR.fin {B:Bu} {s s1:St} {r8 r9 M ja jb jc jd:Nat} {pv stv nxv:LV} {n:Nat} (hok:Vb B) (h:AR B s s1 r8 r9 M ja jb jc jd pv stv nxv (trimR B) n) (hn:n=(trimR B).length):∃ C:Bu,TrimR B C∧FZ (uses stv) (fun v'=>IsInts v' C.start) 39 stv s1∧FZ (uses nxv) (fun v'=>IsNext v' C.next) 39 nxv s1∧(∀ id,uses stv id→¬ uses nxv id)∧∀ id,uses stv id∨uses nxv id→s.n+7≤id∧id<s1.n:=by
 obtain ⟨rvs,nxs,h1,h2,h3,h4,h5,h8⟩:=h.rows
 have hmx:maxLen=9223372036854775807:=by decide
 have hlen:=ai_len hok (Pre.refl (trimR B))
 have hn3:=hok.2.2.1
 have hsn:=start_len hok
 refine ⟨⟨B.L,B.start.map fun z=>(numN (trimR B) z.toNat:Int),nxs⟩,⟨rfl,rfl,by rw [← hn];exact h2,fun i hi=>⟨(h8 i (by omega)).1,fun a ha=>(h8 i (by omega)).2 a (by have:=hok.1;omega)⟩⟩,?_,?_,fun id hu hu'=>(h4 id hu').2.2 hu,fun id hu=>?_⟩
 ·refine (fz_skc 37 h.ss (ints_cl' _)).mono fun v hv=>⟨by simpa using hv,by simp only [List.length_map];omega,fun x hx=>?_⟩
  obtain ⟨z,hz,rfl⟩:=List.mem_map.1 hx
  have hzm:z.toNat∈trimR B:=(stT_pre B B.start.length).mem (by
   rw [List.take_length]
   exact addsN_mem (List.mem_map_of_mem hz))
  have:=numN_lt hzm
  show inI64 ((numN (trimR B) z.toNat:Nat):Int)
  unfold inI64
  constructor<;>omega
 ·refine (fz_skc 37 h3 (closedAll_of fun i hi=>(h5 i (by omega)).closed)).mono fun v hv=>⟨rvs,by rw [h2];exact hv,by rw [h1,h2],by simp only [h2];omega,fun i hi=>h5 i (by simpa [h2] using hi)⟩
 ·rcases hu with hu | hu
  ·exact ⟨(h.ds id hu).1,h.ss.lt hu⟩
  ·exact ⟨(h4 id hu).1,h3.lt hu⟩
set_option maxHeartbeats 16000000 in
theorem tauto_ok {v:LV} {B:Bu} {sv nv:LV} (hB:IsB v B sv nv) (hok:Vb B) {s:St} :
    CallOk Tryz.prog GL (.fn (.func 40) [] []) [.int .i64 B.L,sv, .int .i64 3000, .fn (.func 38) [] [.pimm [.int .i64 B.L,sv,nv] 0]] s
      (fun r s'=>∃ (stv nxv:LV) (C:Bu) (T1 T2:Nat→Prop),r = .tup [.agg [.int .i64 B.L,stv,nxv], .int .i64 0]∧TrimR B C∧FZ T1 (fun v'=>IsInts v' C.start) 39 stv s'∧FZ T2 (fun v'=>IsNext v' C.next) 39 nxv s'∧(∀ id,T1 id→¬ T2 id)∧(∀ id,T1 id∨T2 id→s.n≤id∧id<s'.n)∧(isCell stv=true∧isCell nxv=true)∧s.n≤s'.n∧∀ id,id<s.n→s'.get id=s.get id):=by
  have hBv:=hB
  obtain ⟨rfl,hst,vs,hn⟩:=hB
  have hc1:=hst.sl.cell
  have hc2:=hn.sl.cell
  have hsl:=hst.sl.len
  have hn3:=hok.2.2.1
  have hslen:=hst.len
  have hmx:maxLen=9223372036854775807:=by decide
  have hstn:=start_len hok
  have hL1:=hok.1
  have hL2:=hok.2.1
  refine call_fn (first:=[]) (caps:=[]) Tryz.func40 (by decide +kernel) c40 (Nat.le_of_ble_eq_true rfl) (CodeOk.mono (Q:=fun o e s'=>(o = .normal∨o = .jmp .ret)∧∃ (r8 r9:Nat) (stv nxv:LV) (C:Bu) (T1 T2:Nat→Prop),e.at 8 = .pref r8 0∧e.at 9 = .pref r9 0∧s'.get r8=some (.cells .mut [.int .i64 B.L,stv,nxv])∧s'.get r9=some (.cells .mut [.int .i64 0])∧TrimR B C∧FZ T1 (fun v'=>IsInts v' C.start) 39 stv s'∧FZ T2 (fun v'=>IsNext v' C.next) 39 nxv s'∧(∀ id,T1 id→¬ T2 id)∧(∀ id,T1 id∨T2 id→s.n≤id∧id<s'.n)∧(isCell stv=true∧isCell nxv=true)∧s.n≤s'.n∧∀ id,id<s.n→s'.get id=s.get id) ?_ fun o e s' hh=>by
    obtain ⟨h1,r8,r9,stv,nxv,C,T1,T2,h2,h3,h4,h5,h6⟩:=hh
    exact ⟨h1, .tup [.agg [.int .i64 B.L,stv,nxv], .int .i64 0],by simp [l40,resVal,resOne,h2,h3,h4,h5,mkVal],stv,nxv,C,T1,T2,rfl,h6⟩)
  have e0:(envOf ([]++[.int .i64 B.L,sv, .int .i64 3000, .fn (.func 38) [] [.pimm [.int .i64 B.L,sv,nv] 0]]++[])).at 0 = .int .i64 B.L:=by rw [envOf_at];rfl
  have e1:(envOf ([]++[.int .i64 B.L,sv, .int .i64 3000, .fn (.func 38) [] [.pimm [.int .i64 B.L,sv,nv] 0]]++[])).at 1=sv:=by rw [envOf_at];rfl
  have e2:(envOf ([]++[.int .i64 B.L,sv, .int .i64 3000, .fn (.func 38) [] [.pimm [.int .i64 B.L,sv,nv] 0]]++[])).at 2 = .int .i64 3000:=by rw [envOf_at];rfl
  have e3:(envOf ([]++[.int .i64 B.L,sv, .int .i64 3000, .fn (.func 38) [] [.pimm [.int .i64 B.L,sv,nv] 0]]++[])).at 3 = .fn (.func 38) [] [.pimm [.int .i64 B.L,sv,nv] 0]:=by rw [envOf_at];rfl
  generalize envOf ([]++[.int .i64 B.L,sv, .int .i64 3000, .fn (.func 38) [] [.pimm [.int .i64 B.L,sv,nv] 0]]++[])=e at *
  refine Cd.out ?_
  unfold l40
  dsimp only [jA,jB,jG,jH,qM,qL,qN,qF,qS,qI,qA,qB,qC,qO,qG,qm,ql]
  repeat' (first | refine gA @hsl ?_ | (refine gB @hsl ?_;intro bb hbb;cases bb<;>(try simp only [hbs,if_false,reduceCtorEq] at hbb)) | apply qc_seq | fail)
  refine q_gen (v:=.mref (s.n+1+1)) (s':=((s.new (Blk.cells Md.mut [LV.int IntKind.i64 0,LV.nils,LV.nils])).new (Blk.cells Md.mut [LV.int IntKind.i64 0])).new (.map [])) wN (by simp only [LOp.run,St.n_new]) rfl trivial ?_
  simp only [Env.put_some]
  repeat' (first | refine gA @hsl ?_ | (refine gB @hsl ?_;intro bb hbb;cases bb<;>(try simp only [hbs,if_false,reduceCtorEq] at hbb)) | apply qc_seq | fail)
  refine q_run0 (v:=.agg [.int .i64 B.L, .nils, .nils]) (by simp only [LOp.run,lk,sv1,sv2,sv3,Nat.reduceEqDiff,Nat.reduceAdd,Nat.reduceLeDiff,reduceIte,if_false,if_true,mkVal,unLV,List.map,optTmps,evParts,fillParts,e0];rfl) ?_
  repeat' (first | refine gA @hsl ?_ | (refine gB @hsl ?_;intro bb hbb;cases bb<;>(try simp only [hbs,if_false,reduceCtorEq] at hbb)) | apply qc_seq | fail)
  refine qc_gen (fun e s1=>∃ r8 r9 M ja jb jc jd:Nat,AI s s1 B.L r8 r9 M ja jb jc jd .nils .nils .nils []∧e.at 0 = .int .i64 B.L∧e.at 3 = .fn (.func 38) [] [.pimm [.int .i64 B.L,sv,nv] 0]∧e.at 6 = .pimm [.int .i64 3000] 0∧e.at 8 = .pref r8 0∧e.at 9 = .pref r9 0∧e.at 11 = .pref jb 0∧e.at 12 = .pref jc 0∧e.at 13 = .pref jd 0∧e.at 26=sv∧e.at 27 = .int .i64 (B.start.length:Int)∧e.at 28 = .int .i64 0) ?_ ?_
  · refine ⟨s.n,s.n+1,s.n+1+1,s.n+1+1+1,s.n+1+1+1+1,s.n+1+1+1+1+1,s.n+1+1+1+1+1+1,⟨⟨rfl,rfl,rfl,rfl,rfl,rfl,rfl⟩,⟨?_,by omega,?_,by omega,?_,by omega,?_,by omega,by omega,by omega,?_,?_,?_,SkC.nil _ _,fun id h=>absurd h (uses_nils id),fun id h=>h.elim,fun id h=>h.elim⟩,?_,?_,?_,?_,?_,fun id h=>absurd h (uses_nils id),fun id hid=>?_⟩,?_⟩
    all_goals first
      | (simp only [St.n_put,St.n_new];omega)
      | exact ⟨ef,ef,ef,ef,ef,ef,ef,ef,ef,ef,ef⟩
      | (simp only [lk,sv1,sv2,sv3,Nat.reduceEqDiff,Nat.reduceAdd,Nat.reduceLeDiff,reduceIte,if_false,if_true,mkVal,unLV,List.map,optTmps,List.map,St.get_put,St.get_new,St.n_put,St.n_new]
         repeat' (first | rfl | (rw [if_pos (by omega)]) | (rw [if_neg (by omega)])))
  clear e0 e1 e2 e3
  clear e
  rintro e s1 ⟨r8,r9,M,ja,jb,jc,jd,hA,e0,e3,e6,e8,e9,e11,e12,e13,e26,e27,e28⟩
  refine qc_loop (fun m e s1=>∃ (i:Nat) (pv stv:LV),m=B.start.length - i∧i≤B.start.length∧AI s s1 B.L r8 r9 M ja jb jc jd pv stv .nils (addsN [] ((B.start.take i).map Int.toNat))∧SkC s1 stv 1 (ints ((B.start.take i).map fun z=>(numN (trimR B) z.toNat:Int))) i∧(∀ id,uses stv id→s.n+7≤id∧¬ uses pv id)∧e.at 0 = .int .i64 B.L∧e.at 3 = .fn (.func 38) [] [.pimm [.int .i64 B.L,sv,nv] 0]∧e.at 6 = .pimm [.int .i64 3000] 0∧e.at 8 = .pref r8 0∧e.at 9 = .pref r9 0∧e.at 11 = .pref jb 0∧e.at 12 = .pref jc 0∧e.at 13 = .pref jd 0∧e.at 26=sv∧e.at 27 = .int .i64 (B.start.length:Int)∧e.at 28 = .int .i64 (i:Int)) _
    ⟨0, .nils, .nils,rfl,by omega,hA,SkC.nil _ _,(fun id h=>absurd h (uses_nils id)),e0,e3,e6,e8,e9,e11,e12,e13,e26,e27,e28⟩ ?_
  clear hA e0 e3 e6 e8 e9 e11 e12 e13 e26 e27 e28
  clear e s1
  rintro m e s1 ⟨i,pv,stv,rfl,hi,hA,hS,hdj,e0,e3,e6,e8,e9,e11,e12,e13,e26,e27,e28⟩
  have hpl:=ai_len hok (stT_pre B i)
  by_cases hil:i<B.start.length
  · have hiI:(i:Int)<(B.start.length:Int):=by omega
    have hw:IntKind.i64.wrap ((i:Int)+1)=((i+1:Nat):Int):=by rw [wrap_i64 _ (by omega) (by omega)];rfl
    obtain ⟨z,hz⟩:∃ z,B.start[i]? = some z:=⟨_,List.getElem?_eq_getElem hil⟩
    have hzd:B.start.getD i 0=z:=by rw [List.getD_eq_getElem?_getD,hz];rfl
    have hzr:=hok.2.2.2.1 i hil
    rw [hzd] at hzr
    obtain ⟨q,rfl⟩:∃ q:Nat,z=(q:Int):=⟨z.toNat,by omega⟩
    have hgz:(ints B.start)[i]? = some (.int .i64 (q:Int)):=by simp [ints,hz]
    clear hzr hzd
    have gd:=hA.gd
    have gc:=hA.gc
    repeat' (first | refine gA (And.intro (@iaN _ _ _ hst.sl) @hgz) ?_ | (refine gB (And.intro (@iaN _ _ _ hst.sl) @hgz) ?_;intro bb hbb;cases bb<;>(try simp only [hbs,if_false,reduceCtorEq] at hbb)) | apply qc_seq | fail)
    · exfalso;omega
    have hpre':=stT_pre B (i+1)
    have htk0:B.start.take (i+1)=B.start.take i++[(q:Int)]:=by rw [List.take_add_one,hz];rfl
    have htk:addsN [] ((B.start.take (i+1)).map Int.toNat)=addN (addsN [] ((B.start.take i).map Int.toNat)) q:=by
      rw [htk0,List.map_append,List.map_cons,List.map_nil,Int.toNat_natCast,addsN_snoc]
    have htk2:(B.start.take (i+1)).map (fun z=>(numN (trimR B) z.toNat:Int))=(B.start.take i).map (fun z=>(numN (trimR B) z.toNat:Int))++[(numN (trimR B) q:Int)]:=by
      rw [htk0];simp
    rw [htk] at hpre'
    have hnum:numN (addN (addsN [] ((B.start.take i).map Int.toNat)) q) q=numN (trimR B) q:=(numN_pre hpre' (addN_mem _ _)).symm
    have hpl':=ai_len hok hpre'
    refine q_call wN (fv:=.fn (.func 78) [] [.pref ja 0, .pref jb 0]) (vs:=[.int .i64 (q:Int)]) ef (by simp only [List.map,lk,sv1,sv2,sv3,Nat.reduceEqDiff,Nat.reduceAdd,Nat.reduceLeDiff,reduceIte,if_false,if_true,mkVal,unLV,List.map,optTmps]) (CallOk.mono (anum_ok hA (by omega) q) fun r s2 hh=>?_)
    obtain ⟨pv',rfl,hA2,hn2,hup,hk2⟩:=hh
    rw [hnum]
    have gd2:=hA2.gd
    have gc2:=hA2.gc
    have ids:=hA.ids
    have n7:=hA.n7
    have hS2:=hS.mono hn2 fun id hu=>hk2 id (hS.lt hu) (by have:=(hdj id hu).1;omega) (by have:=(hdj id hu).1;omega) (by have:=(hdj id hu).1;omega) (hdj id hu).2
    have hdj2:∀ id,uses stv id→s.n+7≤id∧¬ uses pv' id:=fun id hu=>⟨(hdj id hu).1,fun hu'=>by
      rcases hup id hu' with h | h
      · exact (hdj id hu).2 h
      · have:=hS.lt hu;omega⟩
    have hb2:=hA2.nt.gb
    have hsl2:=hA2.nt.sp.len
    have hst2:∀ id,uses stv id→id<s2.n:=fun id hu=>hS2.lt hu
    generalize hps:addN (addsN [] ((B.start.take i).map Int.toNat)) q=ps' at *
    generalize hsl':(B.start.take i).map (fun z=>(numN (trimR B) z.toNat:Int))=sl at *
    generalize hwn:numN (trimR B) q=w at *
    have hn72:s.n+7≤s2.n:=by omega
    have hnd:∀ id,id<s.n+7→(s2.new (.cells .mut [.int .i64 (w:Int)])).get id=s2.get id:=fun id hid=>by rw [St.get_new,if_neg (by omega)]
    have fd2:(s2.new (.cells .mut [.int .i64 (w:Int)])).get jd=some (.cells .mut [.int .i64 B.L,stv, .nils]):=by rw [hnd _ (by omega)];exact gd2
    have fc2:(s2.new (.cells .mut [.int .i64 (w:Int)])).get jc=some (.cells .mut [.fn (.func 78) [] [.pref ja 0, .pref jb 0]]):=by rw [hnd _ (by omega)];exact gc2
    clear hA hS hdj hk2 hup gd gc hn2 hnum hbb hpre' n7 hnd ids
    refine ⟨⟨.inr ⟨rfl,by simp only [LOp.run,lk,sv1,sv2,sv3,Nat.reduceEqDiff,Nat.reduceAdd,Nat.reduceLeDiff,reduceIte,if_false,if_true,mkVal,unLV,List.map,optTmps,Env.put_some,e13,gd2,Option.bind_eq_bind]⟩,trivial⟩,?_⟩
    simp only [Env.put_some]
    refine q_appK (n:=i) (esz:=1) (xv:=.int .i64 (w:Int)) (yv:=stv) (vs:=[.int .i64 (w:Int)]) ef rfl rfl rfl rfl ef hS2 ⟨.inr ⟨rfl,by simp only [LOp.run,lk,sv1,sv2,sv3,Nat.reduceEqDiff,Nat.reduceAdd,Nat.reduceLeDiff,reduceIte,if_false,if_true,mkVal,unLV,List.map,optTmps,e13,fd2,Option.bind_eq_bind]⟩, .inr ⟨rfl,by simp only [LOp.run,lk,sv1,sv2,sv3,Nat.reduceEqDiff,Nat.reduceAdd,Nat.reduceLeDiff,reduceIte,if_false,if_true,mkVal,unLV,List.map,optTmps,e12,fc2,Option.bind_eq_bind]⟩,trivial⟩ (by decide) (by omega) (fun s5 j5 a1 a2 a3 a4=>?_)
    have ids:=hA2.ids
    have h5:∀ id,id<s.n+7→s5.get id=s2.get id:=fun id hid=>a4 id (by omega) fun hu=>by have:=(hdj2 id hu).1;omega
    have gd5:s5.get jd=some (.cells .mut [.int .i64 B.L,stv, .nils]):=by rw [h5 _ (by omega)];exact gd2
    have hj5:j5<s5.n:=a2.lt (uses_sref.2 rfl)
    have hne:¬ jb=jd:=by omega
    have gb5:(s5.put jd (.cells .mut [.int .i64 B.L, .sref j5 0 (i+1) 1, .nils])).get jb=some (.cells .mut [pv']):=by rw [St.get_put,if_neg hne,h5 _ (by omega)];exact hb2
    have hpI:(ps'.length:Int)≤3000:=by omega
    clear ids
    have hA5:AI s (s5.put jd (.cells .mut [.int .i64 B.L, .sref j5 0 (i+1) 1, .nils])) B.L r8 r9 M ja jb jc jd pv' (.sref j5 0 (i+1) 1) .nils ps':=by
      obtain ⟨i1,i2,i3,i4,i5,i6,i7⟩:=hA2.ids
      have hk:=hA2.keep (s2:=s5) a3 fun id hid=>by
        rcases hid with hid | hid
        · exact h5 id hid
        · exact a4 id (hA2.nt.sp.lt hid) fun hu=>(hdj2 id hu).2 hid
      have N:=hk.nt
      have hpvd:¬ uses pv' jd:=fun hu=>by have:=hk.low jd hu;omega
      refine ⟨hk.ids,⟨N.le,N.a0,N.a1,N.b0,N.b1,N.m0,N.m1,N.ab,N.ma,N.mb,by rw [St.get_put,if_neg (by omega)];exact N.ga,by rw [St.get_put,if_neg (by omega)];exact N.gb,by rw [St.get_put,if_neg (by omega)];exact N.gM,N.sp.mono (Nat.le_refl _) fun id hu=>by rw [St.get_put,if_neg (by rintro rfl;exact hpvd hu)],N.dp,fun id h=>h.elim,fun id h=>h.elim⟩,hk.n7,by rw [St.get_put,if_neg (by omega)];exact hk.g8,by rw [St.get_put,if_neg (by omega)];exact hk.g9,by rw [St.get_put,if_neg (by omega)];exact hk.gc,by rw [St.get_put,if_pos rfl],hk.low,fun id hid=>by rw [St.get_put,if_neg (by omega)];exact hk.old id hid⟩
    have hS5:SkC (s5.put jd (.cells .mut [.int .i64 B.L, .sref j5 0 (i+1) 1, .nils])) (.sref j5 0 (i+1) 1) 1 (ints (sl++[(w:Int)])) (i+1):=by
      have ids:=hA2.ids
      have:ints (sl++[(w:Int)])=ints sl++[.int .i64 (w:Int)]:=by simp [ints]
      rw [this]
      exact a2.mono (by rw [St.n_put];omega) fun id hu=>by
        obtain rfl:=uses_sref.1 hu
        rw [St.get_put,if_neg (by omega)]
    have hdj5:∀ id,uses (.sref j5 0 (i+1) 1) id→s.n+7≤id∧¬ uses pv' id:=fun id hu=>by
      obtain rfl:=uses_sref.1 hu
      exact ⟨by omega,fun hu'=>by have:=hA2.nt.sp.lt hu';omega⟩
    clear hS2 hdj2 a1 a2 a3 a4 h5 hA2 gd2 gc2 hb2 fd2 fc2 hst2 hj5
    repeat' (first | refine gA @hsl2 ?_ | (refine gB @hsl2 ?_;intro bb hbb;cases bb<;>(try simp only [hbs,if_false,reduceCtorEq] at hbb)) | apply qc_seq | fail)
    · refine ⟨B.start.length - (i+1),by omega,i+1,pv', .sref j5 0 (i+1) 1,rfl,by omega,by rw [htk];exact hA5,by rw [htk2];exact hS5,hdj5,?_⟩
      simp only [lk,sv1,sv2,sv3,Nat.reduceEqDiff,Nat.reduceAdd,Nat.reduceLeDiff,reduceIte,if_false,if_true,mkVal,unLV,List.map,optTmps,hw,e0,e3,e6,e8,e9,e11,e12,e13,e26,e27,and_self]
    · exfalso;omega
  · -- the rows
    have hi':i=B.start.length:=by omega
    subst hi'
    rw [List.take_length] at hA hS
    rw [show addsN [] (B.start.map Int.toNat)=stT B from rfl] at hA
    have hpl0:=hA.nt.sp.len
    have gb0:=hA.nt.gb
    repeat' (first | refine gA @hpl0 ?_ | (refine gB @hpl0 ?_;intro bb hbb;cases bb<;>(try simp only [hbs,if_false,reduceCtorEq] at hbb)) | apply qc_seq | fail)
    rotate_left
    · exfalso;omega
    refine qc_loop (fun m e s1=>∃ (n:Nat) (ps:List Nat) (pv stv nxv:LV),m=B.next.length+1 - n∧n≤ps.length∧runN (succT B) (B.next.length+1 - n) n ps=trimR B∧AR B s s1 r8 r9 M ja jb jc jd pv stv nxv ps n∧e.at 0 = .int .i64 B.L∧e.at 3 = .fn (.func 38) [] [.pimm [.int .i64 B.L,sv,nv] 0]∧e.at 6 = .pimm [.int .i64 3000] 0∧e.at 8 = .pref r8 0∧e.at 9 = .pref r9 0∧e.at 11 = .pref jb 0∧e.at 12 = .pref jc 0∧e.at 13 = .pref jd 0∧e.at 16 = .int .i64 (n:Int)) _
      ⟨0,stT B,pv,stv, .nils,rfl,Nat.zero_le _,rfl,⟨hA,hS,hdj,[],[],rfl,rfl,SkC.nil _ _,(fun id h=>absurd h (uses_nils id)),(fun i hi=>absurd hi (Nat.not_lt_zero _)),fun i hi=>absurd hi (Nat.not_lt_zero _)⟩,ef,ef,ef,ef,ef,ef,ef,ef,by simp only [lk,sv1,sv2,sv3,Nat.reduceEqDiff,Nat.reduceAdd,Nat.reduceLeDiff,reduceIte,if_false,if_true,mkVal,unLV,List.map,optTmps];rfl⟩ ?_
    clear hA hS hdj hpl hpl0 gb0 hbb hi hil e0 e3 e6 e8 e9 e11 e12 e13 e26 e27 e28
    clear pv stv e s1
    rintro m e s1 ⟨n,ps,pv,stv,nxv,rfl,hnp,hrun,hR,e0,e3,e6,e8,e9,e11,e12,e13,e16⟩
    have hpre:Pre ps (trimR B):=by rw [← hrun];exact runN_pre _ _ _ _
    have hpl:=ai_len hok hpre
    have gb0:=hR.ai.nt.gb
    have hpl0:=hR.ai.nt.sp.len
    by_cases hnl:n<ps.length
    · have hnI : (n : Int) < (ps.length : Int) := by omega
      have hw:IntKind.i64.wrap ((n:Int)+1)=((n+1:Nat):Int):=by rw [wrap_i64 _ (by omega) (by omega)];rfl
      obtain ⟨p,hp⟩:∃ p,ps[n]? = some p:=⟨_,List.getElem?_eq_getElem hnl⟩
      have hpN:p<B.next.length:=(trim_ok hok).2.1 p (hpre.mem (List.mem_of_getElem? hp))
      have hpT:(trimR B).getD n 0=p:=by
        obtain ⟨tl,htl⟩:=hpre
        rw [htl,List.getD_eq_getElem?_getD,List.getElem?_append_left hnl,hp];rfl
      repeat' (first | refine gA @hpl0 ?_ | (refine gB @hpl0 ?_;intro bb hbb;cases bb<;>(try simp only [hbs,if_false,reduceCtorEq] at hbb)) | apply qc_seq | fail)
      · exfalso;omega
      have hbig:(B.L:Int)*24≤big∧(B.L:Int)≤big:=by unfold big;omega
      refine q_gen (v:=.sref s1.n 0 B.L.toNat 1) (s':=s1.new (.cells .mut (List.replicate B.L.toNat .nils))) wN (by
        simp only [LOp.run,lk,sv1,sv2,sv3,Nat.reduceEqDiff,Nat.reduceAdd,Nat.reduceLeDiff,reduceIte,if_false,if_true,mkVal,unLV,List.map,optTmps,e0]
        rw [if_pos ⟨by omega,Int.le_refl _,hbig.1,hbig.2,trivial⟩,rep_one]) rfl trivial ?_
      simp only [Env.put_some]
      repeat' (first | refine gA @hpl0 ?_ | (refine gB @hpl0 ?_;intro bb hbb;cases bb<;>(try simp only [hbs,if_false,reduceCtorEq] at hbb)) | apply qc_seq | fail)
      obtain ⟨jr,hjr⟩:∃ jr,s1.n=jr:=⟨_,rfl⟩
      rw [hjr]
      have hn7:=hR.ai.n7
      have hL0:((B.L.toNat:Nat):Int)=B.L:=by omega
      have hrep:∀ k,k<B.L.toNat→(List.replicate B.L.toNat LV.nils).getD k .top = .nils:=fun k hk=>by simp [List.getD_eq_getElem?_getD,hk]
      have hrun':trimR B=runN (succT B) (B.next.length - n) (n+1) (addsN ps (succT B p)):=by
        rw [← hrun,show B.next.length+1 - n=(B.next.length - n)+1 by omega]
        simp only [runN,hp]
      have hpreS:∀ a,a≤B.L.toNat→Pre (addsN ps ((List.range a).flatMap (succA B p))) (trimR B):=fun a ha=>by
        rw [hrun']
        refine Pre.trans ?_ (runN_pre _ _ _ _)
        obtain ⟨d,hd⟩:∃ d,B.L.toNat=a+d:=⟨B.L.toNat - a,by omega⟩
        have:succT B p=(List.range a).flatMap (succA B p)++((List.range d).map (a + ·)).flatMap (succA B p):=by
          rw [succT,hd,List.range_add,List.flatMap_append]
        rw [this,addsN_append]
        exact addsN_pre _ _
      refine qc_loop (fun m e s2=>∃ (a:Nat) (ps2:List Nat) (pv2:LV) (rc:List LV) (row:List Moves) (U:Nat→Nat→Prop),m=B.L.toNat - a∧a≤B.L.toNat∧ps2=addsN ps ((List.range a).flatMap (succA B p))∧AI s s2 B.L r8 r9 M ja jb jc jd pv2 stv nxv ps2∧Fr1 s1 s2 ja jb M pv pv2∧jr<s2.n∧s2.get jr=some (.cells .mut rc)∧rc.length=B.L.toNat∧row.length=a∧(∀ k,a≤k→k<B.L.toNat→rc.getD k .top = .nils)∧¬ uses pv2 jr∧(∀ k,k<a→FZ (U k) (fun v'=>IsMoves v' (row.getD k [])) 39 (rc.getD k .top) s2)∧(∀ k k' id,k<a→k'<a→k≠k'→U k id→¬ U k' id)∧(∀ k id,k<a→U k id→jr<id∧id<s2.n∧¬ uses pv2 id)∧RowT B p row a∧e.at 0 = .int .i64 B.L∧e.at 3 = .fn (.func 38) [] [.pimm [.int .i64 B.L,sv,nv] 0]∧e.at 6 = .pimm [.int .i64 3000] 0∧e.at 8 = .pref r8 0∧e.at 9 = .pref r9 0∧e.at 11 = .pref jb 0∧e.at 12 = .pref jc 0∧e.at 13 = .pref jd 0∧e.at 16 = .int .i64 (n:Int)∧e.at 17 = .sref jr 0 B.L.toNat 1∧e.at 55 = .int .i64 ((B.L.toNat:Nat):Int)∧e.at 56 = .int .i64 (a:Int)) _
        ⟨0,ps,pv,List.replicate B.L.toNat .nils,[],fun _ _=>False,rfl,Nat.zero_le _,rfl,hR.ai.keep (by simp) (fun id hid=>by
          rw [St.get_new,if_neg]
          rcases hid with hid | hid
          · omega
          · have:=hR.ai.nt.sp.lt hid;omega),(Fr1.refl s1 ja jb M pv).young (by simp) (fun id hid=>by rw [St.get_new,if_neg (by omega)]),by rw [St.n_new];omega,by rw [St.get_new,if_pos hjr.symm],by simp,rfl,fun k _ hk=>hrep k hk,fun hu=>by have:=hR.ai.nt.sp.lt hu;omega,(fun k hk=>absurd hk (Nat.not_lt_zero _)),(fun k k' id hk=>absurd hk (Nat.not_lt_zero _)),(fun k id hk=>absurd hk (Nat.not_lt_zero _)),(fun k hk=>absurd hk (Nat.not_lt_zero _)),ef,ef,ef,ef,ef,ef,ef,ef,ef,ef,ef,by simp only [lk,sv1,sv2,sv3,Nat.reduceEqDiff,Nat.reduceAdd,Nat.reduceLeDiff,reduceIte,if_false,if_true,mkVal,unLV,List.map,optTmps];rfl⟩ ?_
      clear e0 e3 e6 e8 e9 e11 e12 e13 e16 hbb gb0 hpl0 hnI
      clear e
      rintro m e s2 ⟨a,ps2,pv2,rc,row,U,rfl,ha,hps2,hA,hF,hjr2,grc,hrcl,hrowl,hnil,hupr,hFZ,hU1,hU2,hRT,e0,e3,e6,e8,e9,e11,e12,e13,e16,e17,e55,e56⟩
      by_cases hal:a<B.L.toNat
      · have haI:(a:Int)<((B.L.toNat:Nat):Int):=by omega
        have haL:(a:Int)<B.L:=by omega
        have hwa:IntKind.i64.wrap ((a:Int)+1)=((a+1:Nat):Int):=by rw [wrap_i64 _ (by omega) (by omega)];rfl
        have hpp2:Pre ps ps2:=by rw [hps2];exact addsN_pre _ _
        have hnl2:n<ps2.length:=by
          obtain ⟨tl,htl⟩:=hpp2
          rw [htl,List.length_append];omega
        have hp2:ps2[n]? = some p:=by
          obtain ⟨tl,htl⟩:=hpp2
          rw [htl,List.getElem?_append_left hnl];exact hp
        have gb2:=hA.nt.gb
        obtain ⟨pid,hpv,hpid,hpg⟩:=hA.nt.sp.pos (by omega)
        have hnI2:(n:Int)<(ps2.length:Int):=by omega
        have hn72:=hA.n7
        have ids:=hA.ids
        have gbn:(s2.new (.cells .mut [.nils])).get jb=some (.cells .mut [pv2]):=by rw [St.get_new,if_neg (by omega)];exact gb2
        have hia:∀ s',iaLV 1 pv2 (.int .i64 (n:Int)) s'=some (.pref pid n,s'):=fun s'=>by rw [hpv,iaS hnI2];simp
        have hgp:loadLV none (.pref pid n) (s2.new (.cells .mut [.nils]))=some (.int .i64 (p:Int)):=by
          have:(s2.new (.cells .mut [.nils])).get pid=some (.cells .mut (nints ps2)):=by rw [St.get_new,if_neg (by omega)];exact hpg
          simp only [loadLV,this,mkVal]
          simp [nints,hp2]
        clear hpv ids
        repeat' (first | refine gA (And.intro @hia @hgp) ?_ | (refine gB (And.intro @hia @hgp) ?_;intro bb hbb;cases bb<;>(try simp only [hbs,if_false,reduceCtorEq] at hbb)) | apply qc_seq | fail)
        · exfalso;omega
        refine q_call wN (fv:=.fn (.func 38) [] [.pimm [.int .i64 B.L,sv,nv] 0]) (vs:=[.int .i64 (p:Int), .int .i64 (a:Int)]) ef (by simp only [List.map,lk,sv1,sv2,sv3,Nat.reduceEqDiff,Nat.reduceAdd,Nat.reduceLeDiff,reduceIte,if_false,if_true,mkVal,unLV,List.map,optTmps]) (CallOk.mono (tmoves_ok hBv p a _) fun r s3 hh=>⟨trivial,?_⟩)
        obtain ⟨rfl,rfl⟩:=hh
        simp only [Env.put_some]
        repeat' (first | refine gA trivial ?_ | (refine gB trivial ?_;intro bb hbb;cases bb<;>(try simp only [hbs,if_false,reduceCtorEq] at hbb)) | apply qc_seq | fail)
        obtain ⟨jl,hjl⟩:∃ jl,s2.n=jl:=⟨_,rfl⟩
        rw [hjl]
        have hA3:=hA.keep (s2:=s2.new (.cells .mut [.nils])) (by simp) (fun id hid=>by
          rw [St.get_new,if_neg]
          rcases hid with hid | hid
          · omega
          · have:=hA.nt.sp.lt hid;omega)
        have hF3:Fr1 s2 (s2.new (.cells .mut [.nils])) ja jb M pv2 pv2:=(Fr1.refl s2 ja jb M pv2).young (by simp) (fun id hid=>by rw [St.get_new,if_neg (by omega)])
        have gl3:(s2.new (.cells .mut [.nils])).get jl=some (.cells .mut [.nils]):=by rw [St.get_new,if_pos hjl.symm]
        have hn3':(s2.new (.cells .mut [.nils])).n=jl+1:=by rw [St.n_new,hjl]
        have hp2lt:∀ id,uses pv2 id→id<jl:=fun id hu=>by have:=hA.nt.sp.lt hu;omega
        have hjl7:s.n+7≤jl:=by have:=hA.n7;omega
        generalize s2.new (.cells .mut [.nils])=s3 at hA3 hF3 gl3 hn3' ⊢
        have hms:∀ (k:Nat) (m:Int × Bool),(rowM B p a)[k]? = some m→∃ q:Nat,m.1=(q:Int)∧(succA B p a)[k]? = some q:=fun k m hm=>by
          obtain ⟨h1,h2⟩:=List.getElem?_eq_some_iff.1 hm
          have hrow:=hok.2.2.2.2 p hpN
          have ha':a<(B.next.getD p []).length:=by have:=hrow.1;omega
          have:=(hrow.2 a ha' k h1).1
          have hg:((B.next.getD p []).getD a []).getD k (0,false)=m:=by
            have hm':((B.next.getD p []).getD a [])[k]? = some m:=hm
            rw [List.getD_eq_getElem?_getD,hm'];rfl
          rw [hg] at this
          refine ⟨m.1.toNat,by omega,?_⟩
          have hm':((B.next.getD p []).getD a [])[k]? = some m:=hm
          simp only [succA,List.getElem?_map,hm',Option.map_some]
        have hpre4:∀ k,Pre (addsN ps2 ((succA B p a).take k)) (trimR B):=fun k=>by
          have h1:=hpreS (a+1) (by omega)
          rw [List.range_succ,List.flatMap_append,addsN_append,← hps2] at h1
          refine Pre.trans ?_ h1
          have:(List.flatMap (succA B p) [a])=(succA B p a).take k++(succA B p a).drop k:=by simp
          rw [this,addsN_append]
          exact addsN_pre _ _
        refine trange_ok hBv hok hpN haL ef (fun k s4=>∃ (ps4:List Nat) (pv4 lv:LV),AI s s4 B.L r8 r9 M ja jb jc jd pv4 stv nxv ps4∧Fr1 s2 s4 ja jb M pv2 pv4∧(∀ id,uses pv4 id→uses pv2 id∨jl+1<id)∧ps4=addsN ps2 ((succA B p a).take k)∧s4.get jl=some (.cells .mut [lv])∧SkC s4 lv 2 (mcells ((renM (trimR B) (rowM B p a)).take k)) k∧(∀ id,uses lv id→jl+1<id∧¬ uses pv4 id)∧(k=0→lv = .nils)) ?_ ?_ ?_ ?_
        · exact ⟨ps2,pv2, .nils,hA3,hF3,fun id hu=>.inl hu,by simp [addsN],gl3,SkC.nil _ _,fun id hu=>absurd hu (uses_nils id),fun _=>rfl⟩
        · rintro k s4 s5 ⟨ps4,pv4,lv,h1,h2,h3,h4,h5,h6,h7,h7'⟩ h8 h9 h10
          rw [hn3'] at h8 h10
          have hk:∀ id,id<s4.n→id≠jl+1→s5.get id=s4.get id:=h10
          refine ⟨ps4,pv4,lv,h1.keep h9 fun id hid=>?_,h2.young h9 fun id hid=>hk id (by omega) (by omega),h3,h4,by rw [hk _ (by omega) (by omega)];exact h5,h6.mono h9 fun id hu=>hk id (h6.lt hu) (by have:=(h7 id hu).1;omega),h7,h7'⟩
          rcases hid with hid | hid
          · exact hk id (by omega) (by omega)
          · exact hk id (h1.nt.sp.lt hid) (by rcases h3 id hid with h | h<;>(try have:=hp2lt id h)<;>omega)
        · rintro k m s4 b1 b2 hmk ⟨ps4,pv4,lv,h1,h2,h3,h4,h5,h6,h7,h7'⟩ hn4 hrec nt'
          rw [hn3'] at hn4 hrec ⊢
          obtain ⟨q,hq,hsq⟩:=hms k m hmk
          obtain ⟨mt,mg⟩:=m
          obtain rfl:mt=(q:Int):=hq
          repeat' (first | refine gA trivial ?_ | (refine gB trivial ?_;intro bb hbb;cases bb<;>(try simp only [hbs,if_false,reduceCtorEq] at hbb)) | apply qc_seq | fail)
          refine ⟨hrec,?_⟩
          have ids:=h1.ids
          have hn47:=h1.n7
          have hk4:∀ id,id≠jl+1→(s4.put (jl+1) b2).get id=s4.get id:=fun id h=>by rw [St.get_put,if_neg h]
          have hnu4:∀ id,uses pv4 id→id≠jl+1:=fun id hu=>by rcases h3 id hu with h | h<;>(try have:=hp2lt id h)<;>omega
          have g1:=h1.keep (s2:=s4.put (jl+1) b2) (Nat.le_refl _) fun id hid=>hk4 id (by
            rcases hid with hid | hid
            · omega
            · exact hnu4 id hid)
          have g2:Fr1 s2 (s4.put (jl+1) b2) ja jb M pv2 pv4:=h2.young (Nat.le_refl _) fun id hid=>hk4 id (by omega)
          have g5:(s4.put (jl+1) b2).get jl=some (.cells .mut [lv]):=by rw [hk4 _ (by omega)];exact h5
          have g6:SkC (s4.put (jl+1) b2) lv 2 (mcells ((renM (trimR B) (rowM B p a)).take k)) k:=h6.mono (Nat.le_refl _) fun id hu=>hk4 id (by have:=(h7 id hu).1;omega)
          have gr:(s4.put (jl+1) b2).get (jl+1)=some b2:=by rw [St.get_put,if_pos rfl]
          have gn:(s4.put (jl+1) b2).n=s4.n:=rfl
          generalize s4.put (jl+1) b2=s5 at g1 g2 g5 g6 gr gn ⊢
          clear h1 h2 h5 h6 hk4 hrec ids
          have gc5:=g1.gc
          have hsz:=hpre4 k
          rw [← h4] at hsz
          have hpl4:=ai_len hok hsz
          repeat' (first | refine gA trivial ?_ | (refine gB trivial ?_;intro bb hbb;cases bb<;>(try simp only [hbs,if_false,reduceCtorEq] at hbb)) | apply qc_seq | fail)
          have htk:addsN ps2 ((succA B p a).take (k+1))=addN ps4 q:=by
            have:(succA B p a).take (k+1)=(succA B p a).take k++[q]:=by rw [List.take_add_one,hsq];rfl
            rw [this,addsN_snoc,← h4]
          have htk2:mcells ((renM (trimR B) (rowM B p a)).take (k+1))=mcells ((renM (trimR B) (rowM B p a)).take k)++[.int .i64 (numN (trimR B) q:Int), .bool mg]:=by
            have h0:(renM (trimR B) (rowM B p a))[k]? = some ((numN (trimR B) q:Int),mg):=by
              simp only [renM,List.getElem?_map,hmk,Option.map_some,Int.toNat_natCast]
            rw [List.take_add_one,h0]
            simp [mcells_append,mcells]
          have hpre5:=hpre4 (k+1)
          rw [htk] at hpre5
          have hnum:numN (addN ps4 q) q=numN (trimR B) q:=(numN_pre hpre5 (addN_mem _ _)).symm
          have hpl5:=ai_len hok hpre5
          refine q_call wN (fv:=.fn (.func 78) [] [.pref ja 0, .pref jb 0]) (vs:=[.int .i64 (q:Int)]) ef (by simp only [List.map,lk,sv1,sv2,sv3,Nat.reduceEqDiff,Nat.reduceAdd,Nat.reduceLeDiff,reduceIte,if_false,if_true,mkVal,unLV,List.map,optTmps]) (CallOk.mono (anum_ok g1 (by omega) q) fun r s6 hh=>?_)
          obtain ⟨pv6,rfl,k1,kn,ku,kg⟩:=hh
          rw [hnum]
          have ids:=g1.ids
          have hjlu:∀ id,id=jl∨id=jl+1→¬ uses pv4 id:=fun id hid hu=>by rcases h3 id hu with h | h<;>(try have:=hp2lt id h)<;>omega
          have gl6:s6.get jl=some (.cells .mut [lv]):=by rw [kg jl (by omega) (by omega) (by omega) (by omega) (hjlu _ (.inl rfl))];exact g5
          have gr6:s6.get (jl+1)=some b2:=by rw [kg (jl+1) (by omega) (by omega) (by omega) (by omega) (hjlu _ (.inr rfl))];exact gr
          have gS6:=g6.mono kn fun id hu=>kg id (g6.lt hu) (by have:=(h7 id hu).1;omega) (by have:=(h7 id hu).1;omega) (by have:=(h7 id hu).1;omega) (h7 id hu).2
          have gc6:=k1.gc
          have gb6:=k1.nt.gb
          have hpl6:=k1.nt.sp.len
          have hlv6:∀ id,uses lv id→jl+1<id∧id<s6.n∧¬ uses pv6 id:=fun id hu=>⟨(h7 id hu).1,gS6.lt hu,fun hu'=>by
            rcases ku id hu' with h | h
            · exact (h7 id hu).2 h
            · have:=g6.lt hu;omega⟩
          have hk6:k≤1000000:=by
            have h0:=(List.getElem?_eq_some_iff.1 hmk).1
            have hrow:=hok.2.2.2.2 p hpN
            have ha':a<(B.next.getD p []).length:=by have:=hrow.1;omega
            have hm0:=mok_len' (hrow.2 a ha')
            have:(rowM B p a).length≤6000:=by show ((B.next.getD p []).getD a []).length≤6000;omega
            omega
          generalize numN (trimR B) q=w at *
          have hs67:s.n+7≤s6.n:=k1.n7
          have hnd:∀ id,id<jl+2→(s6.new (.cells .mut [.int .i64 (w:Int), .bool mg])).get id=s6.get id:=fun id hid=>by rw [St.get_new,if_neg (by omega)]
          have fl6:(s6.new (.cells .mut [.int .i64 (w:Int), .bool mg])).get jl=some (.cells .mut [lv]):=by rw [hnd _ (by omega)];exact gl6
          have fc6:(s6.new (.cells .mut [.int .i64 (w:Int), .bool mg])).get jc=some (.cells .mut [.fn (.func 78) [] [.pref ja 0, .pref jb 0]]):=by rw [hnd _ (by omega)];exact gc6
          clear ids hnd
          refine ⟨⟨.inr ⟨rfl,by simp only [LOp.run,lk,sv1,sv2,sv3,Nat.reduceEqDiff,Nat.reduceAdd,Nat.reduceLeDiff,reduceIte,if_false,if_true,mkVal,unLV,List.map,optTmps,Env.put_some,gl6,Option.bind_eq_bind]⟩,trivial⟩,?_⟩
          simp only [Env.put_some]
          refine q_gen (v:=.agg [.int .i64 (w:Int), .bool mg]) (s':=s6) wN (by simp only [LOp.run,lk,sv1,sv2,sv3,Nat.reduceEqDiff,Nat.reduceAdd,Nat.reduceLeDiff,reduceIte,if_false,if_true,mkVal,unLV,List.map,optTmps,evParts,fillParts];rfl) rfl trivial ?_
          simp only [Env.put_some]
          refine q_appK (n:=k) (esz:=2) (xv:=.agg [.int .i64 (w:Int), .bool mg]) (yv:=lv) (vs:=[.int .i64 (w:Int), .bool mg]) ef rfl rfl rfl rfl ef gS6 ⟨.inr ⟨rfl,by simp only [LOp.run,lk,sv1,sv2,sv3,Nat.reduceEqDiff,Nat.reduceAdd,Nat.reduceLeDiff,reduceIte,if_false,if_true,mkVal,unLV,List.map,optTmps,fl6,Option.bind_eq_bind]⟩, .inr ⟨rfl,by simp only [LOp.run,lk,sv1,sv2,sv3,Nat.reduceEqDiff,Nat.reduceAdd,Nat.reduceLeDiff,reduceIte,if_false,if_true,mkVal,unLV,List.map,optTmps,e12,fc6,Option.bind_eq_bind]⟩,trivial⟩ (by decide) (by omega) (fun s7 j7 a1 a2 a3 a4=>?_)
          have ids:=k1.ids
          have h5n:jl+2≤s5.n:=by omega
          have gl7:s7.get jl=some (.cells .mut [lv]):=by rw [a4 jl (by omega) fun hu=>by have:=(hlv6 jl hu).1;omega];exact gl6
          have hk8:∀ id,id<s6.n→id≠jl→¬ uses lv id→(s7.put jl (.cells .mut [.sref j7 0 (k+1) 2])).get id=s6.get id:=fun id c1 c2 c3=>by rw [St.get_put,if_neg c2,a4 id c1 c3]
          have gb8:(s7.put jl (.cells .mut [.sref j7 0 (k+1) 2])).get jb=some (.cells .mut [pv6]):=by rw [hk8 _ (by omega) (by omega) fun hu=>by have:=(hlv6 jb hu).1;omega];exact gb6
          have hj7:j7<s7.n:=a2.lt (uses_sref.2 rfl)
          have h6j:∀ id,uses pv6 id→id≠jl:=fun id hu e=>by
            subst e
            rcases ku _ hu with h | h
            · exact hjlu _ (.inl rfl) h
            · omega
          have hA8:=k1.keep (s2:=s7.put jl (.cells .mut [.sref j7 0 (k+1) 2])) a3 fun id hid=>by
            rcases hid with hid | hid
            · exact hk8 id (by omega) (by omega) fun hu=>by have:=(hlv6 id hu).1;omega
            · exact hk8 id (k1.nt.sp.lt hid) (h6j id hid) fun hu=>(hlv6 id hu).2.2 hid
          have hF8:Fr1 s2 (s7.put jl (.cells .mut [.sref j7 0 (k+1) 2])) ja jb M pv2 pv6:=(g2.trans ⟨kn,ku,kg⟩).young a3 fun id hid=>hk8 id (by omega) (by omega) fun hu=>by have:=(hlv6 id hu).1;omega
          have gr8:(s7.put jl (.cells .mut [.sref j7 0 (k+1) 2])).get (jl+1)=some b2:=by rw [hk8 _ (by omega) (by omega) fun hu=>by have:=(hlv6 _ hu).1;omega];exact gr6
          have gS8:SkC (s7.put jl (.cells .mut [.sref j7 0 (k+1) 2])) (.sref j7 0 (k+1) 2) 2 (mcells ((renM (trimR B) (rowM B p a)).take (k+1))) (k+1):=by
            rw [htk2]
            exact a2.mono (Nat.le_refl _) fun id hu=>by
              obtain rfl:=uses_sref.1 hu
              rw [St.get_put,if_neg (by omega)]
          have hpI:((addN ps4 q).length:Int)≤3000:=by omega
          have hu8:∀ id,uses pv6 id→uses pv2 id∨jl+1<id:=fun id hu=>by
            rcases ku id hu with h | h
            · exact h3 id h
            · exact .inr (by omega)
          have hl8:∀ id,uses (.sref j7 0 (k+1) 2) id→jl+1<id∧¬ uses pv6 id:=fun id hu=>by
            obtain rfl:=uses_sref.1 hu
            exact ⟨by omega,fun hu'=>by have:=k1.nt.sp.lt hu';omega⟩
          have gl8:(s7.put jl (.cells .mut [.sref j7 0 (k+1) 2])).get jl=some (.cells .mut [.sref j7 0 (k+1) 2]):=by rw [St.get_put,if_pos rfl]
          have hn8:s4.n≤(s7.put jl (.cells .mut [.sref j7 0 (k+1) 2])).n:=by rw [St.n_put];omega
          clear ids
          repeat' (first | refine gA @hpl6 ?_ | (refine gB @hpl6 ?_;intro bb hbb;cases bb<;>(try simp only [hbs,if_false,reduceCtorEq] at hbb)) | apply qc_seq | fail)
          · exact ⟨gr8,hn8,trivial,addN ps4 q,pv6, .sref j7 0 (k+1) 2,hA8,hF8,hu8,htk.symm,gl8,gS8,hl8,(by intro h;first | exact h.elim | cases h)⟩
          · exfalso;omega
        · -- the list is sorted
          rintro s4 ⟨ps4,pv4,lv,h1,h2,h3,h4,h5,h6,h7,h7'⟩ hn4
          rw [hn3'] at hn4
          have hfl:(renM (trimR B) (rowM B p a)).take (rowM B p a).length=renM (trimR B) (rowM B p a):=by
            have:(rowM B p a).length=(renM (trimR B) (rowM B p a)).length:=by simp [renM]
            rw [this,List.take_length]
          have hfs:(succA B p a).take (rowM B p a).length=succA B p a:=by
            have:(rowM B p a).length=(succA B p a).length:=by simp [succA,rowM]
            rw [this,List.take_length]
          rw [hfl] at h6
          rw [hfs] at h4
          have hrow:=hok.2.2.2.2 p hpN
          have ha':a<(B.next.getD p []).length:=by have:=hrow.1;omega
          have hmo:MOK B.next.length (rowM B p a):=hrow.2 a ha'
          have hml6:=mok_len' hmo
          have hinR:∀ x∈rowM B p a,x.1.toNat∈trimR B:=fun x hx=>by
            have hpm:p∈trimR B:=hpre.mem (List.mem_of_getElem? hp)
            refine (trim_ok hok).2.2 p hpm _ (List.mem_flatMap.2 ⟨a,by simpa using hal,?_⟩)
            exact List.mem_map.2 ⟨x,hx,rfl⟩
          have hnd:=renM_nodup (B:=B) hmo hinR
          have hinI:∀ x∈renM (trimR B) (rowM B p a),inI64 x.1:=fun x hx=>by
            obtain ⟨y,hy,rfl⟩:=List.mem_map.1 hx
            have h0:=numN_lt (hinR y hy)
            have h8:=ai_len hok (Pre.refl (trimR B))
            constructor<;>(show _≤_)<;>simp only<;>omega
          have hrl:(renM (trimR B) (rowM B p a)).length=(rowM B p a).length:=by simp [renM]
          generalize hren:renM (trimR B) (rowM B p a)=rl at *
          have hjrl:jr<jl:=by omega
          have hjr7:s.n+7≤jr:=by omega
          have grc4:s4.get jr=some (.cells .mut rc):=by
            have ids:=h1.ids
            rw [h2.g jr (by omega) (by omega) (by omega) (by omega) hupr];exact grc
          have pack:∀ (v:LV) (msf:Moves) (Ua:Nat→Prop) (s6:St),s4.n≤s6.n→(∀ id,id<s4.n→¬ uses lv id→s6.get id=s4.get id)→FZ Ua (fun v'=>IsMoves v' msf) 39 v s6→(∀ id,Ua id→uses lv id)→msf.Perm rl→(∀ i j,i<j→j<msf.length→¬ mlt (msf.getD j (0,false)) (msf.getD i (0,false))) →
              ∃ (row':List Moves) (U':Nat→Nat→Prop),AI s (s6.put jr (.cells .mut (rc.set a v))) B.L r8 r9 M ja jb jc jd pv4 stv nxv ps4∧Fr1 s1 (s6.put jr (.cells .mut (rc.set a v))) ja jb M pv pv4∧jr<(s6.put jr (.cells .mut (rc.set a v))).n∧(s6.put jr (.cells .mut (rc.set a v))).get jr=some (.cells .mut (rc.set a v))∧(rc.set a v).length=B.L.toNat∧row'.length=a+1∧(∀ k,a+1≤k→k<B.L.toNat→(rc.set a v).getD k .top = .nils)∧¬ uses pv4 jr∧(∀ k,k<a+1→FZ (U' k) (fun v'=>IsMoves v' (row'.getD k [])) 39 ((rc.set a v).getD k .top) (s6.put jr (.cells .mut (rc.set a v))))∧(∀ k k' id,k<a+1→k'<a+1→k≠k'→U' k id→¬ U' k' id)∧(∀ k id,k<a+1→U' k id→jr<id∧id<(s6.put jr (.cells .mut (rc.set a v))).n∧¬ uses pv4 id)∧RowT B p row' (a+1):=by
            intro v msf Ua s6 q1 q2 q3 q4 q5 q6
            have ids:=h1.ids
            have hup4:∀ id,uses pv4 id→id≠jr:=fun id hu e=>by
              subst e
              rcases h3 _ hu with h | h
              · exact hupr h
              · omega
            have hlvj:∀ id,uses lv id→jl+1<id∧id<s4.n∧¬ uses pv4 id:=fun id hu=>⟨(h7 id hu).1,h6.lt hu,(h7 id hu).2⟩
            have hk7:∀ id,id<s4.n→id≠jr→¬ uses lv id→(s6.put jr (.cells .mut (rc.set a v))).get id=s4.get id:=fun id c1 c2 c3=>by rw [St.get_put,if_neg c2];exact q2 id c1 c3
            have hral:a<rc.length:=by omega
            refine ⟨row++[msf],fun k=>if k=a then Ua else U k,?_,?_,by rw [St.n_put];omega,by rw [St.get_put,if_pos rfl],by simp [hrcl],by simp [hrowl],fun k c1 c2=>?_,fun hu=>hup4 _ hu rfl,fun k hk=>?_,fun k k' id hk hk' hne hu=>?_,fun k id hk hu=>?_,fun k hk=>?_⟩
            · exact h1.keep (by rw [St.n_put];exact q1) fun id hid=>by
                rcases hid with hid | hid
                · exact hk7 id (by omega) (by omega) fun hu=>by have:=(hlvj id hu).1;omega
                · exact hk7 id (h1.nt.sp.lt hid) (hup4 id hid) fun hu=>(hlvj id hu).2.2 hid
            · exact (hF.trans h2).young (by rw [St.n_put];exact q1) fun id hid=>hk7 id (by omega) (by omega) fun hu=>by have:=(hlvj id hu).1;omega
            · rw [getD_set' hral,if_neg (by omega)]
              exact hnil k (by omega) c2
            · by_cases he:k=a
              · subst he
                rw [getD_set' hral,if_pos rfl]
                have e1:(row++[msf]).getD k []=msf:=by
                  rw [List.getD_eq_getElem?_getD,List.getElem?_append_right (by omega),hrowl,Nat.sub_self];rfl
                simp only [if_true]
                rw [e1]
                exact q3.stable fun id hid=>by rw [St.get_put,if_neg];have:=(hlvj id (q4 id hid)).1;omega
              · rw [getD_set' hral,if_neg he]
                have e1:(row++[msf]).getD k []=row.getD k []:=by
                  rw [List.getD_eq_getElem?_getD,List.getElem?_append_left (by omega),← List.getD_eq_getElem?_getD]
                simp only [if_neg he]
                rw [e1]
                refine (hFZ k (by omega)).stable fun id hid=>?_
                obtain ⟨c1,c2,c3⟩:=hU2 k id (by omega) hid
                rw [hk7 id (by omega) (by omega) fun hu=>by have:=(hlvj id hu).1;omega]
                exact h2.g id c2 (by omega) (by omega) (by omega) c3
            · simp only at hu ⊢
              by_cases he:k=a
              · rw [if_pos he] at hu
                rw [if_neg (by omega)]
                intro hu'
                have:=(hU2 k' id (by omega) hu').2.1
                have:=(hlvj id (q4 id hu)).1
                omega
              · rw [if_neg he] at hu
                by_cases he':k'=a
                · rw [if_pos he']
                  intro hu'
                  have:=(hU2 k id (by omega) hu).2.1
                  have:=(hlvj id (q4 id hu')).1
                  omega
                · rw [if_neg he']
                  exact hU1 k k' id (by omega) (by omega) hne hu
            · simp only at hu
              by_cases he:k=a
              · rw [if_pos he] at hu
                obtain ⟨c1,c2,c3⟩:=hlvj id (q4 id hu)
                exact ⟨by omega,by rw [St.n_put];omega,c3⟩
              · rw [if_neg he] at hu
                obtain ⟨c1,c2,c3⟩:=hU2 k id (by omega) hu
                refine ⟨c1,by rw [St.n_put];omega,fun hu'=>?_⟩
                rcases h2.u id hu' with h | h
                · exact c3 h
                · omega
            · by_cases he:k=a
              · subst he
                have e1:(row++[msf]).getD k []=msf:=by
                  rw [List.getD_eq_getElem?_getD,List.getElem?_append_right (by omega),hrowl,Nat.sub_self];rfl
                rw [e1,hren]
                exact ⟨q5,q6⟩
              · have e1:(row++[msf]).getD k []=row.getD k []:=by
                  rw [List.getD_eq_getElem?_getD,List.getElem?_append_left (by omega),← List.getD_eq_getElem?_getD]
                rw [e1]
                exact hRT k (by omega)
          have hps3:ps4=addsN ps ((List.range (a+1)).flatMap (succA B p)):=by
            rw [h4,List.range_succ,List.flatMap_append,addsN_append,← hps2]
            simp
          have hia2:∀ s',iaLV 1 (.sref jr 0 B.L.toNat 1) (.int .i64 (a:Int)) s'=some (.pref jr a,s'):=fun s'=>by rw [iaS haI];simp
          by_cases hK0:(rowM B p a).length=0
          · have hlvn:=h7' hK0
            subst hlvn
            have hrl0:rl=[]:=List.length_eq_zero_iff.1 (by omega)
            obtain ⟨row',U',P1,P2,P3,P4,P5,P6,P7,P8,P9,P10,P11,P12⟩:=pack .nils [] (fun _=>False) s4 (Nat.le_refl _) (fun _ _ _=>rfl) (fz_nomoves 38 s4) (fun id h=>h.elim) (by rw [hrl0]) (fun i j hij hj=>absurd hj (Nat.not_lt_zero _))
            clear pack
            repeat' (first | refine gA trivial ?_ | (refine gB trivial ?_;intro bb hbb;cases bb<;>(try simp only [hbs,if_false,reduceCtorEq] at hbb)) | apply qc_seq | fail)
            refine q_pure hG0 tsort_nil wN (by simp only [List.map,lk,sv1,sv2,sv3,Nat.reduceEqDiff,Nat.reduceAdd,Nat.reduceLeDiff,reduceIte,if_false,if_true,mkVal,unLV,List.map,optTmps]) trivial ?_
            simp only [Env.put_some]
            repeat' (first | refine gA trivial ?_ | (refine gB trivial ?_;intro bb hbb;cases bb<;>(try simp only [hbs,if_false,reduceCtorEq] at hbb)) | apply qc_seq | fail)
            refine q_pure hG0 tcomp_nil wN (by simp only [List.map,lk,sv1,sv2,sv3,Nat.reduceEqDiff,Nat.reduceAdd,Nat.reduceLeDiff,reduceIte,if_false,if_true,mkVal,unLV,List.map,optTmps]) trivial ?_
            simp only [Env.put_some]
            repeat' (first | refine gA @hia2 ?_ | (refine gB @hia2 ?_;intro bb hbb;cases bb<;>(try simp only [hbs,if_false,reduceCtorEq] at hbb)) | apply qc_seq | fail)
            refine q_storeG (i:=jr) (o:=a) (n:=1) (cs:=rc) (vs:=[.nils]) (cs':=rc.set a .nils) (v:=.nils) ef ef rfl grc4 rfl (by rw [hrcl];omega) rfl ?_
            repeat' (first | refine gA trivial ?_ | (refine gB trivial ?_;intro bb hbb;cases bb<;>(try simp only [hbs,if_false,reduceCtorEq] at hbb)) | apply qc_seq | fail)
            refine ⟨B.L.toNat - (a+1),by omega,a+1,ps4,pv4,rc.set a .nils,row',U',rfl,by omega,hps3,P1,P2,P3,P4,P5,P6,P7,P8,P9,P10,P11,P12,?_⟩
            simp only [lk,sv1,sv2,sv3,Nat.reduceEqDiff,Nat.reduceAdd,Nat.reduceLeDiff,reduceIte,if_false,if_true,mkVal,unLV,List.map,optTmps,hwa,e0,e3,e6,e8,e9,e11,e12,e13,e16,e17,e55,and_self]
          · rw [← hrl] at h6
            obtain ⟨j,rfl,hj,hg⟩:=h6.pos (by omega)
            have hju:=h7 j (uses_sref.2 rfl)
            have ids:=h1.ids
            have hrl1:1≤rl.length:=by omega
            have hrl6:rl.length≤6000:=by omega
            clear hrl
            have hcS:=tsort_ok (ms:=rl) hg (by omega) (by omega)
            have pk:=fun (ms':Moves) (hp:ms'.Perm rl) (hso:∀ x y,x<y→y<ms'.length→¬ mlt (ms'.getD y (0,false)) (ms'.getD x (0,false)))=>pack (.sref j 0 rl.length 2) ms' (fun id=>id=j) (s4.put j (.cells .mut (mcells ms'))) (Nat.le_refl _) (fun id _ hnu=>by rw [St.get_put,if_neg fun e=>hnu (uses_sref.2 e)]) (by
              have hl':=hp.length_eq
              rw [← hl']
              exact fz_moves 37 (by rw [St.get_put,if_pos rfl]) (by omega) fun x hx=>hinI x (hp.mem_iff.1 hx)) (fun id h=>uses_sref.2 h) hp hso
            clear pack ids
            repeat' (first | refine gA trivial ?_ | (refine gB trivial ?_;intro bb hbb;cases bb<;>(try simp only [hbs,if_false,reduceCtorEq] at hbb)) | apply qc_seq | fail)
            refine q_call wN (fv:=.fn (.func 75) [] []) (vs:=[.sref j 0 rl.length 2, .fn (.func 34) [] []]) ef (by simp only [List.map,lk,sv1,sv2,sv3,Nat.reduceEqDiff,Nat.reduceAdd,Nat.reduceLeDiff,reduceIte,if_false,if_true,mkVal,unLV,List.map,optTmps]) (CallOk.mono hcS fun r s5 hh=>⟨trivial,?_⟩)
            obtain ⟨ms',hperm,hsort,rfl⟩:=hh
            obtain ⟨row',U',P1,P2,P3,P4,P5,P6,P7,P8,P9,P10,P11,P12⟩:=pk ms' hperm hsort
            have hl':=hperm.length_eq
            have hnd':ms'.Nodup:=hperm.symm.nodup hnd
            have hcC:=tcomp_ok (ms:=ms') (s:=s4.put j (.cells .mut (mcells ms'))) (j:=j) (m:=.mut) (by rw [St.get_put,if_pos rfl]) (by omega) (fun k hk0 hk he=>by
              have e1:ms'.getD k (0,false)=ms'[k]:=by simp [List.getD_eq_getElem?_getD,hk]
              have e2:ms'.getD (k - 1) (0,false)=ms'[k - 1]:=by simp [List.getD_eq_getElem?_getD,show k - 1<ms'.length by omega]
              rw [e1,e2] at he
              have:=(List.pairwise_iff_getElem.1 (List.nodup_iff_pairwise_ne.1 hnd')) (k - 1) k (by omega) hk (by omega)
              exact this he.symm)
            rw [hl'] at hcC
            have gl5:(s4.put j (.cells .mut (mcells ms'))).get jl=some (.cells .mut [.sref j 0 rl.length 2]):=by rw [St.get_put,if_neg (by omega)];exact h5
            have gr5:(s4.put j (.cells .mut (mcells ms'))).get jr=some (.cells .mut rc):=by rw [St.get_put,if_neg (by omega)];exact grc4
            clear pk hcS hju hnd' hsort hperm
            generalize s4.put j (.cells .mut (mcells ms'))=s5 at *
            simp only [Env.put_some]
            repeat' (first | refine gA trivial ?_ | (refine gB trivial ?_;intro bb hbb;cases bb<;>(try simp only [hbs,if_false,reduceCtorEq] at hbb)) | apply qc_seq | fail)
            refine q_call wN (fv:=.fn (.func 76) [] []) (vs:=[.sref j 0 rl.length 2]) ef (by simp only [List.map,lk,sv1,sv2,sv3,Nat.reduceEqDiff,Nat.reduceAdd,Nat.reduceLeDiff,reduceIte,if_false,if_true,mkVal,unLV,List.map,optTmps]) (CallOk.mono hcC fun r s6 hh=>⟨trivial,?_⟩)
            obtain ⟨rfl,rfl⟩:=hh
            simp only [Env.put_some]
            repeat' (first | refine gA @hia2 ?_ | (refine gB @hia2 ?_;intro bb hbb;cases bb<;>(try simp only [hbs,if_false,reduceCtorEq] at hbb)) | apply qc_seq | fail)
            refine q_storeG (i:=jr) (o:=a) (n:=1) (cs:=rc) (vs:=[.sref j 0 rl.length 2]) (cs':=rc.set a (.sref j 0 rl.length 2)) (v:=.sref j 0 rl.length 2) ef ef rfl gr5 rfl (by rw [hrcl];omega) rfl ?_
            repeat' (first | refine gA trivial ?_ | (refine gB trivial ?_;intro bb hbb;cases bb<;>(try simp only [hbs,if_false,reduceCtorEq] at hbb)) | apply qc_seq | fail)
            refine ⟨B.L.toNat - (a+1),by omega,a+1,ps4,pv4,rc.set a (.sref j 0 rl.length 2),row',U',rfl,by omega,hps3,P1,P2,P3,P4,P5,P6,P7,P8,P9,P10,P11,P12,?_⟩
            simp only [lk,sv1,sv2,sv3,Nat.reduceEqDiff,Nat.reduceAdd,Nat.reduceLeDiff,reduceIte,if_false,if_true,mkVal,unLV,List.map,optTmps,hwa,e0,e3,e6,e8,e9,e11,e12,e13,e16,e17,e55,and_self]
      · -- the row is done
        obtain rfl:a=B.L.toNat:=by omega
        have hR2:=hR.next hA hF
        obtain ⟨rvs,nxs,w1,w2,w3,w4,w5,w8⟩:=hR2.rows
        have wss:=hR2.ss
        have wds:=hR2.ds
        have hn72:=hA.n7
        have hn7':s.n+7≤jr:=by have:=hR.ai.n7;omega
        have hFr:=fz_row (row:=row) 39 grc (by omega) (by omega) (T:=U) (fun i hi=>hFZ i (by omega)) (fun i k id hi hk=>hU1 i k id (by omega) (by omega)) (fun i hi hu=>by have:=(hU2 i jr (by omega) hu).1;omega)
        rw [hrowl] at hFr
        have hTT:∀ id,(id=jr∨∃ i,i<B.L.toNat∧U i id)→jr≤id∧id<s2.n∧¬ uses pv2 id:=by
          rintro id (rfl | ⟨i,hi,hu⟩)
          · exact ⟨Nat.le_refl _,hjr2,hupr⟩
          · obtain ⟨c1,c2,c3⟩:=hU2 i id hi hu
            exact ⟨by omega,c2,c3⟩
        have hTn:∀ id,(id=jr∨∃ i,i<B.L.toNat∧U i id)→¬ uses nxv id∧¬ uses stv id:=fun id hid=>by
          have h1:=(hTT id hid).1
          obtain ⟨_,_,_,_,v3,_⟩:=hR.rows
          exact ⟨fun hu=>by have:=v3.lt hu;omega,fun hu=>by have:=hR.ss.lt hu;omega⟩
        have hnx:n+1≤ps2.length:=by
          obtain ⟨tl,htl⟩:Pre ps ps2:=by rw [hps2];exact addsN_pre _ _
          rw [htl,List.length_append];omega
        have hrn:runN (succT B) (B.next.length+1 - (n+1)) (n+1) ps2=trimR B:=by
          rw [hps2,hrun',show B.next.length+1 - (n+1)=B.next.length - n by omega]
          rfl
        have hrw:(row.length:Int)=B.L∧RowT B ((trimR B).getD n 0) row B.L.toNat:=⟨by omega,by rw [hpT];exact hRT⟩
        have gd2:=hA.gd
        have hmid:∀ (s':St) (j:Nat) (v':LV),s2.n≤j→IsRowM v' row→SkC s' (.sref j 0 (n+1) 1) 1 (rvs++[v']) (n+1)→s2.n≤s'.n→(∀ id,id<s2.n→¬ uses nxv id→¬ (id=jr∨∃ i,i<B.L.toNat∧U i id)→s'.get id=s2.get id)→AR B s (s'.put jd (.cells .mut [.int .i64 B.L,stv, .sref j 0 (n+1) 1])) r8 r9 M ja jb jc jd pv2 stv (.sref j 0 (n+1) 1) ps2 (n+1):=fun s' j v' a1 a2 a3 a4 a5=>
          AR.row hA wss wds w1 w2 w4 w5 w8 (T:=fun id=>id=jr∨∃ i,i<B.L.toNat∧U i id) (fun id hid=>⟨by have:=(hTT id hid).1;omega,(hTT id hid).2.2,(hTn id hid).2⟩) a2 a1 a3 a4 a5 hrw
        have hgd5:∀ (s':St),(∀ id,id<s2.n→¬ uses nxv id→¬ (id=jr∨∃ i,i<B.L.toNat∧U i id)→s'.get id=s2.get id)→s'.get jd=some (.cells .mut [.int .i64 B.L,stv,nxv]):=fun s' hk=>by
          obtain ⟨i1,i2,i3,i4,i5,i6,i7⟩:=hA.ids
          rw [hk jd (by omega) (fun hu=>by have:=(w4 _ hu).1;omega) fun hu=>by have:=(hTT _ hu).1;omega]
          exact gd2
        have hTb:∀ id,(id=jr∨∃ i,i<B.L.toNat∧U i id)→id<s2.n∧¬ uses nxv id:=fun id hid=>⟨(hTT id hid).2.1,(hTn id hid).1⟩
        clear hR2 wss wds w4 w5 w8 w1 w2 hTT hTn hU1 hU2 hFZ hRT hnil hupr hrw hrun' hpreS hps2 hR hF hA grc
        repeat' (first | refine gA trivial ?_ | (refine gB trivial ?_;intro bb hbb;cases bb<;>(try simp only [hbs,if_false,reduceCtorEq] at hbb)) | apply qc_seq | fail)
        refine q_appF (n:=n) (xv:=.sref jr 0 B.L.toNat 1) (yv:=nxv) ef rfl ef w3 hFr hTb (by decide) (by omega) (fun s5 j5 v5 a1 a2 a3 a4 a5=>?_)
        have hAR:=hmid s5 j5 v5 a1 a2 a3 a4 a5
        have gd5:=hgd5 s5 a5
        clear hmid hgd5 hTb hFr w3 gd2 a2 a3 a5
        repeat' (first | refine gA trivial ?_ | (refine gB trivial ?_;intro bb hbb;cases bb<;>(try simp only [hbs,if_false,reduceCtorEq] at hbb)) | apply qc_seq | fail)
        refine ⟨B.next.length+1 - (n+1),by omega,n+1,ps2,pv2,stv, .sref j5 0 (n+1) 1,rfl,hnx,hrn,hAR,?_⟩
        simp only [lk,sv1,sv2,sv3,Nat.reduceEqDiff,Nat.reduceAdd,Nat.reduceLeDiff,reduceIte,if_false,if_true,mkVal,unLV,List.map,optTmps,hw,e0,e3,e6,e8,e9,e11,e12,e13,e16,and_self]
        · exfalso;omega
    · -- all rows are done
      obtain rfl:n=ps.length:=by omega
      have hps:ps=trimR B:=by
        rw [← hrun]
        cases B.next.length+1 - ps.length with
        | zero=>rfl
        | succ f=>simp [runN]
      subst hps
      obtain ⟨C,hTR,f1,f2,f3,f4⟩:=hR.fin hok rfl
      have gd:=hR.ai.gd
      have g8:=hR.ai.g8
      have g9:=hR.ai.g9
      have n7:=hR.ai.n7
      have old:=hR.ai.old
      have hai:=hR.ai
      have hcs:isCell stv=true:=skc_cell hR.ss
      have hcn:isCell nxv=true:=by
        obtain ⟨_,_,_,_,h3,_⟩:=hR.rows
        exact skc_cell h3
      have g9':(s1.put r8 (.cells .mut [.int .i64 B.L,stv,nxv])).get r9=some (.cells .mut [.int .i64 0]):=by
        have:=hai.ids
        rw [St.get_put,if_neg (by omega)];exact g9
      clear hR hrun hpre
      repeat' (first | refine gA @hpl0 ?_ | (refine gB @hpl0 ?_;intro bb hbb;cases bb<;>(try simp only [hbs,if_false,reduceCtorEq] at hbb)) | apply qc_seq | fail)
      · have ids:=hai.ids
        have hk:∀ id,id≠r8→id≠r9→((s1.put r8 (.cells .mut [.int .i64 B.L,stv,nxv])).put r9 (.cells .mut [.int .i64 0])).get id=s1.get id:=fun id c1 c2=>by rw [St.get_put,if_neg c2,St.get_put,if_neg c1]
        refine ⟨.inr trivial,r8,r9,stv,nxv,C,uses stv,uses nxv,ef,ef,by rw [St.get_put,if_neg (by omega),St.get_put,if_pos rfl],by rw [St.get_put,if_pos rfl],hTR,f1.stable fun id hid=>?_,f2.stable fun id hid=>?_,f3,fun id hid=>by have:=f4 id hid;simp only [St.n_put];omega,⟨hcs,hcn⟩,by simp only [St.n_put];omega,fun id hid=>by rw [hk id (by omega) (by omega)];exact old id hid⟩
        · have:=f4 id (.inl hid)
          exact hk id (by omega) (by omega)
        · have:=f4 id (.inr hid)
          exact hk id (by omega) (by omega)
      · exfalso;omega
end Go.Proofs.YtgobbogomchnhaaGreatDoor
end
section
set_option linter.unusedSimpArgs false
set_option linter.unusedVariables false
namespace Go.Proofs.YtgobbogomchnhaaGreatDoor
open Go Go.Pv
open Classical
theorem frz_aut {s:St} {stv nxv:LV} {C:Bu} {T1 T2:Nat→Prop} (f1:FZ T1 (fun v'=>IsInts v' C.start) 39 stv s) (f2:FZ T2 (fun v'=>IsNext v' C.next) 39 nxv s) (hd:∀ id,T1 id→¬ T2 id) :
  ∃ r s' sv nv,frz frzDepth (.agg [.int .i64 C.L,stv,nxv]) s=some (r,s')∧IsB r C sv nv:=by
 obtain ⟨v1,s1,a1,a2,a3,a4⟩:=f1 s fun _ _=>rfl
 obtain ⟨v2,s2,b1,b2,b3,b4⟩:=f2 s1 fun id hid=>a4 id fun h=>hd id h hid
 by_cases hc:(LV.agg [.int .i64 C.L,stv,nxv]).closed=true
 ·have hc':stv.closed=true∧nxv.closed=true:=by simpa [LV.closed,LV.closed.closedAll] using hc
  rw [frz_closed hc'.1] at a1
  rw [frz_closed hc'.2] at b1
  cases a1
  cases b1
  exact ⟨_,s,stv,nxv,frz_closed hc,rfl,a2,b2⟩
 ·have hc0:(LV.agg [.int .i64 C.L,stv,nxv]).closed=false:=by simpa using hc
  refine ⟨.agg [.int .i64 C.L,v1,v2],s2,v1,v2,?_,rfl,a2,b2⟩
  have hb:frz 39 (.int .i64 C.L) s=some (.int .i64 C.L,s):=frz_closed rfl
  show frz (39+1) _ s=_
  unfold frz
  rw [hc0]
  simp only [Bool.false_eq_true,if_false,frz.frzAll,hb,a1,b1,Option.bind_eq_bind,Option.bind_some]
set_option maxHeartbeats 16000000 in
theorem ttrim_ok {v:LV} {B:Bu} {sv nv:LV} (hB:IsB v B sv nv) :
  PE 14 [v] (fun r=>(¬ Vb B∧r = .agg [.int .i64 0, .nils, .nils])∨(Vb B∧∃ C sv' nv',IsB r C sv' nv'∧TrimR B C)):=by
 have hvc:=hB.closed
 have hB0:=hB
 have hbv:=bvalid_ok hB
 have hau:=fun (hok:Vb B) (s:St)=>tauto_ok hB hok (s:=s)
 obtain ⟨rfl,hst',vs,hn⟩:=hB
 have hc1:=hst'.sl.cell
 have hc2:=hn.sl.cell
 refine q_fnExR Tryz.func14 (by decide +kernel) c14 (Nat.le_of_ble_eq_true rfl) (by simp [LV.closed.closedAll,hvc]) ?_
 have e0:(envOf [LV.agg [.int .i64 B.L,sv,nv]]).at 0 = .agg [.int .i64 B.L,sv,nv]:=by rw [envOf_at];rfl
 generalize envOf [LV.agg [.int .i64 B.L,sv,nv]]=e at *
 unfold l14
 dsimp only [jA,jG,qN,qF,qO,qG,qm,ql]
 repeat' (first | refine gA trivial ?_ | (refine gB trivial ?_;intro bb hbb;cases bb<;>(try simp only [hbs,if_false,reduceCtorEq] at hbb)) | apply qc_seq | fail)
 refine q_pureB hG0 (hbv) (by first | exact wN | (apply wG;(simp only [lk,Nat.reduceEqDiff,reduceIte,e0];(try rfl);done))) (by simp only [List.map,lk,Nat.reduceEqDiff,reduceIte,e0];try rfl) (fun bb hbb=>⟨by first | trivial | (simp only [Chks,wantedG,LOp.run,Env.put_some,Env.put_none,lk,sv1,sv2,sv3,Nat.reduceEqDiff,Nat.reduceAdd,Nat.reduceLeDiff,reduceIte,if_false,if_true,mkVal,unLV,List.map,optTmps,beq_self_eq_true,reduceCtorEq,false_or,true_and,and_true,Option.some.injEq, *];done),?_⟩)
 simp only [Env.put_some]
 cases bb<;>simp only [decide_eq_true_eq,decide_eq_false_iff_not] at hbb
 ·repeat' (first | refine gA trivial ?_ | (refine gB trivial ?_;intro bb hbb;cases bb<;>(try simp only [hbs,if_false,reduceCtorEq] at hbb)) | apply qc_seq | fail)
  refine q_gen (v:=.agg [.int .i64 0, .nils, .nils]) wN (by simp only [LOp.run,lk,sv1,sv2,sv3,Nat.reduceEqDiff,Nat.reduceAdd,Nat.reduceLeDiff,reduceIte,if_false,if_true,mkVal,unLV,List.map,optTmps,evParts,fillParts];rfl) rfl trivial ?_
  simp only [Env.put_some]
  repeat' (first | refine gA trivial ?_ | (refine gB trivial ?_;intro bb hbb;cases bb<;>(try simp only [hbs,if_false,reduceCtorEq] at hbb)) | apply qc_seq | fail)
  refine ⟨.inr trivial, .agg [.int .i64 0, .nils, .nils],by simp [resVal,resOne,mkVal,lk,St.get_put,n_empty], .agg [.int .i64 0, .nils, .nils],_,frz_closed rfl,rfl, .inl ⟨hbb,rfl⟩⟩
 have hok:=hbb
 repeat' (first | refine gA trivial ?_ | (refine gB trivial ?_;intro bb hbb;cases bb<;>(try simp only [hbs,if_false,reduceCtorEq] at hbb)) | apply qc_seq | fail)
 refine q_call wN (fv:=.fn (.func 40) [] []) (vs:=[.int .i64 B.L,sv, .int .i64 3000, .fn (.func 38) [] [.pimm [.int .i64 B.L,sv,nv] 0]]) ef (by simp only [List.map,lk,sv1,sv2,sv3,Nat.reduceEqDiff,Nat.reduceAdd,Nat.reduceLeDiff,reduceIte,if_false,if_true,mkVal,unLV,List.map,optTmps]) (CallOk.mono (hau hok _) fun r s3 hh=>⟨trivial,?_⟩)
 obtain ⟨stv,nxv,C,T1,T2,rfl,hTR,f1,f2,f3,f4,⟨f5,f6⟩,f7,f8⟩:=hh
 have g2:s3.get 0=some (.cells .mut [.int .i64 0, .nils, .nils]):=by rw [f8 _ (by simp only [St.n_put,St.n_new,n_empty];omega)];rfl
 simp only [Env.put_some]
 clear f8
 obtain ⟨j4,hj4⟩:∃ j4,s3.n=j4:=⟨_,rfl⟩
 have hj0:¬ (0:Nat)=j4:=by have:=f7;simp only [St.n_put,St.n_new,n_empty] at this;omega
 have h1n:(St.empty.new (.cells .mut [.int .i64 0, .nils, .nils])).n=1:=rfl
 have fin:∀ S:St,(∀ id,T1 id∨T2 id→S.get id=s3.get id)→∃ r s',frz frzDepth (.agg [.int .i64 B.L,stv,nxv]) S=some (r,s')∧r.closed=true∧((¬ Vb B∧r = .agg [.int .i64 0, .nils, .nils])∨(Vb B∧∃ C sv' nv',IsB r C sv' nv'∧TrimR B C)):=fun S hS=>by
  obtain ⟨r,s',sv',nv',a1,a2⟩:=frz_aut (f1.stable (s':=S) fun id hid=>hS id (.inl hid)) (f2.stable (s':=S) fun id hid=>hS id (.inr hid)) f3
  rw [hTR.L] at a1
  exact ⟨r,s',a1,a2.closed, .inr ⟨hok,C,sv',nv',a2,hTR⟩⟩
 have fb:∀ id,T1 id∨T2 id→id≠j4∧id≠0:=fun id hid=>by
  have:=f4 id hid
  rw [h1n] at this
  omega
 clear f7 hau
 repeat' (first | refine gA trivial ?_ | (refine gB trivial ?_;intro bb hbb;cases bb<;>(try simp only [hbs,if_false,reduceCtorEq] at hbb)) | apply qc_seq | fail)
 refine ⟨.inr trivial, .agg [.int .i64 B.L,stv,nxv],by simp [resVal,resOne,mkVal,lk,St.get_put],fin _ fun id hid=>?_⟩
 rw [St.get_put,if_neg (fb id hid).2,St.get_put,if_neg (fb id hid).1,St.get_new,hj4,if_neg (fb id hid).1]
end Go.Proofs.YtgobbogomchnhaaGreatDoor
end
