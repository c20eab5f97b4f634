/- buchi.automaton at the moves of both. -/
import Derived.Test.YtmblpcidfjemhaaDoorPnum
import Derived.Test.YtmblpcidfjemhaaDoorPplain
import Derived.Test.YtmblpcidfjemhaaDoorTsort
set_option linter.unusedSimpArgs false
set_option linter.unusedVariables false
namespace Go.Proofs.YtmblpcidfjemhaaDoor
open Go Go.Pv
open Classical
structure Hd (p:Prop):Prop where
  out:p
def stP (A B:Bu):List Nat:=A.start.flatMap fun x=>B.start.map fun y=>pcode B.next.length x.toNat y.toNat 0
def grB (A B:Bu):Grf:=⟨A.L,stP A B,A.next.length*B.next.length*2,fun p a=>mvX A B (p / 2 / B.next.length) (p / 2 % B.next.length) (p % 2) a⟩
theorem loadN_pairs {m:Nat} {l:List Nat} {k p:Nat} (h:l[k]? = some p) {s:St} : loadLV (some 3) (.pimm (tcells3 m l) (k*3)) s=some (.agg [.int .i64 (px m p), .int .i64 (py m p), .int .i64 (pt p)]):=by
  have h1:=tcells3_take (m:=m) h
  have h2:k*3+3≤(tcells3 m l).length:=by have:=(List.getElem?_eq_some_iff.1 h).1;rw [tcells3_length];omega
  simp only [loadLV,mkVal]
  rw [if_pos h2,h1]
theorem fz_movesR {s:St} {j:Nat} {m:Md} {ms:Moves} {rest:List LV} (n:Nat) (hg:s.get j=some (.cells m (mcells ms++rest))) (hc:LV.closed.closedAll rest=true) (hl:ms.length≤1048576) (hr:∀ x∈ms,inI64 x.1):FZ (fun id=>id=j) (fun v'=>IsMoves v' ms) (n+2) (.sref j 0 ms.length 2) s:=by
  intro s1 h1
  have hg1:s1.get j=some (.cells m (mcells ms++rest)):=by rw [h1 j rfl];exact hg
  have hmx:maxLen=9223372036854775807:=by decide
  have hca:LV.closed.closedAll (mcells ms++rest)=true:=by
    have:∀ (a b:List LV),LV.closed.closedAll a=true→LV.closed.closedAll b=true→LV.closed.closedAll (a++b)=true:=by
      intro a
      induction a with
      | nil=>intro b _ h;exact h
      | cons x a ih=>
        intro b h k
        simp only [LV.closed.closedAll,Bool.and_eq_true,List.cons_append] at h ⊢
        exact ⟨h.1,ih b h.2 k⟩
    exact this _ _ (mcells_closed ms) hc
  have hln:ms.length*2≤(mcells ms++rest).length:=by rw [List.length_append,mcells_length];omega
  refine ⟨.simm (mcells ms) ms.length,s1.put j (.cells (if m = .mut then .app else m) (mcells ms++rest)),?_,⟨.simm _ _,by omega,hr⟩,rfl,fun id hid=>by rw [St.get_put,if_neg hid]⟩
  unfold frz
  simp only [LV.closed,Bool.false_eq_true,if_false,hg1,Nat.zero_add,hln,if_true,frzAll_closed hca,Option.bind_eq_bind,Option.bind_some,List.drop_zero]
  rw [List.take_append_of_le_length (by rw [mcells_length];omega),List.take_of_length_le (by rw [mcells_length];omega)]
theorem loadN_pairsR {m:Nat} {l:List Nat} {k p j:Nat} (h:l[k]? = some p) {s:St} {md:Md} (hs:s.get j=some (.cells md (tcells3 m l))):loadLV (some 3) (.pref j (k*3)) s=some (.agg [.int .i64 (px m p), .int .i64 (py m p), .int .i64 (pt p)]):=by
  have h1:=tcells3_take (m:=m) h
  have h2:k*3+3≤(tcells3 m l).length:=by have:=(List.getElem?_eq_some_iff.1 h).1;rw [tcells3_length];omega
  simp only [loadLV,hs,mkVal]
  rw [if_pos h2,h1]
structure PI (m:Nat) (s s1:St) (L:Int) (r8 r9 M ja jb jc jd:Nat) (pv stv nxv:LV) (ps:List Nat):Prop where
  ids:r8=s.n∧r9=s.n+1∧M=s.n+2∧ja=s.n+3∧jb=s.n+4∧jc=s.n+5∧jd=s.n+6
  nt:NP m s.n (fun _=>False) s1 s1 ja jb M pv ps
  n7:s.n+7≤s1.n
  g8:s1.get r8=some (.cells .mut [.int .i64 0, .nils, .nils])
  g9:s1.get r9=some (.cells .mut [.int .i64 0])
  gc:s1.get jc=some (.cells .mut [.fn (.func 61) [] [.pref ja 0, .pref jb 0]])
  gd:s1.get jd=some (.cells .mut [.int .i64 L,stv,nxv])
  low:∀ id,uses pv id→s.n+7≤id
  old:∀ id,id<s.n→s1.get id=s.get id
theorem PI.keep {m:Nat} {s s1 s2:St} {L:Int} {r8 r9 M ja jb jc jd:Nat} {pv stv nxv:LV} {ps:List Nat} (h:PI m s s1 L r8 r9 M ja jb jc jd pv stv nxv ps) (hn:s1.n≤s2.n) (hs:∀ id,id<s.n+7∨uses pv id→s2.get id=s1.get id):PI m s s2 L r8 r9 M ja jb jc jd pv stv nxv ps:=by
  obtain ⟨i1,i2,i3,i4,i5,i6,i7⟩:=h.ids
  have n7:=h.n7
  have N:=h.nt
  refine ⟨h.ids,⟨by have:=N.le;omega,N.a0,by have:=N.a1;omega,N.b0,by have:=N.b1;omega,N.m0,by have:=N.m1;omega,N.ab,N.ma,N.mb,by rw [hs _ (.inl (by omega))];exact N.ga,by rw [hs _ (.inl (by omega))];exact N.gb,by rw [hs _ (.inl (by omega))];exact N.gM,N.sp.mono hn fun id hu=>hs id (.inr hu),N.dp,fun id hk=>hk.elim,fun id hk=>hk.elim⟩,by omega,
    by rw [hs _ (.inl (by omega))];exact h.g8,by rw [hs _ (.inl (by omega))];exact h.g9,by rw [hs _ (.inl (by omega))];exact h.gc,by rw [hs _ (.inl (by omega))];exact h.gd,h.low,fun id hid=>by rw [hs _ (.inl (by omega))];exact h.old id hid⟩
theorem pan_ok {m:Nat} {s s1:St} {L:Int} {r8 r9 M ja jb jc jd:Nat} {pv stv nxv:LV} {ps:List Nat} (h:PI m s s1 L r8 r9 M ja jb jc jd pv stv nxv ps) (hl:ps.length≤1000000) (p:Nat) :
    CallOk Tryd.prog GL (.fn (.func 61) [] [.pref ja 0, .pref jb 0]) [.agg [.int .i64 (px m p), .int .i64 (py m p), .int .i64 (pt p)]] s1 (fun r s2=>∃ pv',r = .int .i64 (numN (addN ps p) p:Int)∧PI m s s2 L r8 r9 M ja jb jc jd pv' stv nxv (addN ps p)∧s1.n≤s2.n∧(∀ id,uses pv' id→uses pv id∨s1.n≤id)∧∀ id,id<s1.n→id≠ja→id≠jb→id≠M→¬ uses pv id→s2.get id=s1.get id):=by
  obtain ⟨i1,i2,i3,i4,i5,i6,i7⟩:=h.ids
  have n7:=h.n7
  refine CallOk.mono (pnum_call h.nt hl p) fun r s2 hh=>?_
  obtain ⟨pv',h1,h2,h3,h4,h5⟩:=hh
  have hk:∀ id,id<s.n+7→id≠ja→id≠jb→id≠M→s2.get id=s1.get id:=fun id a b c d=>h5 id (by omega) b c d fun hu=>by have:=h.low id hu;omega
  refine ⟨pv',h1,⟨h.ids,h2,by omega,by rw [hk _ (by omega) (by omega) (by omega) (by omega)];exact h.g8,by rw [hk _ (by omega) (by omega) (by omega) (by omega)];exact h.g9,by rw [hk _ (by omega) (by omega) (by omega) (by omega)];exact h.gc,by rw [hk _ (by omega) (by omega) (by omega) (by omega)];exact h.gd,fun id hu=>?_,fun id hid=>?_⟩,h3,h4,h5⟩
  · rcases h4 id hu with h6 | h6
    · exact h.low id h6
    · omega
  · rw [hk _ (by omega) (by omega) (by omega) (by omega)];exact h.old id hid
def RowP (g:Grf) (p:Nat) (row:List Moves) (a:Nat):Prop:=∀ k,k<a→(∀ x,x∈row.getD k []↔x∈g.ren (g.mv p k))∧SSt (row.getD k [])
structure PR (m:Nat) (g:Grf) (s s1:St) (r8 r9 M ja jb jc jd:Nat) (pv stv nxv:LV) (ps:List Nat) (n:Nat):Prop where
  ai:PI m s s1 g.L r8 r9 M ja jb jc jd pv stv nxv ps
  ss:SkC s1 stv 1 (ints (g.st.map fun z=>(numN g.R z:Int))) g.st.length
  ds:∀ id,uses stv id→s.n+7≤id∧¬ uses pv id
  rows:∃ (rvs:List LV) (nxs:List (List Moves)),rvs.length=n∧nxs.length=n∧SkC s1 nxv 1 rvs n∧(∀ id,uses nxv id→s.n+7≤id∧¬ uses pv id∧¬ uses stv id) ∧
    (∀ i,i<n→IsRowM (rvs.getD i .top) (nxs.getD i []))∧∀ i,i<n→((nxs.getD i []).length:Int)=g.L∧RowP g (g.R.getD i 0) (nxs.getD i []) g.L.toNat
theorem PR.next {m:Nat} {g:Grf} {s s1 s2:St} {r8 r9 M ja jb jc jd:Nat} {pv pv' stv nxv:LV} {ps ps':List Nat} {n:Nat} (h:PR m g s s1 r8 r9 M ja jb jc jd pv stv nxv ps n) (hA:PI m s s2 g.L r8 r9 M ja jb jc jd pv' stv nxv ps') (hF:Fr1 s1 s2 ja jb M pv pv'):PR m g s s2 r8 r9 M ja jb jc jd pv' stv nxv ps' n:=by
  obtain ⟨rvs,nxs,h1,h2,h3,h4,h5,h8⟩:=h.rows
  obtain ⟨i1,i2,i3,i4,i5,i6,i7⟩:=h.ai.ids
  have hup:∀ id,id<s1.n→¬ uses pv id→¬ uses pv' id:=fun id hid hn hu=>by
    rcases hF.u id hu with h | h
    · exact hn h
    · omega
  have hk:∀ id,s.n+7≤id→id<s1.n→¬ uses pv id→s2.get id=s1.get id:=fun id a b c=>hF.g id b (by omega) (by omega) (by omega) c
  exact ⟨hA,h.ss.mono hF.n fun id hu=>hk id (h.ds id hu).1 (h.ss.lt hu) (h.ds id hu).2,fun id hu=>⟨(h.ds id hu).1,hup id (h.ss.lt hu) (h.ds id hu).2⟩,rvs,nxs,h1,h2,h3.mono hF.n fun id hu=>hk id (h4 id hu).1 (h3.lt hu) (h4 id hu).2.1,fun id hu=>⟨(h4 id hu).1,hup id (h3.lt hu) (h4 id hu).2.1,(h4 id hu).2.2⟩,h5,h8⟩
theorem PR.row {m:Nat} {g:Grf} {s s2 s':St} {r8 r9 M ja jb jc jd j:Nat} {pv stv nxv v':LV} {ps:List Nat} {n:Nat} {rvs:List LV} {nxs:List (List Moves)} {row:List Moves} {T:Nat→Prop} (hA:PI m s s2 g.L r8 r9 M ja jb jc jd pv stv nxv ps) (ss:SkC s2 stv 1 (ints (g.st.map fun z=>(numN g.R z:Int))) g.st.length) (ds:∀ id,uses stv id→s.n+7≤id∧¬ uses pv id)
    (h1:rvs.length=n) (h2:nxs.length=n) (h4:∀ id,uses nxv id→s.n+7≤id∧¬ uses pv id∧¬ uses stv id) (h5:∀ i,i<n→IsRowM (rvs.getD i .top) (nxs.getD i [])) (h8:∀ i,i<n→((nxs.getD i []).length:Int)=g.L∧RowP g (g.R.getD i 0) (nxs.getD i []) g.L.toNat)
    (hT:∀ id,T id→s.n+7≤id∧¬ uses pv id∧¬ uses stv id) (hv:IsRowM v' row) (hj:s2.n≤j) (hS:SkC s' (.sref j 0 (n+1) 1) 1 (rvs++[v']) (n+1)) (hn:s2.n≤s'.n) (hk:∀ id,id<s2.n→¬ uses nxv id→¬ T id→s'.get id=s2.get id) (hrow:(row.length:Int)=g.L∧RowP g (g.R.getD n 0) row g.L.toNat) :
    PR m g s (s'.put jd (.cells .mut [.int .i64 g.L,stv, .sref j 0 (n+1) 1])) r8 r9 M ja jb jc jd pv stv (.sref j 0 (n+1) 1) ps (n+1):=by
  obtain ⟨i1,i2,i3,i4,i5,i6,i7⟩:=hA.ids
  have n7:=hA.n7
  have hyoung:∀ id,id<s.n+7→s'.get id=s2.get id:=fun id hid=>hk id (by omega) (fun hu=>by have:=(h4 id hu).1;omega) fun ht=>by have:=(hT id ht).1;omega
  have hK:=hA.keep (s2:=s') hn fun id hid=>by
    rcases hid with hid | hid
    · exact hyoung id hid
    · exact hk id (hA.nt.sp.lt hid) (fun hu=>(h4 id hu).2.1 hid) fun ht=>(hT id ht).2.1 hid
  have N:=hK.nt
  have hpvd:¬ uses pv jd:=fun hu=>by have:=hA.low jd hu;omega
  refine ⟨⟨hK.ids,⟨N.le,N.a0,N.a1,N.b0,N.b1,N.m0,N.m1,N.ab,N.ma,N.mb,by rw [St.get_put,if_neg (by omega)];exact N.ga,by rw [St.get_put,if_neg (by omega)];exact N.gb,by rw [St.get_put,if_neg (by omega)];exact N.gM,N.sp.mono (Nat.le_refl _) fun id hu=>by rw [St.get_put,if_neg (by rintro rfl;exact hpvd hu)],N.dp,fun id h=>h.elim,fun id h=>h.elim⟩,hK.n7,by rw [St.get_put,if_neg (by omega)];exact hK.g8,by rw [St.get_put,if_neg (by omega)];exact hK.g9,by rw [St.get_put,if_neg (by omega)];exact hK.gc,by rw [St.get_put,if_pos rfl],hK.low,fun id hid=>by rw [St.get_put,if_neg (by omega)];exact hK.old id hid⟩,?_,ds,rvs++[v'],nxs++[row],by simp [h1],by simp [h2],?_,?_,?_,?_⟩
  · exact ss.mono (by rw [St.n_put];exact hn) fun id hu=>by
      rw [St.get_put,if_neg (by have:=(ds id hu).1;omega)]
      exact hk id (ss.lt hu) (fun hu'=>(h4 id hu').2.2 hu) fun ht=>(hT id ht).2.2 hu
  · exact hS.mono (Nat.le_refl _) fun id hu=>by
      obtain rfl:=uses_sref.1 hu
      rw [St.get_put,if_neg (by omega)]
  · intro id hu
    obtain rfl:=uses_sref.1 hu
    exact ⟨by omega,fun hu'=>by have:=hA.nt.sp.lt hu';omega,fun hu'=>by have:=ss.lt hu';omega⟩
  · intro i hi
    by_cases he:i=n
    · subst he
      rw [List.getD_eq_getElem?_getD,List.getElem?_append_right (by omega),h1,Nat.sub_self,List.getD_eq_getElem?_getD,List.getElem?_append_right (by omega),h2,Nat.sub_self]
      exact hv
    · rw [List.getD_eq_getElem?_getD,List.getElem?_append_left (by omega),← List.getD_eq_getElem?_getD,List.getD_eq_getElem?_getD (l:=nxs++[row]),List.getElem?_append_left (by omega),← List.getD_eq_getElem?_getD]
      exact h5 i (by omega)
  · intro i hi
    by_cases he:i=n
    · subst he
      rw [List.getD_eq_getElem?_getD,List.getElem?_append_right (by omega),h2,Nat.sub_self]
      exact hrow
    · rw [List.getD_eq_getElem?_getD,List.getElem?_append_left (by omega),← List.getD_eq_getElem?_getD]
      exact h8 i (by omega)
theorem PR.fin {m:Nat} {g:Grf} {most:Int} {s s1:St} {r8 r9 M ja jb jc jd:Nat} {pv stv nxv:LV} {n:Nat} (hok:GrfOk g most) (h:PR m g s s1 r8 r9 M ja jb jc jd pv stv nxv g.R n) (hn:n=g.R.length):∃ C:Bu,AutoR g C∧FZ (uses stv) (fun v'=>IsInts v' C.start) 38 stv s1∧FZ (uses nxv) (fun v'=>IsNext v' C.next) 38 nxv s1∧(∀ id,uses stv id→¬ uses nxv id)∧∀ id,uses stv id∨uses nxv id→s.n+7≤id∧id<s1.n:=by
  obtain ⟨rvs,nxs,h1,h2,h3,h4,h5,h8⟩:=h.rows
  have hmx:maxLen=9223372036854775807:=by decide
  have hlen:=gr_len hok (Pre.refl g.R)
  have hn3:(g.N:Int)≤3000:=Int.le_trans hok.N3 hok.m3
  have hsn:=hok.stl
  refine ⟨⟨g.L,g.st.map fun z=>(numN g.R z:Int),nxs⟩,⟨rfl,rfl,by rw [← hn];exact h2,fun i hi=>⟨(h8 i (by omega)).1,fun a ha=>(h8 i (by omega)).2 a (by have:=hok.L1;omega)⟩⟩,?_,?_,fun id hu hu'=>(h4 id hu').2.2 hu,fun id hu=>?_⟩
  · refine (fz_skc 36 h.ss (ints_cl' _)).mono fun v hv=>⟨by simpa using hv,by simp only [List.length_map];omega,fun x hx=>?_⟩
    obtain ⟨z,hz,rfl⟩:=List.mem_map.1 hx
    have hzm:z∈g.R:=st_in z hz
    have:=numN_lt hzm
    show inI64 ((numN g.R z:Nat):Int)
    unfold inI64
    constructor<;>omega
  · refine (fz_skc 36 h3 (closedAll_of fun i hi=>(h5 i (by omega)).closed)).mono fun v hv=>⟨rvs,by rw [h2];exact hv,by rw [h1,h2],by simp only [h2];omega,fun i hi=>h5 i (by simpa [h2] using hi)⟩
  · rcases hu with hu | hu
    · exact ⟨(h.ds id hu).1,h.ss.lt hu⟩
    · exact ⟨(h4 id hu).1,h3.lt hu⟩
end Go.Proofs.YtmblpcidfjemhaaDoor
