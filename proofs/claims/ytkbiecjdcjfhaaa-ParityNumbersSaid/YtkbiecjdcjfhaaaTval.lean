/- tree.valid. -/
import Derived.Test.YtkbiecjdcjfhaaaValid
import Derived.Test.YtkbiecjdcjfhaaaTbase
import Derived.Test.YtkbiecjdcjfhaaaPvRw
import Derived.Test.YtkbiecjdcjfhaaaTre
set_option linter.unusedSimpArgs false
set_option linter.unusedVariables false
namespace Go.Proofs.Ytkbiecjdcjfhaaa
open Go Go.Pv Go.Tre
open Classical
def trow (r:Int × Int × LV):List LV:=[.int .i64 r.1, .int .i64 r.2.1,r.2.2]
theorem trow_len (r:Int × Int × LV):(trow r).length=3:=rfl
structure IsNd (r:Int × Int × LV) (n:Nd):Prop where
  name:r.1=n.name
  par:r.2.1=n.par
  set:IsInts r.2.2 n.set
  nr:inI64 n.name
  pr:inI64 n.par
structure IsTr (v:LV) (t:List Nd) (rs:List (Int × Int × LV)):Prop where
  sl:Sl v (wcl trow rs) t.length
  len:rs.length=t.length
  lim:t.length≤3000
  nd:∀ i,i<t.length→IsNd (rs.getD i default) (t.getD i default)
theorem IsTr.closed {v:LV} {t:List Nd} {rs:List (Int × Int × LV)} (h:IsTr v t rs):v.closed=true:=by
  refine h.sl.closed (closedAll_of fun j hj=>?_)
  rw [wcl_length trow_len,h.len] at hj
  have hi:j / 3<t.length:=by omega
  have hn:=h.nd _ hi
  have hr:rs[j / 3]? = some (rs.getD (j / 3) default):=by
    have:j / 3<rs.length:=by rw [h.len];exact hi
    simp [List.getD_eq_getElem?_getD,this]
  have hg:=wcl_get trow_len hr (k:=j % 3) (by omega) []
  rw [List.append_nil,show j / 3*3+j % 3=j by omega] at hg
  rw [List.getD_eq_getElem?_getD,hg]
  have h3:j % 3=0∨j % 3=1∨j % 3=2:=by omega
  rcases h3 with e | e | e
  · rw [e];rfl
  · rw [e];rfl
  · rw [e];exact hn.set.closed
theorem IsTr.get {v:LV} {t:List Nd} {rs:List (Int × Int × LV)} (h:IsTr v t rs) {i:Nat} (hi:i<t.length) (s:St):loadLV (some 3) (.pimm (wcl trow rs) (i*3)) s=some (.agg [.int .i64 (t.getD i default).name, .int .i64 (t.getD i default).par,(rs.getD i default).2.2]):=by
  have hn:=h.nd i hi
  have hr:rs[i]? = some (rs.getD i default):=by
    have:i<rs.length:=by rw [h.len];exact hi
    simp [List.getD_eq_getElem?_getD,this]
  rw [loadN_rwi trow_len hr]
  unfold trow
  rw [hn.name,hn.par]
structure SetK (N:Nat) (d:List Nd) (n:Nd) (k:Nat):Prop where
  rng:∀ x∈n.set.take k,0≤x∧x<N
  inc:(n.set.take k).Pairwise (· < ·)
  sub:0<d.length→∀ x∈n.set.take k,x∈(d.getD n.par.toNat default).set∧x ∉ below d n.par
theorem SetK.zero (N:Nat) (d:List Nd) (n:Nd):SetK N d n 0:=⟨fun x hx=>by simp at hx,by simp,fun _ x hx=>by simp at hx⟩
theorem SetK.lt {N:Nat} {d:List Nd} {n:Nd} {k:Nat} {x:Int} (h:SetK N d n k) (hx:n.set[k]? = some x) (h2:0<k→∀ y,n.set[k - 1]? = some y→y<x):∀ z∈n.set.take k,z<x:=by
  intro a ha
  obtain ⟨i,hi,rfl⟩:=List.getElem_of_mem ha
  rw [List.length_take] at hi
  have hk:0<k:=by omega
  have hkl:k<n.set.length:=(List.getElem?_eq_some_iff.1 hx).1
  have hlast:n.set[k - 1]? = some n.set[k - 1]:=List.getElem?_eq_getElem (by omega)
  have h4:=h2 hk _ hlast
  rw [List.getElem_take]
  by_cases e:i=k - 1
  · subst e;exact h4
  · have h5:=List.pairwise_iff_getElem.1 h.inc i (k - 1) (by rw [List.length_take];omega) (by rw [List.length_take];omega) (by omega)
    rw [List.getElem_take,List.getElem_take] at h5
    omega
theorem SetK.succ {N:Nat} {d:List Nd} {n:Nd} {k:Nat} {x:Int} (h:SetK N d n k) (hx:n.set[k]? = some x) (h1:0≤x∧x<N) (h2:0<k→∀ y,n.set[k - 1]? = some y→y<x) (h3:0<d.length→x∈(d.getD n.par.toNat default).set∧x ∉ below d n.par):SetK N d n (k+1):=by
  have e:n.set.take (k+1)=n.set.take k++[x]:=by rw [List.take_add_one,hx];rfl
  refine ⟨fun y hy=>?_,?_,fun hd y hy=>?_⟩
  · rw [e,List.mem_append,List.mem_singleton] at hy
    rcases hy with hy | rfl
    · exact h.rng y hy
    · exact h1
  · rw [e,List.pairwise_append]
    refine ⟨h.inc,by simp,fun a ha b hb=>?_⟩
    rw [List.mem_singleton] at hb
    subst hb
    exact h.lt hx h2 a ha
  · rw [e,List.mem_append,List.mem_singleton] at hy
    rcases hy with hy | rfl
    · exact h.sub hd y hy
    · exact h3 hd
theorem ndOk_at {N:Nat} {d:List Nd} {n:Nd} {k:Nat} {x:Int} (h:NdOk N d n) (hx:n.set[k]? = some x):(0≤x∧x<N)∧(0<k→∀ y,n.set[k - 1]? = some y→y<x)∧(0<d.length→x∈(d.getD n.par.toNat default).set∧x ∉ below d n.par):=by
  have hm:=List.mem_of_getElem? hx
  refine ⟨h.rng x hm,fun hk y hy=>?_,fun hd=>h.sub hd x hm⟩
  obtain ⟨h1,rfl⟩:=List.getElem?_eq_some_iff.1 hx
  obtain ⟨h2,rfl⟩:=List.getElem?_eq_some_iff.1 hy
  exact List.pairwise_iff_getElem.1 h.inc (k - 1) k h2 h1 (by omega)
theorem Tr.ok {N:Nat} {t:List Nd} (h:Tr N t) {i:Nat} (hi:i<t.length):NdOk N (t.take i) (t.getD i default):=h.1 i hi
def mrefs (F:Nat→Nat) (i:Nat):Nat→LV:=fun j=>if j<i then .mref (F j) else .nilm
theorem mrefs_up {F:Nat→Nat} {i M:Nat} (j:Nat):mrefs (fun j=>if j=i then M else F j) (i+1) j=if j=i then .mref M else mrefs F i j:=by
  unfold mrefs
  by_cases e:j=i
  · subst e;simp
  · by_cases h:j<i
    · simp [e,h,show j<i+1 by omega]
    · simp [e,h,show ¬ j<i+1 by omega]
structure VS (s:St) (N:Nat) (t:List Nd) (i:Nat) (F H:Nat→Nat):Prop where
  sets:s.get 1=some (.cells .mut (vcells t.length (mrefs F i)))
  belw:s.get 2=some (.cells .mut (vcells t.length (mrefs H i)))
  names:MapS s 0 ((t.take i).map (·.name))
  mf:Mps s i F fun j=>(t.getD j default).set
  mh:Mps s i H fun j=>below (t.take i) (j:Int)
  ap:∀ j,j<i→∀ j',j'<i→F j≠H j'
  up:∀ j,j<i→2<F j∧2<H j
  n:3≤s.n
  ok:Ok N (t.take i)
theorem VS.mono {s s':St} {N:Nat} {t:List Nd} {i:Nat} {F H:Nat→Nat} (h:VS s N t i F H) (hn:s.n≤s'.n) (hg:∀ id,id<s.n→s'.get id=s.get id):VS s' N t i F H:=
  have h3:=h.n
  ⟨(hg 1 (by omega)).trans h.sets,(hg 2 (by omega)).trans h.belw,h.names.keep (hg 0 (by omega)),h.mf.keep hn fun j hj=>hg _ (h.mf.lt j hj),h.mh.keep hn fun j hj=>hg _ (h.mh.lt j hj),h.ap,h.up,by omega,h.ok⟩
theorem below_self {N:Nat} {t:List Nd} {i:Nat} (h:Ok N (t.take i)) (hi:i≤t.length):below (t.take i) (i:Int)=[]:=by
  unfold below
  have:((t.take i).filter fun n=>decide (n.par=(i:Int)))=[]:=by
    refine List.filter_eq_nil_iff.2 fun n hn=>?_
    obtain ⟨k,hk,rfl⟩:=List.getElem_of_mem hn
    have h1:=h k hk
    have e:(t.take i).getD k default=(t.take i)[k]:=by rw [List.getD_eq_getElem?_getD,List.getElem?_eq_getElem hk];rfl
    rw [e] at h1
    have hl:((t.take i).take k).length=k:=by rw [List.length_take];omega
    have hl2:(t.take i).length=i:=by rw [List.length_take];omega
    simp only [decide_eq_true_iff]
    rcases Nat.eq_zero_or_pos ((t.take i).take k).length with e | e
    · have:=h1.root e;omega
    · have:=(h1.par e).2;omega
  rw [this];rfl
structure VJ (s:St) (N:Nat) (t:List Nd) (i:Nat) (n:Nd) (sv:LV) (b kf kh:Nat) (F H:Nat→Nat):Prop where
  sets:s.get 1=some (.cells .mut (vcells t.length (mrefs F (i+1))))
  belw:s.get 2=some (.cells .mut (vcells t.length (mrefs H (i+1))))
  names:MapS s 0 ((t.take i).map (·.name)++[n.name])
  mf:Mps s (i+1) F fun j=>if j=i then n.set.take kf else (t.getD j default).set
  mh:Mps s (i+1) H fun j=>below (t.take i) (j:Int)++if n.par=(j:Int) then n.set.take kh else []
  ap:∀ j,j<i+1→∀ j',j'<i+1→F j≠H j'
  up:∀ j,j<i+1→(2<F j∧F j≠b)∧2<H j∧H j≠b
  n3:3≤b∧b<s.n
  blk:s.get b=some (.cells .mut [.int .i64 n.name, .int .i64 n.par,sv])
theorem VJ.sets_up {s s':St} {N:Nat} {t:List Nd} {i:Nat} {n:Nd} {sv:LV} {b k kh:Nat} {F H:Nat→Nat} {x:Int} (h:VJ s N t i n sv b k kh F H) (hx:n.set[k]? = some x) (hn:s'.n=s.n) (hm:MapS s' (F i) (n.set.take k++[x])) (hs:∀ id,id≠F i→s'.get id=s.get id):VJ s' N t i n sv b (k+1) kh F H:=by
  have e:n.set.take (k+1)=n.set.take k++[x]:=by rw [List.take_add_one,hx];rfl
  have hu:=h.up i (by omega)
  have h3:=h.n3
  exact ⟨(hs 1 (by omega)).trans h.sets,(hs 2 (by omega)).trans h.belw,h.names.keep (hs 0 (by omega)),h.mf.up (by omega) hn (by simp only [if_true];rw [e];exact hm) hs fun j _ hj=>by simp only [if_neg hj],h.mh.keep (by omega) fun j hj=>hs _ (h.ap i (by omega) j hj).symm,h.ap,h.up,by omega,(hs b (by omega)).trans h.blk⟩
theorem VJ.below_up {s s':St} {N:Nat} {t:List Nd} {i q:Nat} {n:Nd} {sv:LV} {b k kf:Nat} {F H:Nat→Nat} {x:Int} (h:VJ s N t i n sv b kf k F H) (hq:n.par=(q:Int)) (hqi:q<i) (hx:n.set[k]? = some x) (hn:s'.n=s.n) (hm:MapS s' (H q) (below (t.take i) (q:Int)++n.set.take k++[x])) (hs:∀ id,id≠H q→s'.get id=s.get id):VJ s' N t i n sv b kf (k+1) F H:=by
  have e:n.set.take (k+1)=n.set.take k++[x]:=by rw [List.take_add_one,hx];rfl
  have hu:=h.up q (by omega)
  have h3:=h.n3
  exact ⟨(hs 1 (by omega)).trans h.sets,(hs 2 (by omega)).trans h.belw,h.names.keep (hs 0 (by omega)),h.mf.keep (by omega) fun j hj=>hs _ (h.ap j hj q (by omega)),h.mh.up (j:=q) (by omega) hn (by simp only [hq,if_true];rw [e,← List.append_assoc];exact hm) hs fun j _ hj=>by
    have:¬ n.par=(j:Int):=by omega
    simp only [if_neg this],h.ap,h.up,by omega,(hs b (by omega)).trans h.blk⟩
theorem VJ.root {s:St} {N:Nat} {t:List Nd} {i:Nat} {n:Nd} {sv:LV} {b k kf k':Nat} {F H:Nat→Nat} (h:VJ s N t i n sv b kf k F H) (hq:n.par = -1):VJ s N t i n sv b kf k' F H:=
  ⟨h.sets,h.belw,h.names,h.mf,h.mh.ext fun j _ x=>by
    have:¬ n.par=(j:Int):=by omega
    simp only [if_neg this],h.ap,h.up,h.n3,h.blk⟩
theorem VJ.done {s:St} {N:Nat} {t:List Nd} {i:Nat} {sv:LV} {b:Nat} {F H:Nat→Nat} (hi:i<t.length) (h:VJ s N t i (t.getD i default) sv b (t.getD i default).set.length (t.getD i default).set.length F H) (hok:Ok N (t.take (i+1))):VS s N t (i+1) F H:=by
  have htk:=take_one t default hi
  have h3:=h.n3
  refine ⟨h.sets,h.belw,?_,h.mf.ext fun j _ x=>?_,h.mh.ext fun j _ x=>?_,h.ap,fun j hj=>⟨(h.up j hj).1.1,(h.up j hj).2.1⟩,by omega,hok⟩
  · rw [htk,List.map_append];exact h.names
  · by_cases e:j=i
    · subst e;simp only [if_true,List.take_length]
    · simp only [if_neg e]
  · rw [htk,below_append,below_one,List.take_length]
set_option maxHeartbeats 16000000 in
theorem tvalid_ok {tv:LV} {t:List Nd} {rs:List (Int × Int × LV)} (ht:IsTr tv t rs) {N:Nat} (hN:N≤3000):PO 72 [.int .i64 (N:Int),tv] (.bool (decide (Tr N t))):=by
  have hcl:=ht.closed
  have htl:=ht.sl.len
  have hlim:=ht.lim
  have hmx:maxLen=9223372036854775807:=by decide
  refine q_fn (t:=4) hm Try.func72 (by decide +kernel) c72 (Nat.le_of_ble_eq_true rfl) (by simp [LV.closed.closedAll,LV.closed,hcl]) rfl rfl ?_
  have e0:(envOf [.int .i64 (N:Int),tv]).at 0 = .int .i64 (N:Int):=by rw [envOf_at];rfl
  have e1:(envOf [.int .i64 (N:Int),tv]).at 1=tv:=by rw [envOf_at];rfl
  generalize envOf [.int .i64 (N:Int),tv]=e at *
  unfold l72
  dsimp only [jA,jB,jC,jD,jG,qM,qL,qN,qF,qS,qI,qA,qB,qC,qK,qP,qm,ql]
  repeat' (first | refine gA @htl ?_ | (refine gB @htl ?_;intro bb hbb;cases bb<;>(try simp only [hbs,if_false,reduceCtorEq] at hbb)) | apply qc_seq | fail)
  refine q_mkmap wN n_empty ?_
  repeat' (first | refine gA @htl ?_ | (refine gB @htl ?_;intro bb hbb;cases bb<;>(try simp only [hbs,if_false,reduceCtorEq] at hbb)) | apply qc_seq | fail)
  refine u_mkV (n:=t.length) (k:=1) (z:=.nilm) wN rfl ef ef (by omega) (by decide) ?_
  repeat' (first | refine gA @htl ?_ | (refine gB @htl ?_;intro bb hbb;cases bb<;>(try simp only [hbs,if_false,reduceCtorEq] at hbb)) | apply qc_seq | fail)
  refine u_mkV (n:=t.length) (k:=2) (z:=.nilm) wN rfl ef ef (by omega) (by decide) ?_
  repeat' (first | refine gA @htl ?_ | (refine gB @htl ?_;intro bb hbb;cases bb<;>(try simp only [hbs,if_false,reduceCtorEq] at hbb)) | apply qc_seq | fail)
  refine qc_loop (fun m e s=>∃ (i:Nat) (F H:Nat→Nat),m=t.length - i∧i≤t.length∧VS s N t i F H∧e.at 0 = .int .i64 (N:Int)∧e.at 1=tv∧e.at 5 = .mref 0∧e.at 6 = .sref 1 0 t.length 1∧e.at 7 = .sref 2 0 t.length 1∧e.at 21=tv∧e.at 22 = .int .i64 (t.length:Int)∧e.at 23 = .int .i64 (i:Int)) _
    ⟨0,fun _=>0,fun _=>0,rfl,by omega,?_,ef,ef,ef,ef,ef,ef,ef,by simp only [lk,sv1,sv2,sv3,Nat.reduceEqDiff,Nat.reduceAdd,Nat.reduceLeDiff,reduceIte,if_false,if_true,mkVal,unLV,List.map,optTmps];rfl⟩ ?_
  · have hz:vcells t.length (mrefs (fun _=>0) 0)=vcells t.length fun _=>.nilm:=vcells_congr fun j _=>by simp [mrefs]
    exact ⟨by rw [hz];simp [n_empty],by rw [hz];simp [n_empty],MapS.nil (by simp [n_empty]),Mps.zero _ _ _,Mps.zero _ _ _,fun j hj=>absurd hj (by omega),fun j hj=>absurd hj (by omega),by simp [n_empty],fun i hi=>by simp at hi⟩
  clear e0 e1
  clear e
  rintro m e s ⟨i,F,H,rfl,hi,hS,e0,e1,e5,e6,e7,e21,e22,e23⟩
  by_cases hil:i<t.length
  · have hiI:(i:Int)<(t.length:Int):=by omega
    have hld:=fun s=>ht.get hil s
    have hnd:=ht.nd i hil
    have htk:=take_one t default hil
    have hTr:=fun h:Tr N t=>h.1 i hil
    have hset:=hnd.set
    have hsetl:=hset.sl.len
    have hsvc:=hset.sl.cell
    have hmem:t.getD i default∈t:=by
      rw [List.getD_eq_getElem?_getD,List.getElem?_eq_getElem hil];simp
    have hw2:IntKind.i64.wrap (2*(N:Int))=2*(N:Int):=wrap_i64 _ (by omega) (by omega)
    have hdl:(t.take i).length=i:=by rw [List.length_take];omega
    generalize hnE:t.getD i default=n at *
    generalize (rs.getD i default).2.2=sv at *
    repeat' (first | refine gN (And.intro (@iaN _ _ _ ht.sl) (And.intro @hld @hw2)) ?_ | (refine gB (And.intro (@iaN _ _ _ ht.sl) (And.intro @hld @hw2)) ?_;intro bb hbb;cases bb<;>(try simp only [hbs,if_false,reduceCtorEq] at hbb)<;>(try first | (exfalso;omega) | exact hbb.elim)) | fail)
    refine qc_mid (fun e1' s1'=>s1'=(s.new (.cells .mut [.int .i64 0, .int .i64 0, .nils])).put s.n (.cells .mut [.int .i64 n.name, .int .i64 n.par,sv])∧((i=0∧n.par = -1)∨(0<i∧0≤n.par∧n.par<i))∧e1'.at 0 = .int .i64 (N:Int)∧e1'.at 1=tv∧e1'.at 5 = .mref 0∧e1'.at 6 = .sref 1 0 t.length 1∧e1'.at 7 = .sref 2 0 t.length 1∧e1'.at 21=tv∧e1'.at 22 = .int .i64 (t.length:Int)∧e1'.at 23 = .int .i64 (i:Int)∧e1'.at 8 = .int .i64 (i:Int)∧e1'.at 9 = .pref s.n 0) ?_ ?_
    · have hFB:Bx (¬ ((i=0∧n.par = -1)∨(0<i∧0≤n.par∧n.par<i))→decide (Tr N t)=false):=⟨fun hp=>decide_eq_false fun h=>hp (by
        have:=(hTr h)
        rcases Nat.eq_zero_or_pos i with e | e
        · exact .inl ⟨e,this.root (by omega)⟩
        · have:=this.par (by omega)
          rw [hdl] at this
          exact .inr ⟨e,this⟩)⟩
      clear hTr htk hS hmem hnE hset
      repeat' (first | refine gA trivial ?_ | (refine gB trivial ?_;intro bb hbb;cases bb<;>(try simp only [hbs,if_false,reduceCtorEq] at hbb)<;>(try first | (exfalso;omega) | exact hbb.elim)) | apply qc_seq | fail)
      all_goals first | (refine ⟨.inr trivial,?_⟩;rw [hFB.out (by omega)];exact ef) | refine ⟨trivial,by omega,ef,ef,ef,ef,ef,ef,ef,ef,ef,ef⟩
    clear e0 e1 e5 e6 e7 e21 e22 e23
    clear e
    rintro e s1 ⟨hs1,hp,e0,e1,e5,e6,e7,e21,e22,e23,e8,e9⟩
    have hn1:s1.n=s.n+1:=by rw [hs1];rfl
    have hb1:s1.get s.n=some (.cells .mut [.int .i64 n.name, .int .i64 n.par,sv]):=by rw [hs1,St.get_put,if_pos rfl]
    have hS1:=hS.mono (s':=s1) (by omega) fun id hid=>by rw [hs1,St.get_put,if_neg (by omega),St.get_new,if_neg (by omega)]
    have hbn:=hS.n
    have hup:∀ j,j<i→F j<s.n∧H j<s.n:=fun j hj=>⟨hS.mf.lt j hj,hS.mh.lt j hj⟩
    generalize s.n=b at *
    clear hS hs1
    clear s
    refine qc_mid (fun e1' s1'=>s1'=s1∧(1≤n.name∧n.name≤2*N∧n.name ∉ (t.take i).map (·.name))∧n.set≠[]∧e1'.at 0 = .int .i64 (N:Int)∧e1'.at 1=tv∧e1'.at 5 = .mref 0∧e1'.at 6 = .sref 1 0 t.length 1∧e1'.at 7 = .sref 2 0 t.length 1∧e1'.at 21=tv∧e1'.at 22 = .int .i64 (t.length:Int)∧e1'.at 23 = .int .i64 (i:Int)∧e1'.at 8 = .int .i64 (i:Int)∧e1'.at 9 = .pref b 0) ?_ ?_
    · have hFB:Bx (¬ ((1≤n.name∧n.name≤2*N∧n.name ∉ (t.take i).map (·.name))∧n.set≠[])→decide (Tr N t)=false):=⟨fun hp=>decide_eq_false fun h=>hp ⟨(hTr h).name,(hTr h).ne⟩⟩
      have hlB:Bx (n.set=[]↔n.set.length=0):=⟨List.length_eq_zero_iff.symm⟩
      have hSB:=Bx.mk hS1
      have hpB:=Bx.mk hp
      clear hTr htk hmem hnE hset hS1 hp
      repeat' (first | refine gA (And.intro @hw2 @hb1) ?_ | (refine gB (And.intro @hw2 @hb1) ?_;intro bb hbb;cases bb<;>(try simp only [hbs,if_false,reduceCtorEq] at hbb)<;>(try first | (exfalso;omega) | exact hbb.elim)) | apply qc_seq | fail)
      · refine q_setLook hSB.out.names (wG ef) ef ef (fun b hb=>?_)
        cases b
        · have hnm:=of_decide_eq_false hb
          repeat' (first | refine gA (And.intro @hw2 @hb1) ?_ | (refine gB (And.intro @hw2 @hb1) ?_;intro bb hbb;cases bb<;>(try simp only [hbs,if_false,reduceCtorEq] at hbb)<;>(try first | (exfalso;omega) | exact hbb.elim)) | apply qc_seq | fail)
          · refine ⟨trivial,⟨by omega,by omega,hnm⟩,fun h=>?_,ef,ef,ef,ef,ef,ef,ef,ef,ef,ef⟩
            have:=hlB.out.1 h
            omega
          · refine ⟨.inr trivial,?_⟩
            rw [hFB.out fun h=>h.2 (hlB.out.2 (by omega))]
            exact ef
        · have hnm:=of_decide_eq_true hb
          repeat' (first | refine gA (And.intro @hw2 @hb1) ?_ | (refine gB (And.intro @hw2 @hb1) ?_;intro bb hbb;cases bb<;>(try simp only [hbs,if_false,reduceCtorEq] at hbb)<;>(try first | (exfalso;omega) | exact hbb.elim)) | apply qc_seq | fail)
          refine ⟨.inr trivial,?_⟩
          rw [hFB.out fun h=>h.1.2.2 hnm]
          exact ef
      all_goals
        refine ⟨.inr trivial,?_⟩
        rw [hFB.out (by omega)]
        exact ef
    clear e0 e1 e5 e6 e7 e8 e9 e21 e22 e23
    clear e
    rintro e s2 ⟨rfl,hname,hne,e0,e1,e5,e6,e7,e21,e22,e23,e8,e9⟩
    have hTB:=Bx.mk (And.intro hTr (And.intro htk (And.intro hmem hnE)))
    have hSB:=Bx.mk hS1
    have hnB:=Bx.mk (And.intro hname hne)
    clear hTr htk hmem hnE hS1 hname hne
    repeat' (first | refine gN @hb1 ?_ | (refine gB @hb1 ?_;intro bb hbb;cases bb<;>(try simp only [hbs,if_false,reduceCtorEq] at hbb)<;>(try first | (exfalso;omega) | exact hbb.elim)) | fail)
    refine q_setUp hSB.out.names ef ef ef (fun s3 hn3 hm3 ho3=>?_)
    repeat' (first | refine gN @hb1 ?_ | (refine gB @hb1 ?_;intro bb hbb;cases bb<;>(try simp only [hbs,if_false,reduceCtorEq] at hbb)<;>(try first | (exfalso;omega) | exact hbb.elim)) | fail)
    refine q_mkmap wN (hn3.trans hn1) ?_
    repeat' (first | refine gN @iaS ?_ | (refine gB @iaS ?_;intro bb hbb;cases bb<;>(try simp only [hbs,if_false,reduceCtorEq] at hbb)<;>(try first | (exfalso;omega) | exact hbb.elim)) | fail)
    refine q_storeV (q:=i) (f:=mrefs F i) (f':=mrefs (fun j=>if j=i then b+1 else F j) (i+1)) ef ef rfl (by rw [St.get_new,if_neg (by omega),ho3 1 (by decide)];exact hSB.out.sets) hil mrefs_up (fun s4 hn4 hg4 ho4=>?_)
    rw [St.n_new] at hn4
    repeat' (first | refine gN @hb1 ?_ | (refine gB @hb1 ?_;intro bb hbb;cases bb<;>(try simp only [hbs,if_false,reduceCtorEq] at hbb)<;>(try first | (exfalso;omega) | exact hbb.elim)) | fail)
    refine q_mkmap (n:=b+2) wN (by omega) ?_
    repeat' (first | refine gN @iaS ?_ | (refine gB @iaS ?_;intro bb hbb;cases bb<;>(try simp only [hbs,if_false,reduceCtorEq] at hbb)<;>(try first | (exfalso;omega) | exact hbb.elim)) | fail)
    refine q_storeV (q:=i) (f:=mrefs H i) (f':=mrefs (fun j=>if j=i then b+2 else H j) (i+1)) ef ef rfl (by rw [St.get_new,if_neg (by omega),ho4 2 (by decide),St.get_new,if_neg (by omega),ho3 2 (by decide)];exact hSB.out.belw) hil mrefs_up (fun s5 hn5 hg5 ho5=>?_)
    rw [St.n_new] at hn5
    have hget:∀ id,id≠0→id≠1→id≠2→id<b+1→s5.get id=s2.get id:=fun id h0 h1 h2 h3=>by
      rw [ho5 id h2,St.get_new,if_neg (by omega),ho4 id h1,St.get_new,if_neg (by omega),ho3 id h0]
    have hJ:∃ F' H',VJ s5 N t i n sv b 0 0 F' H':=⟨_,_,{
      sets:=by rw [ho5 1 (by decide),St.get_new,if_neg (by omega)];exact hg4
      belw:=hg5
      names:=hm3.keep (by rw [ho5 0 (by decide),St.get_new,if_neg (by omega),ho4 0 (by decide),St.get_new,if_neg (by omega)])
      mf:=hSB.out.mf.snoc (n:=i) (M:=b+1) (by omega) (fun j hj=>hget _ (by have:=hSB.out.up j hj;omega) (by have:=hSB.out.up j hj;omega) (by have:=hSB.out.up j hj;omega) (by have:=hup j hj;omega)) (fun j hj=>by have:=hup j hj;omega) (by omega) (by simpa using MapS.nil (by rw [ho5 _ (by omega),St.get_new,if_neg (by omega),ho4 _ (by omega),St.get_new,if_pos (by omega)])) (fun j=>rfl) (fun j hj=>by rw [if_neg (by omega)])
      mh:=hSB.out.mh.snoc (n:=i) (M:=b+2) (by omega) (fun j hj=>hget _ (by have:=hSB.out.up j hj;omega) (by have:=hSB.out.up j hj;omega) (by have:=hSB.out.up j hj;omega) (by have:=hup j hj;omega)) (fun j hj=>by have:=hup j hj;omega) (by omega) (by simpa [below_self hSB.out.ok hi] using MapS.nil (by rw [ho5 _ (by omega),St.get_new,if_pos (by omega)])) (fun j=>rfl) (fun j hj=>by simp)
      ap:=fun j hj j' hj'=>by
        by_cases e:j=i<;>by_cases e':j'=i
        · simp only [if_pos e,if_pos e'];omega
        · simp only [if_pos e,if_neg e'];have:=hup j' (by omega);omega
        · simp only [if_neg e,if_pos e'];have:=hup j (by omega);omega
        · simp only [if_neg e,if_neg e'];exact hSB.out.ap j (by omega) j' (by omega)
      up:=fun j hj=>by
        by_cases e:j=i
        · simp only [if_pos e];omega
        · simp only [if_neg e];have:=hup j (by omega);have:=hSB.out.up j (by omega);omega
      n3:=by omega
      blk:=(hget b (by omega) (by omega) (by omega) (by omega)).trans hb1 }⟩
    obtain ⟨F',H',hJ⟩:=hJ
    have hok:=Bx.mk hSB.out.ok
    have hb5:=hJ.blk
    clear hget hg4 hg5 ho3 ho4 ho5 hn3 hn4 hn5 hm3 hn1 hb1 hSB hup hbn hld hnd
    clear s2 s3 s4 F H
    repeat' (first | refine gN @hb5 ?_ | (refine gB @hb5 ?_;intro bb hbb;cases bb<;>(try simp only [hbs,if_false,reduceCtorEq] at hbb)<;>(try first | (exfalso;omega) | exact hbb.elim)) | fail)
    clear hb5
    refine qc_loop (fun m e s=>∃ k:Nat,m=n.set.length - k∧k≤n.set.length∧VJ s N t i n sv b k k F' H'∧SetK N (t.take i) n k∧e.at 0 = .int .i64 (N:Int)∧e.at 1=tv∧e.at 5 = .mref 0∧e.at 6 = .sref 1 0 t.length 1∧e.at 7 = .sref 2 0 t.length 1∧e.at 21=tv∧e.at 22 = .int .i64 (t.length:Int)∧e.at 23 = .int .i64 (i:Int)∧e.at 8 = .int .i64 (i:Int)∧e.at 9 = .pref b 0∧e.at 84=sv∧e.at 85 = .int .i64 (n.set.length:Int)∧e.at 86 = .int .i64 (k:Int)) _
      ⟨0,rfl,by omega,hJ,SetK.zero _ _ _,ef,ef,ef,ef,ef,ef,ef,ef,ef,ef,ef,ef,by simp only [lk,sv1,sv2,sv3,Nat.reduceEqDiff,Nat.reduceAdd,Nat.reduceLeDiff,reduceIte,if_false,if_true,mkVal,unLV,List.map,optTmps];rfl⟩ ?_
    clear e0 e1 e5 e6 e7 e8 e9 e21 e22 e23 hJ
    clear e s5
    rintro m e s ⟨k,rfl,hk,hJ,hK,e0,e1,e5,e6,e7,e21,e22,e23,e8,e9,e84,e85,e86⟩
    by_cases hkl:k<n.set.length
    · have hkI:(k:Int)<(n.set.length:Int):=by omega
      have hgx:=ints_get hkI
      have hsl:=hset.len
      have hwk:IntKind.i64.wrap ((k:Int)+1)=((k+1:Nat):Int):=by rw [wrap_i64 _ (by omega) (by omega)];rfl
      have hx:n.set[k]? = some (n.set.getD k 0):=by rw [List.getD_eq_getElem?_getD,List.getElem?_eq_getElem hkl];rfl
      have hat:=fun h:Tr N t=>ndOk_at (hTB.out.1 h) hx
      generalize n.set.getD k 0=x at *
      have hy:0<k→n.set[k - 1]? = some (n.set.getD (k - 1) 0):=fun h=>by rw [List.getD_eq_getElem?_getD,List.getElem?_eq_getElem (by omega)];rfl
      have hgy:0<k→(ints n.set)[k - 1]? = some (.int .i64 (n.set.getD (k - 1) 0)):=fun h=>ints_get (by omega)
      generalize n.set.getD (k - 1) 0=y at *
      have hxB:=Bx.mk (And.intro hx hy)
      have hatB:=Bx.mk hat
      have hJB:=Bx.mk hJ
      have hKB:=Bx.mk hK
      have hbj:=hJ.blk
      clear hx hy hat hJ hK
      repeat' (first | refine gN (And.intro (@iaN _ _ _ hset.sl) @hgx) ?_ | (refine gB (And.intro (@iaN _ _ _ hset.sl) @hgx) ?_;intro bb hbb;cases bb<;>(try simp only [hbs,if_false,reduceCtorEq] at hbb)<;>(try first | (exfalso;omega) | exact hbb.elim)) | fail)
      refine qc_mid (fun e1' s1'=>s1'=s∧(0≤x∧x<N)∧(0<k→y<x)∧e1'.at 0 = .int .i64 (N:Int)∧e1'.at 1=tv∧e1'.at 5 = .mref 0∧e1'.at 6 = .sref 1 0 t.length 1∧e1'.at 7 = .sref 2 0 t.length 1∧e1'.at 21=tv∧e1'.at 22 = .int .i64 (t.length:Int)∧e1'.at 23 = .int .i64 (i:Int)∧e1'.at 8 = .int .i64 (i:Int)∧e1'.at 9 = .pref b 0∧e1'.at 84=sv∧e1'.at 85 = .int .i64 (n.set.length:Int)∧e1'.at 86 = .int .i64 (k:Int)∧e1'.at 10 = .int .i64 (k:Int)∧e1'.at 11 = .int .i64 x) ?_ ?_
      · have hFB:Bx (¬ ((0≤x∧x<N)∧(0<k→y<x))→decide (Tr N t)=false):=⟨fun hp=>decide_eq_false fun h=>hp ⟨(hatB.out h).1,fun hk0=>(hatB.out h).2.1 hk0 y (hxB.out.2 hk0)⟩⟩
        clear hgx
        rcases Nat.eq_zero_or_pos k with hk0 | hk0
        · clear hgy
          repeat' (first | refine gA trivial ?_ | (refine gB trivial ?_;intro bb hbb;cases bb<;>(try simp only [hbs,if_false,reduceCtorEq] at hbb)<;>(try first | (exfalso;omega) | exact hbb.elim)) | apply qc_seq | fail)
          all_goals first | (refine ⟨.inr trivial,?_⟩;rw [hFB.out (by omega)];exact ef) | refine ⟨trivial,by omega,by omega,ef,ef,ef,ef,ef,ef,ef,ef,ef,ef,ef,ef,ef,ef,ef⟩
        · have hgy:=hgy hk0
          have hwk1:IntKind.i64.wrap ((k:Int) - 1)=((k - 1:Nat):Int):=by rw [wrap_i64 _ (by omega) (by omega)];omega
          have hk1I:((k - 1:Nat):Int)<(n.set.length:Int):=by omega
          repeat' (first | refine gA (And.intro @hbj (And.intro @hwk1 (And.intro (@iaN _ _ _ hset.sl) @hgy))) ?_ | (refine gB (And.intro @hbj (And.intro @hwk1 (And.intro (@iaN _ _ _ hset.sl) @hgy))) ?_;intro bb hbb;cases bb<;>(try simp only [hbs,if_false,reduceCtorEq] at hbb)<;>(try first | (exfalso;omega) | exact hbb.elim)) | apply qc_seq | fail)
          all_goals first | (refine ⟨.inr trivial,?_⟩;rw [hFB.out (by omega)];exact ef) | refine ⟨trivial,by omega,by omega,ef,ef,ef,ef,ef,ef,ef,ef,ef,ef,ef,ef,ef,ef,ef⟩
      clear e0 e1 e5 e6 e7 e8 e9 e21 e22 e23 e84 e85 e86 hgx hgy
      clear e
      rintro e s1 ⟨rfl,hxr,hxy,e0,e1,e5,e6,e7,e21,e22,e23,e8,e9,e84,e85,e86,e10,e11⟩
      have hsi:(vcells t.length (mrefs F' (i+1)))[i]? = some (.mref (F' i)):=by rw [vcells_get hil];simp [mrefs]
      have hss:=hJB.out.sets
      repeat' (first | refine gN (And.intro @iaS (And.intro @hss @hsi)) ?_ | (refine gB (And.intro @iaS (And.intro @hss @hsi)) ?_;intro bb hbb;cases bb<;>(try simp only [hbs,if_false,reduceCtorEq] at hbb)<;>(try first | (exfalso;omega) | exact hbb.elim)) | fail)
      have hmi:=hJB.out.mf.ms i (by omega)
      simp only [if_true] at hmi
      refine q_setUp hmi ef ef ef (fun s2 hn2 hm2 ho2=>?_)
      have hJ2:=hJB.out.sets_up hxB.out.1 hn2 hm2 ho2
      have hlast:0<k→∀ z,n.set[k - 1]? = some z→z<x:=fun hk0 z hz=>by
        have:=hxB.out.2 hk0
        rw [this] at hz
        cases hz
        exact hxy hk0
      have hxk:x ∉ n.set.take k:=fun hm=>by
        have:=hKB.out.lt hxB.out.1 hlast x hm
        omega
      have hKS:=fun h3=>SetK.succ hKB.out hxB.out.1 hxr hlast h3
      clear hm2 ho2 hn2 hmi hsi hss hbj hJB hKB
      clear s1
      have hJB:=Bx.mk hJ2
      have hKB:=Bx.mk hKS
      have hbj:=hJ2.blk
      have hss:=hJ2.sets
      have hsh:=hJ2.belw
      clear hJ2 hKS
      repeat' (first | refine gN @hwk ?_ | (refine gB @hwk ?_;intro bb hbb;cases bb<;>(try simp only [hbs,if_false,reduceCtorEq] at hbb)<;>(try first | (exfalso;omega) | exact hbb.elim)) | fail)
      · refine qc_mid (fun e1' s1'=>s1'=s2∧(x∈((t.take i).getD n.par.toNat default).set∧x ∉ below (t.take i) n.par)∧e1'.at 0 = .int .i64 (N:Int)∧e1'.at 1=tv∧e1'.at 5 = .mref 0∧e1'.at 6 = .sref 1 0 t.length 1∧e1'.at 7 = .sref 2 0 t.length 1∧e1'.at 21=tv∧e1'.at 22 = .int .i64 (t.length:Int)∧e1'.at 23 = .int .i64 (i:Int)∧e1'.at 8 = .int .i64 (i:Int)∧e1'.at 9 = .pref b 0∧e1'.at 84=sv∧e1'.at 85 = .int .i64 (n.set.length:Int)∧e1'.at 86 = .int .i64 (k:Int)∧e1'.at 10 = .int .i64 (k:Int)∧e1'.at 11 = .int .i64 x) ?_ ?_
        · have hFB:Bx (¬ (x∈((t.take i).getD n.par.toNat default).set∧x ∉ below (t.take i) n.par)→decide (Tr N t)=false):=⟨fun hp=>decide_eq_false fun h=>hp ((hatB.out h).2.2 (by omega))⟩
          obtain ⟨q,hq⟩:∃ q:Nat,n.par=(q:Int):=⟨n.par.toNat,by omega⟩
          have hqi:q<i:=by omega
          have hqI:(q:Int)<(t.length:Int):=by omega
          have hsq:(vcells t.length (mrefs F' (i+1)))[q]? = some (.mref (F' q)):=by rw [vcells_get (by omega)];simp [mrefs,show q<i+1 by omega]
          have hsq2:(vcells t.length (mrefs H' (i+1)))[q]? = some (.mref (H' q)):=by rw [vcells_get (by omega)];simp [mrefs,show q<i+1 by omega]
          have hmq:=hJB.out.mf.ms q (by omega)
          have hmh:=hJB.out.mh.ms q (by omega)
          rw [if_neg (by omega)] at hmq
          rw [if_pos hq] at hmh
          rw [hq] at hbj
          have hgd:(t.take i).getD q default=t.getD q default:=getD_take hqi
          rw [hq,Int.toNat_natCast,hgd] at hFB
          repeat' (first | refine gA (And.intro @hbj (And.intro @iaS (And.intro @hss @hsq))) ?_ | (refine gB (And.intro @hbj (And.intro @iaS (And.intro @hss @hsq))) ?_;intro bb hbb;cases bb<;>(try simp only [hbs,if_false,reduceCtorEq] at hbb)<;>(try first | (exfalso;omega) | exact hbb.elim)) | apply qc_seq | fail)
          refine q_setLook hmq wN ef ef (fun b1 hb1=>?_)
          cases b1
          · have hn1:=of_decide_eq_false hb1
            repeat' (first | refine gA trivial ?_ | (refine gB trivial ?_;intro bb hbb;cases bb<;>(try simp only [hbs,if_false,reduceCtorEq] at hbb)<;>(try first | (exfalso;omega) | exact hbb.elim)) | apply qc_seq | fail)
            refine ⟨.inr trivial,?_⟩
            rw [hFB.out fun h=>hn1 h.1]
            exact ef
          · have hn1:=of_decide_eq_true hb1
            repeat' (first | refine gA (And.intro @hbj (And.intro @iaS (And.intro @hsh @hsq2))) ?_ | (refine gB (And.intro @hbj (And.intro @iaS (And.intro @hsh @hsq2))) ?_;intro bb hbb;cases bb<;>(try simp only [hbs,if_false,reduceCtorEq] at hbb)<;>(try first | (exfalso;omega) | exact hbb.elim)) | apply qc_seq | fail)
            refine q_setLook hmh (wG ef) ef ef (fun b2 hb2=>?_)
            cases b2
            · have hn2:=of_decide_eq_false hb2
              repeat' (first | refine gA trivial ?_ | (refine gB trivial ?_;intro bb hbb;cases bb<;>(try simp only [hbs,if_false,reduceCtorEq] at hbb)<;>(try first | (exfalso;omega) | exact hbb.elim)) | apply qc_seq | fail)
              refine ⟨trivial,⟨?_,?_⟩,ef,ef,ef,ef,ef,ef,ef,ef,ef,ef,ef,ef,ef,ef,ef⟩
              · rw [hq,Int.toNat_natCast,hgd];exact hn1
              · rw [hq];exact fun h=>hn2 (List.mem_append_left _ h)
            · have hn2:=of_decide_eq_true hb2
              repeat' (first | refine gA trivial ?_ | (refine gB trivial ?_;intro bb hbb;cases bb<;>(try simp only [hbs,if_false,reduceCtorEq] at hbb)<;>(try first | (exfalso;omega) | exact hbb.elim)) | apply qc_seq | fail)
              refine ⟨.inr trivial,?_⟩
              rw [hFB.out fun h=>h.2 ((List.mem_append.1 hn2).resolve_right hxk)]
              exact ef
        · clear e0 e1 e5 e6 e7 e8 e9 e21 e22 e23 e84 e85 e86 e10 e11
          clear e
          rintro e s1 ⟨rfl,hin,e0,e1,e5,e6,e7,e21,e22,e23,e8,e9,e84,e85,e86,e10,e11⟩
          obtain ⟨q,hq⟩:∃ q:Nat,n.par=(q:Int):=⟨n.par.toNat,by omega⟩
          have hqi:q<i:=by omega
          have hqI:(q:Int)<(t.length:Int):=by omega
          have hsq2:(vcells t.length (mrefs H' (i+1)))[q]? = some (.mref (H' q)):=by rw [vcells_get (by omega)];simp [mrefs,show q<i+1 by omega]
          have hmh:=hJB.out.mh.ms q (by omega)
          rw [if_pos hq] at hmh
          rw [hq] at hbj
          clear hxk
          have hinB:=Bx.mk hin
          clear hin
          repeat' (first | refine gA (And.intro @hbj (And.intro @iaS (And.intro @hsh @hsq2))) ?_ | (refine gB (And.intro @hbj (And.intro @iaS (And.intro @hsh @hsq2))) ?_;intro bb hbb;cases bb<;>(try simp only [hbs,if_false,reduceCtorEq] at hbb)<;>(try first | (exfalso;omega) | exact hbb.elim)) | apply qc_seq | fail)
          refine q_setUp hmh ef ef ef (fun s3 hn3 hm3 ho3=>?_)
          have hJ3:=hJB.out.below_up hq hqi hxB.out.1 hn3 hm3 ho3
          clear hm3 ho3 hn3 hmh hsq2 hbj hJB hss hsh
          clear s1
          have hJB:=Bx.mk hJ3
          clear hJ3
          repeat' (first | refine gA @hwk ?_ | (refine gB @hwk ?_;intro bb hbb;cases bb<;>(try simp only [hbs,if_false,reduceCtorEq] at hbb)<;>(try first | (exfalso;omega) | exact hbb.elim)) | apply qc_seq | fail)
          refine ⟨n.set.length - (k+1),by omega,k+1,rfl,by omega,hJB.out,hKB.out (fun _=>hinB.out),?_⟩
          simp only [lk,sv1,sv2,sv3,Nat.reduceEqDiff,Nat.reduceAdd,Nat.reduceLeDiff,reduceIte,if_false,if_true,mkVal,unLV,List.map,optTmps,hwk,e0,e1,e5,e6,e7,e8,e9,e21,e22,e23,e84,e85,e86,and_self]
      · refine ⟨n.set.length - (k+1),by omega,k+1,rfl,by omega,hJB.out.root (by omega),hKB.out (fun h=>absurd h (by omega)),?_⟩
        simp only [lk,sv1,sv2,sv3,Nat.reduceEqDiff,Nat.reduceAdd,Nat.reduceLeDiff,reduceIte,if_false,if_true,mkVal,unLV,List.map,optTmps,hwk,e0,e1,e5,e6,e7,e8,e9,e21,e22,e23,e84,e85,e86,and_self]
    · have hk':k=n.set.length:=by omega
      subst hk'
      obtain ⟨hT1,hT2,hT3,rfl⟩:=hTB.out
      have hwi:IntKind.i64.wrap ((i:Int)+1)=((i+1:Nat):Int):=by rw [wrap_i64 _ (by omega) (by omega)];rfl
      have hS':=hJ.done hil (by
        rw [take_one t default hil]
        have hset:=hK
        refine hok.out.snoc ⟨fun h=>?_,fun h=>?_,hnB.out.1,hnB.out.2,?_,?_,?_⟩
        · omega
        · rw [hdl];omega
        · have:=hK.rng;rwa [List.take_length] at this
        · have:=hK.inc;rwa [List.take_length] at this
        · have:=hK.sub;rwa [List.take_length] at this)
      clear hJ hK hTB hnB hok hT1 hT2 hT3
      have hSB:=Bx.mk hS'
      clear hS'
      repeat' (first | refine gA @hwi ?_ | (refine gB @hwi ?_;intro bb hbb;cases bb<;>(try simp only [hbs,if_false,reduceCtorEq] at hbb)<;>(try first | (exfalso;omega) | exact hbb.elim)) | apply qc_seq | fail)
      refine ⟨t.length - (i+1),by omega,i+1,F',H',rfl,by omega,hSB.out,?_⟩
      simp only [lk,sv1,sv2,sv3,Nat.reduceEqDiff,Nat.reduceAdd,Nat.reduceLeDiff,reduceIte,if_false,if_true,mkVal,unLV,List.map,optTmps,hwi,e0,e1,e5,e6,e7,e21,e22,and_self]
  · have hi':i=t.length:=by omega
    subst hi'
    clear hil
    have hSB:=Bx.mk hS
    clear hS
    repeat' (first | refine gA @htl ?_ | (refine gB @htl ?_;intro bb hbb;cases bb<;>(try simp only [hbs,if_false,reduceCtorEq] at hbb)<;>(try first | (exfalso;omega) | exact hbb.elim)) | apply qc_seq | fail)
    refine qc_loop (fun m e s=>∃ k:Nat,m=t.length - k∧k≤t.length∧VS s N t t.length F H∧(∀ j,j<k→(below t (j:Int)).length≠(t.getD j default).set.length)∧e.at 7 = .sref 2 0 t.length 1∧e.at 144=tv∧e.at 145 = .int .i64 (t.length:Int)∧e.at 146 = .int .i64 (k:Int)) _
      ⟨0,rfl,by omega,hSB.out,fun j hj=>absurd hj (by omega),ef,ef,ef,by simp only [lk,sv1,sv2,sv3,Nat.reduceEqDiff,Nat.reduceAdd,Nat.reduceLeDiff,reduceIte,if_false,if_true,mkVal,unLV,List.map,optTmps];rfl⟩ ?_
    clear e0 e1 e5 e6 e7 e21 e22 e23 hSB hbb hi
    clear e s
    rintro m e s ⟨i,rfl,hi,hS,hK,e7,e144,e145,e146⟩
    by_cases hil:i<t.length
    · have hiI:(i:Int)<(t.length:Int):=by omega
      have hld:=fun s=>ht.get hil s
      have hnd:=ht.nd i hil
      have hset:=hnd.set
      have hsetl:=hset.sl.len
      have hsvc:=hset.sl.cell
      have hwi:IntKind.i64.wrap ((i:Int)+1)=((i+1:Nat):Int):=by rw [wrap_i64 _ (by omega) (by omega)];rfl
      have hTr:=fun h:Tr N t=>h.2 i hil
      generalize hnE:t.getD i default=n at *
      generalize (rs.getD i default).2.2=sv at *
      have hsi:(vcells t.length (mrefs H t.length))[i]? = some (.mref (H i)):=by rw [vcells_get hil];simp [mrefs,hil]
      have hS':=hS.mono (s':=(s.new (.cells .mut [.int .i64 0, .int .i64 0, .nils])).put s.n (.cells .mut [.int .i64 n.name, .int .i64 n.par,sv])) (by simp) fun id hid=>by rw [St.get_put,if_neg (by omega),St.get_new,if_neg (by omega)]
      have hg1:((s.new (.cells .mut [.int .i64 0, .int .i64 0, .nils])).put s.n (.cells .mut [.int .i64 n.name, .int .i64 n.par,sv])).get s.n=some (.cells .mut [.int .i64 n.name, .int .i64 n.par,sv]):=by rw [St.get_put,if_pos rfl]
      have hTB:=Bx.mk (And.intro hTr (And.intro hK hnE))
      clear hTr hK hnE hset
      repeat' (first | refine gN (And.intro (@iaN _ _ _ ht.sl) @hld) ?_ | (refine gB (And.intro (@iaN _ _ _ ht.sl) @hld) ?_;intro bb hbb;cases bb<;>(try simp only [hbs,if_false,reduceCtorEq] at hbb)<;>(try first | (exfalso;omega) | exact hbb.elim)) | fail)
      generalize (s.new (.cells .mut [.int .i64 0, .int .i64 0, .nils])).put s.n (.cells .mut [.int .i64 n.name, .int .i64 n.par,sv])=s1 at *
      generalize s.n=b at *
      have hbl:=hS'.belw
      have hmh:=hS'.mh.ms i hil
      simp only [List.take_length] at hmh
      have hnd2:(below t (i:Int)).Nodup:=by
        have:=hS'.ok
        rw [List.take_length] at this
        exact this.nodup _ (by omega)
      have hSB:=Bx.mk hS'
      clear hS' hS
      repeat' (first | refine gA (And.intro @iaS (And.intro @hbl @hsi)) ?_ | (refine gB (And.intro @iaS (And.intro @hbl @hsi)) ?_;intro bb hbb;cases bb<;>(try simp only [hbs,if_false,reduceCtorEq] at hbb)<;>(try first | (exfalso;omega) | exact hbb.elim)) | apply qc_seq | fail)
      refine q_setLen hmh hnd2 wN ef ?_
      repeat' (first | refine gA (And.intro @hg1 @hwi) ?_ | (refine gB (And.intro @hg1 @hwi) ?_;intro bb hbb;cases bb<;>(try simp only [hbs,if_false,reduceCtorEq] at hbb)<;>(try first | (exfalso;omega) | exact hbb.elim)) | apply qc_seq | fail)
      · refine ⟨t.length - (i+1),by omega,i+1,rfl,by omega,hSB.out,fun j hj=>?_,?_⟩
        · by_cases e:j=i
          · subst e
            rw [hTB.out.2.2]
            omega
          · exact hTB.out.2.1 j (by omega)
        · simp only [lk,sv1,sv2,sv3,Nat.reduceEqDiff,Nat.reduceAdd,Nat.reduceLeDiff,reduceIte,if_false,if_true,mkVal,unLV,List.map,optTmps,hwi,e7,e144,e145,and_self]
      · refine ⟨.inr trivial,?_⟩
        rw [decide_eq_false fun h=>hTB.out.1 h (by omega)]
        exact ef
    · have hi':i=t.length:=by omega
      subst hi'
      have hok:=hS.ok
      rw [List.take_length] at hok
      have hT:Bx (decide (Tr N t)=true):=⟨decide_eq_true ⟨hok,hK⟩⟩
      clear hS hK hok
      repeat' (first | refine gA trivial ?_ | (refine gB trivial ?_;intro bb hbb;cases bb<;>(try simp only [hbs,if_false,reduceCtorEq] at hbb)<;>(try first | (exfalso;omega) | exact hbb.elim)) | apply qc_seq | fail)
      refine ⟨.inr trivial,?_⟩
      rw [hT.out]
      exact ef
end Go.Proofs.Ytkbiecjdcjfhaaa
