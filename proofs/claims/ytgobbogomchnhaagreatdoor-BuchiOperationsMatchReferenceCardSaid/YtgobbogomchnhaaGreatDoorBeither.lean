/- buchi.Either. -/
import Derived.Test.YtgobbogomchnhaaGreatDoorTauto
set_option linter.unusedSimpArgs false
set_option linter.unusedVariables false
namespace Go.Proofs.YtgobbogomchnhaaGreatDoor
open Go Go.Pv
open Classical
def shM (n:Nat) (ms:Moves):Moves:=ms.map fun m=>(m.1+(n:Int),m.2)
def shN (n:Nat) (nx:List (List Moves)):List (List Moves):=nx.map fun row=>row.map (shM n)
def shS (n:Nat) (st:List Int):List Int:=st.map (· + (n:Int))
def eiB (A B:Bu):Bu:=⟨A.L,A.start++shS A.next.length B.start,A.next++shN A.next.length B.next⟩
structure EI (s:St) (L:Int) (stv nxv:LV) (st:List Int) (nx:List (List Moves)):Prop where
 n2:2≤s.n
 g0:s.get 0=some (.cells .mut [.int .i64 0, .nils, .nils])
 g1:s.get 1=some (.cells .mut [.int .i64 L,stv,nxv])
 ss:SkC s stv 1 (ints st) st.length
 rows:∃ rvs,rvs.length=nx.length∧SkC s nxv 1 rvs nx.length∧∀ i,i<nx.length→IsRowM (rvs.getD i .top) (nx.getD i [])
 lo:∀ id,uses stv id∨uses nxv id→2≤id
 dj:∀ id,uses stv id→¬ uses nxv id
theorem EI.keep {s s':St} {L:Int} {stv nxv:LV} {st:List Int} {nx:List (List Moves)} (h:EI s L stv nxv st nx) (hn:s.n≤s'.n) (hs:∀ id,id<s.n→s'.get id=s.get id):EI s' L stv nxv st nx:=by
 have n2:=h.n2
 obtain ⟨rvs,h1,h2,h3⟩:=h.rows
 exact ⟨by omega,by rw [hs 0 (by omega)];exact h.g0,by rw [hs 1 (by omega)];exact h.g1,h.ss.mono hn fun id hu=>hs id (h.ss.lt hu),⟨rvs,h1,h2.mono hn fun id hu=>hs id (h2.lt hu),h3⟩,h.lo,h.dj⟩
theorem EI.lt {s:St} {L:Int} {stv nxv:LV} {st:List Int} {nx:List (List Moves)} (h:EI s L stv nxv st nx):∀ id,uses stv id∨uses nxv id→id<s.n:=by
 obtain ⟨rvs,h1,h2,h3⟩:=h.rows
 rintro id (hu | hu)
 ·exact h.ss.lt hu
 ·exact h2.lt hu
theorem EI.keepJ {s s':St} {L:Int} {stv nxv:LV} {st:List Int} {nx:List (List Moves)} {J:Nat} (h:EI s L stv nxv st nx) (hJ:∀ id,uses stv id∨uses nxv id→id<J) (hJ2:2≤J) (hn:s.n≤s'.n) (hs:∀ id,id<J→s'.get id=s.get id):EI s' L stv nxv st nx:=by
 have n2:=h.n2
 obtain ⟨rvs,h1,h2,h3⟩:=h.rows
 exact ⟨by omega,by rw [hs 0 (by omega)];exact h.g0,by rw [hs 1 (by omega)];exact h.g1,h.ss.mono hn fun id hu=>hs id (hJ id (.inl hu)),⟨rvs,h1,h2.mono hn fun id hu=>hs id (hJ id (.inr hu)),h3⟩,h.lo,h.dj⟩
theorem EI.start {s s3:St} {L:Int} {stv nxv:LV} {st:List Int} {nx:List (List Moves)} {z:Int} {j:Nat} (h:EI s L stv nxv st nx) (hj:s.n≤j) (hS:SkC s3 (.sref j 0 (st.length+1) 1) 1 (ints st++[.int .i64 z]) (st.length+1)) (hn:s.n≤s3.n) (hk:∀ id,id<s.n→¬ uses stv id→s3.get id=s.get id) :
  EI (s3.put 1 (.cells .mut [.int .i64 L, .sref j 0 (st.length+1) 1,nxv])) L (.sref j 0 (st.length+1) 1) nxv (st++[z]) nx:=by
 have n2:=h.n2
 obtain ⟨rvs,h1,h2,h3⟩:=h.rows
 refine ⟨by rw [St.n_put];omega,by rw [St.get_put,if_neg (by omega),hk 0 (by omega) fun hu=>by have:=h.lo 0 (.inl hu);omega];exact h.g0,by rw [St.get_put,if_pos rfl],?_,⟨rvs,h1,h2.mono (by rw [St.n_put];exact hn) fun id hu=>?_,h3⟩,fun id hu=>?_,fun id hu hu'=>?_⟩
 ·have e1:ints (st++[z])=ints st++[.int .i64 z]:=by simp [ints]
  rw [e1,List.length_append]
  exact hS.mono (by rw [St.n_put];exact Nat.le_refl _) fun id hu=>by rw [St.get_put,if_neg (by have:=uses_sref.1 hu;omega)]
 ·rw [St.get_put,if_neg (by have:=h.lo id (.inr hu);omega)]
  exact hk id (h2.lt hu) fun hu'=>h.dj id hu' hu
 ·rcases hu with hu | hu
  ·have:=uses_sref.1 hu;omega
  ·exact h.lo id (.inr hu)
 ·have:=uses_sref.1 hu
  have:=h2.lt hu'
  omega
theorem EI.row {s s3:St} {L:Int} {stv nxv v':LV} {st:List Int} {nx:List (List Moves)} {row:List Moves} {j J:Nat} {rvs:List LV} {T:Nat→Prop} (h:EI s L stv nxv st nx) (hJ:∀ id,uses stv id∨uses nxv id→id<J) (hT:∀ id,T id→J≤id∧id<s.n) (hJ2:2≤J) (h1:rvs.length=nx.length) (h3:∀ i,i<nx.length→IsRowM (rvs.getD i .top) (nx.getD i [])) (hv:IsRowM v' row) (hj:s.n≤j) (hS:SkC s3 (.sref j 0 (nx.length+1) 1) 1 (rvs++[v']) (nx.length+1)) (hn:s.n≤s3.n) (hk:∀ id,id<s.n→¬ uses nxv id→¬ T id→s3.get id=s.get id) :
  EI (s3.put 1 (.cells .mut [.int .i64 L,stv, .sref j 0 (nx.length+1) 1])) L stv (.sref j 0 (nx.length+1) 1) st (nx++[row]):=by
 have n2:=h.n2
 refine ⟨by rw [St.n_put];omega,by rw [St.get_put,if_neg (by omega),hk 0 (by omega) (fun hu=>by have:=h.lo 0 (.inr hu);omega) fun ht=>by have:=hT 0 ht;omega];exact h.g0,by rw [St.get_put,if_pos rfl],?_,⟨rvs++[v'],by simp [h1],?_,fun i hi=>?_⟩,fun id hu=>?_,fun id hu hu'=>?_⟩
 ·exact h.ss.mono (by rw [St.n_put];exact hn) fun id hu=>by
   rw [St.get_put,if_neg (by have:=h.lo id (.inl hu);omega)]
   exact hk id (h.ss.lt hu) (h.dj id hu) fun ht=>by have:=hJ id (.inl hu);have:=hT id ht;omega
 ·rw [List.length_append]
  exact hS.mono (by rw [St.n_put];exact Nat.le_refl _) fun id hu=>by rw [St.get_put,if_neg (by have:=uses_sref.1 hu;omega)]
 ·by_cases he:i=nx.length
  ·subst he
   rw [List.getD_eq_getElem?_getD,List.getElem?_append_right (by omega),h1,Nat.sub_self,List.getD_eq_getElem?_getD,List.getElem?_append_right (by omega),Nat.sub_self]
   exact hv
  ·have hi':i<nx.length:=by simp at hi;omega
   rw [List.getD_eq_getElem?_getD,List.getElem?_append_left (by omega),← List.getD_eq_getElem?_getD,List.getD_eq_getElem?_getD (l:=nx++[row]),List.getElem?_append_left (by omega),← List.getD_eq_getElem?_getD]
   exact h3 i hi'
 ·rcases hu with hu | hu
  ·exact h.lo id (.inl hu)
  ·have:=uses_sref.1 hu;omega
 ·have:=uses_sref.1 hu'
  have:=h.ss.lt hu
  omega
structure RI (s:St) (J n:Nat) (rv:List LV) (row:Nat→Moves):Prop where
 jn:J<s.n
 g:s.get J=some (.cells .mut rv)
 len:rv.length=n
 el:∀ a,a<n→SkC s (rv.getD a .top) 2 (mcells (row a)) (row a).length
 lo:∀ a id,a<n→uses (rv.getD a .top) id→J<id
 dj:∀ a b id,a<n→b<n→a≠b→uses (rv.getD a .top) id→¬ uses (rv.getD b .top) id
theorem RI.keep {s s':St} {J n:Nat} {rv:List LV} {row:Nat→Moves} (h:RI s J n rv row) (hn:s.n≤s'.n) (hs:∀ id,id<s.n→s'.get id=s.get id):RI s' J n rv row:=by
 have hj:=h.jn
 exact ⟨by omega,by rw [hs J hj];exact h.g,h.len,fun a ha=>(h.el a ha).mono hn fun id hu=>hs id ((h.el a ha).lt hu),h.lo,h.dj⟩
theorem getD_setL {l:List LV} {i k:Nat} {x:LV} (h:i<l.length):(l.set i x).getD k .top=if k=i then x else l.getD k .top:=by
 by_cases e:k=i
 ·subst e;simp [List.getD_eq_getElem?_getD,h]
 ·have e':i≠k:=fun h=>e h.symm
  simp [List.getD_eq_getElem?_getD,e,e']
theorem RI.app {s s3:St} {J n a j:Nat} {rv:List LV} {row:Nat→Moves} {m:Int × Bool} (h:RI s J n rv row) (ha:a<n) (hj:s.n≤j) (hS:SkC s3 (.sref j 0 ((row a).length+1) 2) 2 (mcells (row a)++[.int .i64 m.1, .bool m.2]) ((row a).length+1)) (hn:s.n≤s3.n) (hk:∀ id,id<s.n→¬ uses (rv.getD a .top) id→s3.get id=s.get id) :
  RI (s3.put J (.cells .mut (rv.set a (.sref j 0 ((row a).length+1) 2)))) J n (rv.set a (.sref j 0 ((row a).length+1) 2)) (fun b=>if b=a then row a++[m] else row b):=by
 have hj':=h.jn
 have hl:=h.len
 have hgd:=fun k=>getD_setL (l:=rv) (i:=a) (k:=k) (x:=.sref j 0 ((row a).length+1) 2) (by omega)
 refine ⟨by rw [St.n_put];omega,by rw [St.get_put,if_pos rfl],by simpa using hl,fun b hb=>?_,fun b id hb hu=>?_,fun b c id hb hc hne hu hu'=>?_⟩
 ·rw [hgd b]
  by_cases e:b=a
  ·rw [if_pos e,if_pos e,List.length_append,mcells_append]
   exact hS.mono (by rw [St.n_put];exact Nat.le_refl _) fun id hu=>by rw [St.get_put,if_neg (by have:=uses_sref.1 hu;omega)]
  ·rw [if_neg e,if_neg e]
   exact (h.el b hb).mono (by rw [St.n_put];exact hn) fun id hu=>by
    rw [St.get_put,if_neg (by have:=h.lo b id hb hu;omega)]
    exact hk id ((h.el b hb).lt hu) fun hu'=>h.dj b a id hb ha e hu hu'
 ·rw [hgd b] at hu
  by_cases e:b=a
  ·rw [if_pos e] at hu;have:=uses_sref.1 hu;omega
  ·rw [if_neg e] at hu;exact h.lo b id hb hu
 ·rw [hgd b] at hu
  rw [hgd c] at hu'
  by_cases e:b=a
  ·rw [if_pos e] at hu
   have h1:=uses_sref.1 hu
   rw [if_neg (by omega)] at hu'
   have:=(h.el c hc).lt hu'
   omega
  ·rw [if_neg e] at hu
   have h1:=(h.el b hb).lt hu
   by_cases e':c=a
   ·rw [if_pos e'] at hu'
    have:=uses_sref.1 hu'
    omega
   ·rw [if_neg e'] at hu'
    exact h.dj b c id hb hc hne hu hu'
theorem RI.fz {s:St} {J n:Nat} {rv:List LV} {row:Nat→Moves} (h:RI s J n rv row) (hn:n≤1000) (hm:∀ a,a<n→(row a).length≤1048576∧∀ x∈row a,inI64 x.1) :
  FZ (fun id=>id=J∨∃ i,i<n∧uses (rv.getD i .top) id) (fun v'=>IsRowM v' ((List.range n).map row)) frzDepth (.sref J 0 n 1) s:=by
 have hmx:maxLen=9223372036854775807:=by decide
 have hgr:∀ i,i<n→((List.range n).map row).getD i []=row i:=fun i hi=>by simp [List.getD_eq_getElem?_getD,hi]
 have hle:((List.range n).map row).length=n:=by simp
 have:=fz_row (s:=s) (j:=J) (m:=.mut) (rv:=rv) (row:=(List.range n).map row) 39 h.g (by rw [h.len,hle]) (by rw [hle];omega) (T:=fun i=>uses (rv.getD i .top)) (fun i hi=>by
  rw [hle] at hi
  rw [hgr i hi]
  have h1:=hm i hi
  exact (fz_skc 37 (h.el i hi) (mcells_closed _)).mono fun v hv=>⟨hv,by omega,h1.2⟩) (fun i k id hi hk hne=>by
  rw [hle] at hi hk
  exact h.dj i k id hi hk hne) (fun i hi hu=>by
  rw [hle] at hi
  have:=h.lo i J hi hu
  omega)
 rw [hle] at this
 exact this
theorem shM_take {m:Nat} {ms:Moves} {k:Nat} {x:Int × Bool} (h:ms[k]? = some x):shM m (ms.take (k+1))=shM m (ms.take k)++[(x.1+(m:Int),x.2)]:=by
 unfold shM
 rw [List.take_add_one,h];simp
theorem shS_take {m:Nat} {st:List Int} {k:Nat} {x:Int} (h:st[k]? = some x):shS m (st.take (k+1))=shS m (st.take k)++[x+(m:Int)]:=by
 unfold shS
 rw [List.take_add_one,h];simp
theorem shN_take {m:Nat} {nx:List (List Moves)} {k:Nat} {x:List Moves} (h:nx[k]? = some x):shN m (nx.take (k+1))=shN m (nx.take k)++[x.map (shM m)]:=by
 unfold shN
 rw [List.take_add_one,h];simp
@[simp] theorem shM_length (m:Nat) (ms:Moves):(shM m ms).length=ms.length:=by simp [shM]
@[simp] theorem shS_length (m:Nat) (l:List Int):(shS m l).length=l.length:=by simp [shS]
@[simp] theorem shN_length (m:Nat) (l:List (List Moves)):(shN m l).length=l.length:=by simp [shN]
set_option maxHeartbeats 16000000 in
theorem put_ok {s:St} {L:Int} {stv0 nxv0:LV} {st:List Int} {nx:List (List Moves)} (hE0:EI s L stv0 nxv0 st nx) {v:LV} {B:Bu} {sv nv:LV} (hB:IsB v B sv nv) (hok:Vb B) {m:Nat} (hm3:m≤3000) (hb1:st.length≤100000) (hb2:nx.length≤100000) :
  CallOk Tryz.prog GL (.fn (.func 37) [] [.pref 1 0]) [v, .int .i64 (m:Int)] s (fun _ s'=>∃ stv' nxv',EI s' L stv' nxv' (st++shS m B.start) (nx++shN m B.next)):=by
 have hstl0:=start_len hok
 have hvc:=hB.closed
 obtain ⟨rfl,hst,vs,hn⟩:=hB
 have hc1:=hst.sl.cell
 have hc2:=hn.sl.cell
 have hnl:=hn.sl.len
 have hstl:=hst.sl.len
 have hn3:=hok.2.2.1
 have hL1:=hok.1
 have hL2:=hok.2.1
 refine call_fn (first:=[]) (caps:=[.pref 1 0]) Tryz.func37 (by decide +kernel) c37 (Nat.le_of_ble_eq_true rfl) (CodeOk.mono (Q:=fun o e s'=>(o = .normal∨o = .jmp .ret)∧∃ stv' nxv',EI s' L stv' nxv' (st++shS m B.start) (nx++shN m B.next)) ?_ fun o e s' hh=>by
  exact ⟨hh.1, .tup [],by simp [l37,resVal],hh.2⟩)
 have e0:(envOf ([]++[LV.agg [.int .i64 B.L,sv,nv], .int .i64 (m:Int)]++[.pref 1 0])).at 0 = .agg [.int .i64 B.L,sv,nv]:=by rw [envOf_at];rfl
 have e1:(envOf ([]++[LV.agg [.int .i64 B.L,sv,nv], .int .i64 (m:Int)]++[.pref 1 0])).at 1 = .int .i64 (m:Int):=by rw [envOf_at];rfl
 have e2:(envOf ([]++[LV.agg [.int .i64 B.L,sv,nv], .int .i64 (m:Int)]++[.pref 1 0])).at 2 = .pref 1 0:=by rw [envOf_at];rfl
 generalize envOf ([]++[LV.agg [.int .i64 B.L,sv,nv], .int .i64 (m:Int)]++[.pref 1 0])=e at *
 refine Cd.out ?_
 unfold l37
 dsimp only [jA,jB,jG,jH,qM,qL,qN,qF,qS,qI,qA,qB,qC,qO,qm,ql]
 repeat' (first | refine gA @hstl ?_ | (refine gB @hstl ?_;intro bb hbb;cases bb<;>(try simp only [hbs,if_false,reduceCtorEq] at hbb)) | apply qc_seq | fail)
 refine qc_loop (fun k e s=>∃ (i:Nat) (stv:LV),k=B.start.length - i∧i≤B.start.length∧EI s L stv nxv0 (st++shS m (B.start.take i)) nx∧e.at 1 = .int .i64 (m:Int)∧e.at 2 = .pref 1 0∧e.at 3 = .pimm [.int .i64 B.L,sv,nv] 0∧e.at 15=sv∧e.at 16 = .int .i64 (B.start.length:Int)∧e.at 17 = .int .i64 (i:Int)) _
  ⟨0,stv0,rfl,by omega,by simpa [shS] using hE0,ef,ef,ef,ef,ef,by simp only [lk,sv1,sv2,sv3,Nat.reduceEqDiff,Nat.reduceAdd,Nat.reduceLeDiff,reduceIte,if_false,if_true,mkVal,unLV,List.map,optTmps];rfl⟩ ?_
 clear e0 e1 e2 hE0
 clear e s stv0
 rintro k e s ⟨i,stv,rfl,hi,hE,e1,e2,e3,e15,e16,e17⟩
 by_cases hil:i<B.start.length
 ·have hiI:(i:Int)<(B.start.length:Int):=by omega
  have hwi:=wrap_succ hiI hst.len
  obtain ⟨z,hz⟩:∃ z,B.start[i]? = some z:=⟨_,List.getElem?_eq_getElem hil⟩
  have hzd:B.start.getD i 0=z:=by rw [List.getD_eq_getElem?_getD,hz];rfl
  have hzr:=hok.2.2.2.1 i hil
  rw [hzd] at hzr
  have hgz:(ints B.start)[i]? = some (.int .i64 z):=by simp [ints,hz]
  have hwz:IntKind.i64.wrap (z+(m:Int))=z+(m:Int):=wrap_i64 _ (by omega) (by omega)
  have hia:∀ s,iaLV 1 sv (.int .i64 (i:Int)) s=some (.pimm (ints B.start) i,s):=fun s=>by
   have:=iaN (esz:=1) (k:=.i64) (s:=s) (i:=i) hst.sl hiI
   simpa using this
  have hsT:st++shS m (B.start.take (i+1))=st++shS m (B.start.take i)++[z+(m:Int)]:=by rw [shS_take hz,List.append_assoc]
  have hlen:(st++shS m (B.start.take i)).length≤200000:=by simp;omega
  generalize hS0:st++shS m (B.start.take i)=S0 at *
  clear hzr hzd
  have g1:=hE.g1
  repeat' (first | refine gA (And.intro @hia (And.intro @hgz @hwz)) ?_ | (refine gB (And.intro @hia (And.intro @hgz @hwz)) ?_;intro bb hbb;cases bb<;>(try simp only [hbs,if_false,reduceCtorEq] at hbb)) | apply qc_seq | fail)
  any_goals (exfalso;omega)
  refine q_appC (n:=S0.length) (esz:=1) (xv:=.int .i64 (z+(m:Int))) (yv:=stv) (vs:=[.int .i64 (z+(m:Int))]) ef rfl rfl rfl rfl ef hE.ss (by decide) (by omega) (fun s3 j3 a1 a2 a3 a4=>?_)
  have n2:=hE.n2
  have k1:s3.get 1=some (.cells .mut [.int .i64 L,stv,nxv0]):=by
   rw [a4 1 (by omega) fun hu=>by have:=hE.lo 1 (.inl hu);omega];exact g1
  have hE2:=hE.start a1 a2 a3 a4
  clear hE a1 a2 a3 a4 g1
  repeat' (first | refine gA trivial ?_ | (refine gB trivial ?_;intro bb hbb;cases bb<;>(try simp only [hbs,if_false,reduceCtorEq] at hbb)) | apply qc_seq | fail)
  refine ⟨B.start.length - (i+1),by omega,i+1,_,rfl,by omega,by rw [hsT];exact hE2,?_⟩
  simp only [lk,sv1,sv2,sv3,Nat.reduceEqDiff,Nat.reduceAdd,Nat.reduceLeDiff,reduceIte,if_false,if_true,mkVal,unLV,List.map,optTmps,hwi,e1,e2,e3,e15,e16,and_self]
 ·have hie:i=B.start.length:=by omega
  rw [hie,List.take_length] at hE
  have hlenS:(st++shS m B.start).length≤200000:=by simp;omega
  generalize hS0:st++shS m B.start=S0 at *
  repeat' (first | refine gA @hnl ?_ | (refine gB @hnl ?_;intro bb hbb;cases bb<;>(try simp only [hbs,if_false,reduceCtorEq] at hbb)) | apply qc_seq | fail)
  any_goals (exfalso;omega)
  refine qc_loop (fun k e s=>∃ (i:Nat) (nxv:LV),k=B.next.length - i∧i≤B.next.length∧EI s L stv nxv S0 (nx++shN m (B.next.take i))∧e.at 1 = .int .i64 (m:Int)∧e.at 2 = .pref 1 0∧e.at 3 = .pimm [.int .i64 B.L,sv,nv] 0∧e.at 31=nv∧e.at 32 = .int .i64 (B.next.length:Int)∧e.at 33 = .int .i64 (i:Int)) _
   ⟨0,nxv0,rfl,by omega,by simpa [shN] using hE,ef,ef,ef,ef,ef,by simp only [lk,sv1,sv2,sv3,Nat.reduceEqDiff,Nat.reduceAdd,Nat.reduceLeDiff,reduceIte,if_false,if_true,mkVal,unLV,List.map,optTmps];rfl⟩ ?_
  clear e1 e2 e3 e15 e16 e17 hE hS0 hie hil hi hbb
  clear e s i nxv0
  rintro k e s ⟨i,nxv,rfl,hi,hE,e1,e2,e3,e31,e32,e33⟩
  by_cases hil:i<B.next.length
  ·have hiI:(i:Int)<(B.next.length:Int):=by omega
   have hwi:IntKind.i64.wrap ((i:Int)+1)=((i+1:Nat):Int):=by rw [wrap_i64 _ (by omega) (by omega)];rfl
   have g1:vs[i]? = some (vs.getD i .top):=hn.get (by omega)
   obtain ⟨ws,hr⟩:=hn.row i (by omega)
   have hrow:=hok.2.2.2.2 i (by omega)
   obtain ⟨row,hrw⟩:∃ row,B.next[i]? = some row:=⟨_,List.getElem?_eq_getElem hil⟩
   have hrd:B.next.getD i []=row:=by rw [List.getD_eq_getElem?_getD,hrw];rfl
   have hNT:nx++shN m (B.next.take (i+1))=nx++shN m (B.next.take i)++[row.map (shM m)]:=by rw [shN_take hrw,List.append_assoc]
   rw [hrd] at hr hrow
   have hrl:=hr.sl.len
   have hrn:row.length≤64:=by have:=hrow.1;omega
   have hia:∀ s,iaLV 1 nv (.int .i64 (i:Int)) s=some (.pimm vs i,s):=fun s=>by
    have:=iaN (esz:=1) (k:=.i64) (s:=s) (i:=i) hn.sl hiI
    simpa using this
   have hlenN:(nx++shN m (B.next.take i)).length≤200000:=by simp;omega
   generalize hN0:nx++shN m (B.next.take i)=N0 at *
   generalize hrv:vs.getD i .top=rwv at *
   repeat' (first | refine gA (And.intro @hia (And.intro @g1 @hrl)) ?_ | (refine gB (And.intro @hia (And.intro @g1 @hrl)) ?_;intro bb hbb;cases bb<;>(try simp only [hbs,if_false,reduceCtorEq] at hbb)) | apply qc_seq | fail)
   any_goals (exfalso;omega)
   obtain ⟨n,hnn⟩:∃ n,row.length=n:=⟨_,rfl⟩
   have hbig:(n:Int)*24≤big∧(n:Int)≤big:=by unfold big;omega
   obtain ⟨J,hJs⟩:∃ J,s.n=J:=⟨_,rfl⟩
   refine q_gen (v:=.sref s.n 0 n 1) (s':=s.new (.cells .mut (List.replicate n .nils))) wN (by
    simp only [LOp.run,lk,sv1,sv2,sv3,Nat.reduceEqDiff,Nat.reduceAdd,Nat.reduceLeDiff,reduceIte,if_false,if_true,mkVal,unLV,List.map,optTmps]
    rw [hnn,if_pos ⟨by omega,Int.le_refl _,hbig.1,hbig.2,trivial⟩,rep_one]
    rfl) rfl trivial ?_
   simp only [Env.put_some]
   have hE2:=hE.keep (s':=s.new (.cells .mut (List.replicate n .nils))) (by simp) fun id hid=>by rw [St.get_new,if_neg (by omega)]
   have hJ:∀ id,uses stv id∨uses nxv id→id<J:=fun id hu=>by rw [← hJs];exact hE.lt id hu
   have hJ2:2≤J:=by rw [← hJs];exact hE.n2
   have hRI:RI (s.new (.cells .mut (List.replicate n .nils))) J n (List.replicate n .nils) (fun _=>[]):=by
    have hrg:∀ i,i<n→(List.replicate n LV.nils).getD i .top = .nils:=fun i hi=>by simp [List.getD_eq_getElem?_getD,hi]
    refine ⟨by rw [St.n_new];omega,by rw [St.get_new,if_pos hJs.symm],by simp,fun a ha=>by rw [hrg a ha];exact SkC.nil _ _,fun a id ha hu=>absurd hu (by rw [hrg a ha];exact uses_nils id),fun a b id ha hb hne hu=>absurd hu (by rw [hrg a ha];exact uses_nils id)⟩
   rw [hJs]
   generalize s.new (.cells .mut (List.replicate n .nils))=s1 at *
   clear hE hJs hbig
   repeat' (first | refine gA @hrl ?_ | (refine gB @hrl ?_;intro bb hbb;cases bb<;>(try simp only [hbs,if_false,reduceCtorEq] at hbb)) | apply qc_seq | fail)
   refine qc_loop (fun k e s=>∃ (a:Nat) (rv:List LV) (rf:Nat→Moves),k=n - a∧a≤n∧EI s L stv nxv S0 N0∧RI s J n rv rf∧(∀ b,rf b=if b<a then shM m (row.getD b []) else [])∧e.at 1 = .int .i64 (m:Int)∧e.at 2 = .pref 1 0∧e.at 3 = .pimm [.int .i64 B.L,sv,nv] 0∧e.at 31=nv∧e.at 32 = .int .i64 (B.next.length:Int)∧e.at 33 = .int .i64 (i:Int)∧e.at 9 = .sref J 0 n 1∧e.at 40=rwv∧e.at 41 = .int .i64 (n:Int)∧e.at 42 = .int .i64 (a:Int)) _
    ⟨0,_,_,rfl,by omega,hE2,hRI,fun b=>by rw [if_neg (by omega)],ef,ef,ef,ef,ef,ef,ef,ef,ef,by simp only [lk,sv1,sv2,sv3,Nat.reduceEqDiff,Nat.reduceAdd,Nat.reduceLeDiff,reduceIte,if_false,if_true,mkVal,unLV,List.map,optTmps];rfl⟩ ?_
   clear e1 e2 e3 e31 e32 e33 hE2 hRI hbb
   clear e s s1
   rintro k e s ⟨a,rv,rf,rfl,han,hE,hRI,hrf,e1,e2,e3,e31,e32,e33,e9,e40,e41,e42⟩
   by_cases hal:a<n
   ·have haI:(a:Int)<(n:Int):=by omega
    have hwa:IntKind.i64.wrap ((a:Int)+1)=((a+1:Nat):Int):=by rw [wrap_i64 _ (by omega) (by omega)];rfl
    have g2:ws[a]? = some (ws.getD a .top):=hr.get (by omega)
    have hm':=hr.row a (by omega)
    have hmo:=hrow.2 a (by omega)
    have hra0:=hrf a
    rw [if_neg (by omega)] at hra0
    have hmsl:=mok_len' hmo
    generalize hms:row.getD a []=ms at *
    generalize hmv:ws.getD a .top=mv at *
    have hml:=hm'.sl.len
    have hiaa:∀ s,iaLV 1 rwv (.int .i64 (a:Int)) s=some (.pimm ws a,s):=fun s=>by
     have:=iaN (esz:=1) (k:=.i64) (s:=s) (i:=a) hr.sl (by omega)
     simpa using this
    repeat' (first | refine gA (And.intro @hiaa (And.intro @g2 @hml)) ?_ | (refine gB (And.intro @hiaa (And.intro @g2 @hml)) ?_;intro bb hbb;cases bb<;>(try simp only [hbs,if_false,reduceCtorEq] at hbb)) | apply qc_seq | fail)
    any_goals (exfalso;omega)
    refine qc_loop (fun q e s=>∃ (k:Nat) (rv:List LV) (rf:Nat→Moves),q=ms.length - k∧k≤ms.length∧EI s L stv nxv S0 N0∧RI s J n rv rf∧(∀ b,rf b=if b<a then shM m (row.getD b []) else if b=a then shM m (ms.take k) else [])∧e.at 1 = .int .i64 (m:Int)∧e.at 2 = .pref 1 0∧e.at 3 = .pimm [.int .i64 B.L,sv,nv] 0∧e.at 31=nv∧e.at 32 = .int .i64 (B.next.length:Int)∧e.at 33 = .int .i64 (i:Int)∧e.at 9 = .sref J 0 n 1∧e.at 40=rwv∧e.at 41 = .int .i64 (n:Int)∧e.at 42 = .int .i64 (a:Int)∧e.at 10 = .int .i64 (a:Int)∧e.at 47=mv∧e.at 48 = .int .i64 (ms.length:Int)∧e.at 49 = .int .i64 (k:Int)) _
     ⟨0, rv, rf, rfl, by omega, hE, hRI, fun b => by
      rw [hrf b]
      by_cases h1:b<a
      ·rw [if_pos h1,if_pos h1]
      ·rw [if_neg h1,if_neg h1]
       split<;>rfl,ef,ef,ef,ef,ef,ef,ef,ef,ef,ef,ef,ef,ef,by simp only [lk,sv1,sv2,sv3,Nat.reduceEqDiff,Nat.reduceAdd,Nat.reduceLeDiff,reduceIte,if_false,if_true,mkVal,unLV,List.map,optTmps];rfl⟩ ?_
    clear e1 e2 e3 e31 e32 e33 e9 e40 e41 e42 hE hRI hrf hra0 hbb
    clear e s rv rf
    rintro q e s ⟨k,rv,rf,rfl,hkn,hE,hRI,hrf,e1,e2,e3,e31,e32,e33,e9,e40,e41,e42,e10,e47,e48,e49⟩
    by_cases hkl:k<ms.length
    ·have hkI:(k:Int)<(ms.length:Int):=by omega
     have hwk:IntKind.i64.wrap ((k:Int)+1)=((k+1:Nat):Int):=by rw [wrap_i64 _ (by omega) (by omega)];rfl
     have hld:=fun s=>loadN_moves (s:=s) hkl
     have hmr:=hmo k hkl
     obtain ⟨md,hmd⟩:∃ md,ms[k]? = some md:=⟨_,List.getElem?_eq_getElem hkl⟩
     have hgd:ms.getD k (0,false)=md:=by rw [List.getD_eq_getElem?_getD,hmd];rfl
     rw [hgd] at hld hmr
     have hST:=shM_take (m:=m) hmd
     obtain ⟨mt,mg⟩:=md
     simp only at hmr hld hST
     have hwt:IntKind.i64.wrap (mt+(m:Int))=mt+(m:Int):=wrap_i64 _ (by omega) (by omega)
     clear hmr hgd
     repeat' (first | refine gA (And.intro (@iaN _ _ _ hm'.sl) @hld) ?_ | (refine gB (And.intro (@iaN _ _ _ hm'.sl) @hld) ?_;intro bb hbb;cases bb<;>(try simp only [hbs,if_false,reduceCtorEq] at hbb)) | apply qc_seq | fail)
     any_goals (exfalso;omega)
     generalize hs2:(s.new (.cells .mut [.int .i64 0, .bool false])).put s.n (.cells .mut [.int .i64 mt, .bool mg])=s2
     have n2:s2.n=s.n+1:=by rw [← hs2];rfl
     have o2:∀ id,id<s.n→s2.get id=s.get id:=fun id h=>by rw [← hs2,St.get_put,if_neg (by omega),St.get_new,if_neg (by omega)]
     obtain ⟨b0,hb0⟩:∃ b0,s.n=b0:=⟨_,rfl⟩
     have hE3:=hE.keep (s':=s2) (by omega) o2
     have hR3:=hRI.keep (s':=s2) (by omega) o2
     have hJb:J<b0:=by have:=hRI.jn;omega
     have hub:¬ uses (rv.getD a .top) b0:=fun hu=>by have:=(hRI.el a hal).lt hu;omega
     rw [hb0] at n2 ⊢
     have gb:s2.get b0=some (.cells .mut [.int .i64 mt, .bool mg]):=by rw [← hs2,← hb0,St.get_put,if_pos rfl]
     clear hs2 o2 hE hRI hb0
     have gJ:=hR3.g
     have hrvl:=hR3.len
     have ga:rv[a]? = some (rv.getD a .top):=by simp [List.getD_eq_getElem?_getD,hrvl,hal]
     repeat' (first | refine gA (And.intro @iaS (And.intro @ga @hwt)) ?_ | (refine gB (And.intro @iaS (And.intro @ga @hwt)) ?_;intro bb hbb;cases bb<;>(try simp only [hbs,if_false,reduceCtorEq] at hbb)) | apply qc_seq | fail)
     refine q_gen (v:=.agg [.int .i64 (mt+(m:Int)), .bool mg]) (s':=s2) wN (by simp only [LOp.run,lk,sv1,sv2,sv3,Nat.reduceEqDiff,Nat.reduceAdd,Nat.reduceLeDiff,reduceIte,if_false,if_true,mkVal,unLV,List.map,optTmps,evParts,fillParts,hwt];rfl) rfl trivial ?_
     simp only [Env.put_some]
     have f5:∀ id,id<s2.n→(s2.new (.cells .mut [.int .i64 (mt+(m:Int)), .bool mg])).get id=s2.get id:=fun id hid=>by rw [St.get_new,if_neg (by omega)]
     have fb:(s2.new (.cells .mut [.int .i64 (mt+(m:Int)), .bool mg])).get b0=some (.cells .mut [.int .i64 mt, .bool mg]):=by rw [f5 _ (by omega)];exact gb
     have fJ:(s2.new (.cells .mut [.int .i64 (mt+(m:Int)), .bool mg])).get J=some (.cells .mut rv):=by rw [f5 _ (by omega)];exact gJ
     have hra:=hrf a
     rw [if_neg (by omega),if_pos rfl] at hra
     have hral:(rf a).length=k:=by rw [hra];simp;omega
     refine q_appK (n:=(rf a).length) (esz:=2) (xv:=.agg [.int .i64 (mt+(m:Int)), .bool mg]) (yv:=rv.getD a .top) (vs:=[.int .i64 (mt+(m:Int)), .bool mg]) ef rfl rfl rfl rfl ef (hR3.el a hal) ⟨.inr ⟨rfl,by simp only [LOp.run,lk,sv1,sv2,sv3,Nat.reduceEqDiff,Nat.reduceAdd,Nat.reduceLeDiff,reduceIte,if_false,if_true,mkVal,unLV,List.map,optTmps,fJ,ga,Option.bind_eq_bind]⟩, .inr ⟨rfl,by simp only [LOp.run,lk,sv1,sv2,sv3,Nat.reduceEqDiff,Nat.reduceAdd,Nat.reduceLeDiff,reduceIte,if_false,if_true,mkVal,unLV,List.map,optTmps,fb,Option.bind_eq_bind]⟩, .inr ⟨rfl,by simp only [LOp.run,lk,sv1,sv2,sv3,Nat.reduceEqDiff,Nat.reduceAdd,Nat.reduceLeDiff,reduceIte,if_false,if_true,mkVal,unLV,List.map,optTmps,fb,Option.bind_eq_bind]⟩,trivial⟩ (by decide) (by omega) (fun s3 j3 a1 a2 a3 a4=>?_)
     have hR4:=hR3.app (m:=(mt+(m:Int),mg)) hal a1 a2 a3 a4
     have hlo:=hR3.lo
     have hE4:=hE3.keepJ (s':=s3.put J (.cells .mut (rv.set a (.sref j3 0 ((rf a).length+1) 2)))) hJ hJ2 (by rw [St.n_put];exact a3) fun id hid=>by
      rw [St.get_put,if_neg (by omega)]
      exact a4 id (by omega) fun hu=>by have:=hlo a id hal hu;omega
     have gJ3:s3.get J=some (.cells .mut rv):=by rw [a4 J (by omega) fun hu=>by have:=hlo a J hal hu;omega];exact gJ
     clear fb fJ f5 hE3 hR3 a1 a2 a3 a4 gJ gb hlo
     repeat' (first | refine gA @iaS ?_ | (refine gB @iaS ?_;intro bb hbb;cases bb<;>(try simp only [hbs,if_false,reduceCtorEq] at hbb)) | apply qc_seq | fail)
     refine q_storeG (i:=J) (o:=a) (n:=1) (cs:=rv) (vs:=[.sref j3 0 ((rf a).length+1) 2]) (cs':=rv.set a (.sref j3 0 ((rf a).length+1) 2)) (v:=.sref j3 0 ((rf a).length+1) 2) ef ef rfl gJ3 rfl (by omega) rfl ?_
     generalize s3.put J (.cells .mut (rv.set a (.sref j3 0 ((rf a).length+1) 2)))=s6 at *
     generalize rv.set a (.sref j3 0 ((rf a).length+1) 2)=rv6 at *
     clear gJ3 ga hrvl hub
     repeat' (first | refine gA trivial ?_ | (refine gB trivial ?_;intro bb hbb;cases bb<;>(try simp only [hbs,if_false,reduceCtorEq] at hbb)) | apply qc_seq | fail)
     refine ⟨ms.length - (k+1),by omega,k+1,rv6,_,rfl,by omega,hE4,hR4,fun b=>?_,?_⟩
     ·by_cases hba:b=a
      ·subst hba
       rw [if_pos rfl,if_neg (by omega),if_pos rfl,hra,hST]
      ·rw [if_neg hba,hrf b,if_neg hba,if_neg hba]
     ·simp only [lk,sv1,sv2,sv3,Nat.reduceEqDiff,Nat.reduceAdd,Nat.reduceLeDiff,reduceIte,if_false,if_true,mkVal,unLV,List.map,optTmps,hwk,e1,e2,e3,e31,e32,e33,e9,e40,e41,e42,e10,e47,e48,and_self]
    ·have hk':k=ms.length:=by omega
     rw [hk',List.take_length] at hrf
     repeat' (first | refine gA trivial ?_ | (refine gB trivial ?_;intro bb hbb;cases bb<;>(try simp only [hbs,if_false,reduceCtorEq] at hbb)) | apply qc_seq | fail)
     any_goals (exfalso;omega)
     refine ⟨n - (a+1),by omega,a+1,rv,rf,rfl,by omega,hE,hRI,fun b=>?_,?_⟩
     ·rw [hrf b]
      by_cases h1:b<a
      ·rw [if_pos h1,if_pos (by omega)]
      ·rw [if_neg h1]
       by_cases h2:b=a
       ·subst h2;rw [if_pos rfl,if_pos (by omega),hms]
       ·rw [if_neg h2,if_neg (by omega)]
     ·simp only [lk,sv1,sv2,sv3,Nat.reduceEqDiff,Nat.reduceAdd,Nat.reduceLeDiff,reduceIte,if_false,if_true,mkVal,unLV,List.map,optTmps,hwa,e1,e2,e3,e31,e32,e33,e9,e40,e41,and_self]
   ·obtain rfl:a=n:=by omega
    have hrm:∀ b,b<a→rf b=shM m (row.getD b []):=fun b hb=>by rw [hrf b,if_pos hb]
    have hrow2:(List.range a).map rf=row.map (shM m):=by
     apply List.ext_getElem (by simp [hnn])
     intro b h1 h2
     have hb:b<a:=by simpa using h1
     simp only [List.getElem_map,List.getElem_range]
     rw [hrm b hb,List.getD_eq_getElem?_getD,List.getElem?_eq_getElem (by omega)];rfl
    have hFz:=hRI.fz (by omega) fun b hb=>by
     rw [hrm b hb]
     have hmo:=hrow.2 b (by omega)
     have:=mok_len' hmo
     refine ⟨by simp only [shM_length];omega,fun x hx=>?_⟩
     obtain ⟨y,hy,rfl⟩:=List.mem_map.1 hx
     obtain ⟨c,hc⟩:=List.mem_iff_getElem?.1 hy
     have hcl:=(List.getElem?_eq_some_iff.1 hc).1
     have:=hmo c hcl
     have hgd:(row.getD b []).getD c (0,false)=y:=by rw [List.getD_eq_getElem?_getD,hc];rfl
     rw [hgd] at this
     unfold inI64
     simp only
     omega
    rw [hrow2] at hFz
    obtain ⟨rvs,r1,r2,r3⟩:=hE.rows
    have hjn:=hRI.jn
    have hTb:∀ id,(id=J∨∃ i,i<a∧uses (rv.getD i .top) id)→J≤id∧id<s.n:=by
     rintro id (rfl | ⟨b,hb,hu⟩)
     ·omega
     ·have:=hRI.lo b id hb hu
      have:=(hRI.el b hb).lt hu
      omega
    have hTb2:∀ id,(id=J∨∃ i,i<a∧uses (rv.getD i .top) id)→id<s.n∧¬ uses nxv id:=fun id hid=>by
     have:=hTb id hid
     exact ⟨this.2,fun hu=>by have:=hJ id (.inr hu);omega⟩
    have g1:=hE.g1
    repeat' (first | refine gA trivial ?_ | (refine gB trivial ?_;intro bb hbb;cases bb<;>(try simp only [hbs,if_false,reduceCtorEq] at hbb)) | apply qc_seq | fail)
    any_goals (exfalso;omega)
    refine q_appF (n:=N0.length) (xv:=.sref J 0 a 1) (yv:=nxv) ef rfl ef r2 hFz hTb2 (by decide) (by omega) (fun s5 j5 v5 a1 a2 a3 a4 a5=>?_)
    have hE5:=hE.row (T:=fun id=>id=J∨∃ i,i<a∧uses (rv.getD i .top) id) hJ hTb hJ2 r1 r3 a2 a1 a3 a4 a5
    have k1:s5.get 1=some (.cells .mut [.int .i64 L,stv,nxv]):=by
     rw [a5 1 (by have:=hE.n2;omega) (fun hu=>by have:=hE.lo 1 (.inr hu);omega) fun hid=>by have:=hTb 1 hid;omega];exact g1
    clear hE hRI hFz hTb hTb2 a1 a2 a3 a4 a5 r2 r3 g1
    repeat' (first | refine gA trivial ?_ | (refine gB trivial ?_;intro bb hbb;cases bb<;>(try simp only [hbs,if_false,reduceCtorEq] at hbb)) | apply qc_seq | fail)
    refine ⟨B.next.length - (i+1),by omega,i+1,_,rfl,by omega,by rw [hNT];exact hE5,?_⟩
    simp only [lk,sv1,sv2,sv3,Nat.reduceEqDiff,Nat.reduceAdd,Nat.reduceLeDiff,reduceIte,if_false,if_true,mkVal,unLV,List.map,optTmps,hwi,e1,e2,e3,e31,e32,and_self]
  ·have hie:i=B.next.length:=by omega
   rw [hie,List.take_length] at hE
   repeat' (first | refine gA trivial ?_ | (refine gB trivial ?_;intro bb hbb;cases bb<;>(try simp only [hbs,if_false,reduceCtorEq] at hbb)) | apply qc_seq | fail)
   any_goals (exfalso;omega)
   exact ⟨.inl trivial,stv,nxv,hE⟩
end Go.Proofs.YtgobbogomchnhaaGreatDoor
