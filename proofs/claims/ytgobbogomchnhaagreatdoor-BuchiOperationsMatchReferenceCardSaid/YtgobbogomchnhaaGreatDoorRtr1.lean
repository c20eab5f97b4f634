/- The reference's Trim: what it keeps; plain parts. -/
import Derived.Test.YtgobbogomchnhaaGreatDoorRout
import Derived.Test.YtgobbogomchnhaaGreatDoorRval
import Derived.Test.YtgobbogomchnhaaGreatDoorBpn
import Derived.Test.YtgobbogomchnhaaGreatDoorPboth2
set_option linter.unusedSimpArgs false
set_option linter.unusedVariables false
section
set_option linter.unusedSimpArgs false
set_option linter.unusedVariables false
namespace Go.Proofs.YtgobbogomchnhaaGreatDoor
open Go Go.Pv
open Classical
structure RV (s:St) (w:LV) (ms:Moves) (T:Nat→Prop):Prop where
 fz:FZ T (fun v'=>IsMoves v' ms) frzDepth w s
 cell:isCell w=true
 lt:∀ id,T id→id<s.n
theorem RV.keep {s s':St} {w:LV} {ms:Moves} {T:Nat→Prop} (h:RV s w ms T) (hn:s.n≤s'.n) (hs:∀ id,T id→s'.get id=s.get id):RV s' w ms T:=⟨h.fz.stable hs,h.cell,fun id hid=>Nat.lt_of_lt_of_le (h.lt id hid) hn⟩
theorem RV.val {w:LV} {ms:Moves} (h:IsMoves w ms) (s:St):RV s w ms (fun _=>False):=⟨fun s1 _=>⟨w,s1,frzD_closed h.closed,h,rfl,fun _ _=>rfl⟩,h.sl.cell,fun _ h=>h.elim⟩
theorem RV.emp (s:St):RV (s.new (.cells .mut [])) (.sref s.n 0 0 2) [] (uses (.sref s.n 0 0 2)) :=
 have h:SkE (s.new (.cells .mut [])) (.sref s.n 0 0 2) 2 [] 0:=⟨rfl, .inr ⟨s.n,rfl,by simp,by simp [St.get_new]⟩⟩
 ⟨(fz_ske 38 h rfl).mono fun v hv=>⟨hv,by decide,fun x hx=>by cases hx⟩,rfl,fun id hu=>h.lt hu⟩
theorem q_insert {K:Env→St→Prop} {l:List LOper} {e:Env} {s:St} {fl:Bool} {d:Nat} {xs:List Opd} {w:LV} {ms:Moves} {T:Nat→Prop} {m:Int × Bool} (hw:RV s w ms T) (hm:inI64 m.1) (hl:ms.length≤100000) (has:xs.map (·.ev e)=[w, .agg [.int .i64 m.1, .bool m.2]])
  (h:∀ r s',IsMoves r (insM ms m)→s'.n=s.n→(∀ id,¬ T id→s'.get id=s.get id)→W Tryz.prog GL K l (Tr.set e d r) s') :
  W Tryz.prog GL K (⟨some d, .call (.c (.fn (.func 32) [] [])) xs,none,[],fl⟩::l) e s:=by
 obtain ⟨w',s2,f1,f2,f3,f4⟩:=hw.fz s fun _ _=>rfl
 refine q_call wN (fv:=.fn (.func 32) [] []) rfl has (call_frz (args':=[w', .agg [.int .i64 m.1, .bool m.2]]) (s':=s2) (by
  have h2:frz frzDepth (.agg [.int .i64 m.1, .bool m.2]) s2=some (.agg [.int .i64 m.1, .bool m.2],s2):=frzD_closed rfl
  simp [frz.frzAll,f1,h2]) (pure_callEx hG0 (insert_ok f2 m hm hl) fun r hr hrc=>⟨trivial,?_⟩))
 simp only [Env.put_some]
 exact h r s2 hr f3 f4
def zc (n:Nat) (f:Nat→Int):List LV:=(List.range n).map fun p=>.int .i64 (f p)
theorem zc_length (n:Nat) (f:Nat→Int):(zc n f).length=n:=by simp [zc]
theorem zc_get {n:Nat} {f:Nat→Int} {p:Nat} (h:p<n):(zc n f)[p]? = some (.int .i64 (f p)):=by simp [zc,h]
theorem zc_set {n:Nat} {f:Nat→Int} {p:Nat} {z:Int} (h:p<n):(zc n f).set p (.int .i64 z)=zc n (fun q=>if q=p then z else f q):=by
 apply List.ext_getElem (by simp [zc])
 intro q h1 h2
 have hq:q<n:=by simpa [zc] using h2
 simp only [zc,List.getElem_set,List.getElem_map,List.getElem_range]
 by_cases e:p=q
 ·subst e;simp
 ·rw [if_neg e,if_neg fun h=>e h.symm]
noncomputable def plf (ps:List Nat) (p:Nat):Int:=if p∈ps then (numN ps p:Int) else -1
theorem plf_add {ps:List Nat} {p:Nat} (h:p ∉ ps):(fun q=>if q=p then (ps.length:Int) else plf ps q)=plf (ps++[p]):=by
 funext q
 obtain ⟨h1,h2⟩:=numN_new h
 rw [h1] at h2
 by_cases e:q=p
 ·subst e
  rw [if_pos rfl]
  unfold plf
  rw [if_pos (by simp),h2]
 ·rw [if_neg e]
  unfold plf
  by_cases hq:q∈ps
  ·rw [if_pos hq,if_pos (by simp [hq]),numN_pre ⟨[p],rfl⟩ hq]
  ·rw [if_neg hq,if_neg (by simp [hq,e])]
structure TM (s:St) (L:Int) (n:Nat) (ov stv nxv:LV) (ps:List Nat) (st:List Int) (nx:List (List Moves)):Prop where
 ob:OB s 3 L stv nxv st nx
 pl:s.get 1=some (.cells .mut (zc n (plf ps)))
 od:SkE s ov 1 (nints ps) ps.length
 oo:∀ id,uses ov id→¬ OU 3 stv nxv id∧id≠1
def TU (ov stv nxv:LV) (id:Nat):Prop:=OU 3 stv nxv id∨id=1∨uses ov id
theorem OB.n1 {s:St} {L:Int} {stv nxv:LV} {st:List Int} {nx:List (List Moves)} (h:OB s 3 L stv nxv st nx):¬ OU 3 stv nxv 1:=by
 rintro (h1 | h1 | h1 | h1)
 ·omega
 ·omega
 ·have:=h.lo 1 (.inl h1);omega
 ·have:=h.lo 1 (.inr h1);omega
theorem TM.keep {s s':St} {L:Int} {n:Nat} {ov stv nxv:LV} {ps:List Nat} {st:List Int} {nx:List (List Moves)} (h:TM s L n ov stv nxv ps st nx) (hn:s.n≤s'.n) (hs:∀ id,TU ov stv nxv id→s'.get id=s.get id):TM s' L n ov stv nxv ps st nx:=
 ⟨h.ob.keep hn fun id hu=>hs id (.inl hu),by rw [hs 1 (.inr (.inl rfl))];exact h.pl,h.od.mono hn fun id hu=>hs id (.inr (.inr hu)),h.oo⟩
theorem TM.lt {s:St} {L:Int} {n:Nat} {ov stv nxv:LV} {ps:List Nat} {st:List Int} {nx:List (List Moves)} (h:TM s L n ov stv nxv ps st nx) {id:Nat} (hu:TU ov stv nxv id):id<s.n:=by
 rcases hu with hu | rfl | hu
 ·exact h.ob.lt hu
 ·have:=h.ob.on;omega
 ·exact h.od.lt hu
theorem TM.add {s s2 s3:St} {L:Int} {n:Nat} {ov stv nxv:LV} {ps:List Nat} {st:List Int} {nx:List (List Moves)} {p j:Nat} (h:TM s L n ov stv nxv ps st nx) (hp:p ∉ ps) (h2:s2=s.put 1 (.cells .mut (zc n (plf (ps++[p]))))) (hj:s2.n≤j) (hS:SkC s3 (.sref j 0 (ps.length+1) 1) 1 (nints ps++[.int .i64 (p:Int)]) (ps.length+1)) (hn:s2.n≤s3.n) (hk:∀ id,id<s2.n→¬ uses ov id→s3.get id=s2.get id) :
  TM s3 L n (.sref j 0 (ps.length+1) 1) stv nxv (ps++[p]) st nx:=by
 subst h2
 have n1:=h.ob.n1
 rw [St.n_put] at hj hn hk
 refine ⟨h.ob.keep hn fun id hu=>?_,?_,?_,fun id hu=>?_⟩
 ·rw [hk id (h.ob.lt hu) fun hu'=>(h.oo id hu').1 hu,St.get_put,if_neg (by rintro rfl;exact n1 hu)]
 ·rw [hk 1 (by have:=h.ob.on;omega) fun hu=>(h.oo 1 hu).2 rfl,St.get_put,if_pos rfl]
 ·rw [nints_append,List.length_append]
  exact SkC.e hS
 ·have:=uses_sref.1 hu
  have on:=h.ob.on
  exact ⟨fun hu'=>by have:=h.ob.lt hu';omega,by omega⟩
theorem TM.start {s s3:St} {L:Int} {n:Nat} {ov stv nxv:LV} {ps:List Nat} {st:List Int} {nx:List (List Moves)} {z:Int} {j:Nat} (h:TM s L n ov stv nxv ps st nx) (hj:s.n≤j) (hS:SkC s3 (.sref j 0 (st.length+1) 1) 1 (ints st++[.int .i64 z]) (st.length+1)) (hn:s.n≤s3.n) (hk:∀ id,id<s.n→¬ uses stv id→s3.get id=s.get id) :
  TM (s3.put 3 (.cells .mut [.int .i64 L, .sref j 0 (st.length+1) 1,nxv])) L n ov (.sref j 0 (st.length+1) 1) nxv ps (st++[z]) nx:=by
 have on:=h.ob.on
 have n1:=h.ob.n1
 refine ⟨h.ob.start hj hS hn hk,?_,h.od.mono (by rw [St.n_put];exact hn) fun id hu=>?_,fun id hu=>⟨?_,(h.oo id hu).2⟩⟩
 ·rw [St.get_put,if_neg (by omega),hk 1 (by omega) fun hu=>n1 (.inr (.inr (.inl hu)))];exact h.pl
 ·rw [St.get_put,if_neg (by rintro rfl;exact (h.oo 3 hu).1 (.inr (.inl rfl)))]
  exact hk id (h.od.lt hu) fun hu'=>(h.oo id hu).1 (.inr (.inr (.inl hu')))
 ·rintro (h1 | h1 | h1 | h1)
  ·exact (h.oo id hu).1 (.inl h1)
  ·exact (h.oo id hu).1 (.inr (.inl h1))
  ·have:=uses_sref.1 h1
   have:=h.od.lt hu
   omega
  ·exact (h.oo id hu).1 (.inr (.inr (.inr h1)))
theorem TM.row {s s3:St} {L:Int} {n:Nat} {ov stv nxv v':LV} {ps:List Nat} {st:List Int} {nx:List (List Moves)} {row:List Moves} {j:Nat} {rvs:List LV} {T:Nat→Prop} (h:TM s L n ov stv nxv ps st nx) (hT:∀ id,T id→¬ TU ov stv nxv id) (h1:rvs.length=nx.length) (h3:∀ i,i<nx.length→IsRowM (rvs.getD i .top) (nx.getD i [])) (hv:IsRowM v' row) (hj:s.n≤j) (hS:SkC s3 (.sref j 0 (nx.length+1) 1) 1 (rvs++[v']) (nx.length+1)) (hn:s.n≤s3.n) (hk:∀ id,id<s.n→¬ uses nxv id→¬ T id→s3.get id=s.get id) :
  TM (s3.put 3 (.cells .mut [.int .i64 L,stv, .sref j 0 (nx.length+1) 1])) L n ov stv (.sref j 0 (nx.length+1) 1) ps st (nx++[row]):=by
 have on:=h.ob.on
 have n1:=h.ob.n1
 refine ⟨h.ob.row (T:=T) (fun id ht hu=>hT id ht (.inl hu)) h1 h3 hv hj hS hn hk,?_,h.od.mono (by rw [St.n_put];exact hn) fun id hu=>?_,fun id hu=>⟨?_,(h.oo id hu).2⟩⟩
 ·rw [St.get_put,if_neg (by omega),hk 1 (by omega) (fun hu=>n1 (.inr (.inr (.inr hu)))) fun ht=>hT 1 ht (.inr (.inl rfl))];exact h.pl
 ·rw [St.get_put,if_neg (by rintro rfl;exact (h.oo 3 hu).1 (.inr (.inl rfl)))]
  exact hk id (h.od.lt hu) (fun hu'=>(h.oo id hu).1 (.inr (.inr (.inr hu')))) fun ht=>hT id ht (.inr (.inr hu))
 ·rintro (h1 | h1 | h1 | h1)
  ·exact (h.oo id hu).1 (.inl h1)
  ·exact (h.oo id hu).1 (.inr (.inl h1))
  ·exact (h.oo id hu).1 (.inr (.inr (.inl h1)))
  ·have:=uses_sref.1 h1
   have:=h.od.lt hu
   omega
theorem suc_split {B:Bu} {p x:Nat} (k:Nat) (hx:(x:Int)<B.L):∃ l2,succT B p=(List.range x).flatMap (succA B p)++(succA B p x).take k++l2:=by
 obtain ⟨r,h1⟩:∃ r,List.range B.L.toNat=List.range x++x::r:=by
  have h2:x<(List.range B.L.toNat).length:=by rw [List.length_range];omega
  have h3:=List.drop_eq_getElem_cons h2
  rw [List.getElem_range] at h3
  refine ⟨(List.range B.L.toNat).drop (x+1),?_⟩
  rw [← h3]
  have h4:List.range x=(List.range B.L.toNat).take x:=by rw [List.take_range,Nat.min_eq_left (by omega)]
  rw [h4,List.take_append_drop]
 refine ⟨(succA B p x).drop k++r.flatMap (succA B p),?_⟩
 have h5:=List.take_append_drop k (succA B p x)
 unfold succT
 rw [h1,List.flatMap_append,List.flatMap_cons]
 conv=>lhs;rw [← h5]
 simp only [List.append_assoc]
theorem pre_adds {ps l1 l2:List Nat} : Pre (addsN ps l1) (addsN ps (l1++l2)):=by rw [addsN_append];exact addsN_pre _ _
noncomputable def rowC (B:Bu) (p:Nat):List Moves:=(List.range B.L.toNat).map fun a=>insL [] (renM (trimR B) (rowM B p a))
theorem run_step {suc:Nat→List Nat} {f i:Nat} {ps:List Nat} {p:Nat} (h:ps[i]? = some p):runN suc (f+1) i ps=runN suc f (i+1) (addsN ps (suc p)):=by
 simp only [runN,h]
theorem run_end {suc:Nat→List Nat} {f i:Nat} {ps:List Nat} (h:ps.length≤i):runN suc f i ps=ps:=by
 cases f with
 | zero=>rfl
 | succ f=>simp [runN,List.getElem?_eq_none h]
theorem pre_get {a b:List Nat} (h:Pre a b) {i p:Nat} (hp:a[i]? = some p):b[i]? = some p:=by
 obtain ⟨t,rfl⟩:=h
 rw [List.getElem?_append_left (List.getElem?_eq_some_iff.1 hp).1];exact hp
theorem pre_len {a b:List Nat} (h:Pre a b):a.length≤b.length:=by
 obtain ⟨t,rfl⟩:=h
 simp
theorem insM_len {ms:Moves} {m:Int × Bool} : (insM ms m).length≤ms.length+1:=by
 have hG:∀ (l:Moves) (d:Bool),(insG m l d).length≤l.length+(if d=true then 0 else 1):=by
  intro l
  induction l with
  | nil=>intro d;cases d<;>simp [insG]
  | cons a l ih=>
   intro d
   simp only [insG]
   split
   ·rename_i hd
    have:=ih true
    simp only [List.length_cons,hd.1] at this ⊢
    simp at this ⊢
    omega
   ·have:=ih d
    simp only [List.length_cons]
    omega
 unfold insM
 split
 ·omega
 ·have:=hG ms false
  simpa using this
theorem insL_len {l:Moves} : ∀ {ms:Moves},(insL ms l).length≤ms.length+l.length:=by
 induction l with
 | nil=>intro ms;simp [insL]
 | cons a l ih=>
  intro ms
  have h1:insL ms (a::l)=insL (insM ms a) l:=rfl
  rw [h1]
  have:=ih (ms:=insM ms a)
  have:=insM_len (ms:=ms) (m:=a)
  simp only [List.length_cons]
  omega
end Go.Proofs.YtgobbogomchnhaaGreatDoor
end
section
set_option linter.unusedSimpArgs false
set_option linter.unusedVariables false
namespace Go.Proofs.YtgobbogomchnhaaGreatDoor
open Go Go.Pv
open Classical
structure TB (s:St) (L:Int) (m:Nat) (ov stv nxv:LV) (ps:List Nat) (st:List Int) (nx:List (List Moves)):Prop where
 ob:OB s 1 L stv nxv st nx
 od:SkE s ov 3 (tcells3 m ps) ps.length
 oo:∀ id,uses ov id→¬ OU 1 stv nxv id
def TV (ov stv nxv:LV) (id:Nat):Prop:=OU 1 stv nxv id∨uses ov id
theorem TB.keep {s s':St} {L:Int} {m:Nat} {ov stv nxv:LV} {ps:List Nat} {st:List Int} {nx:List (List Moves)} (h:TB s L m ov stv nxv ps st nx) (hn:s.n≤s'.n) (hs:∀ id,TV ov stv nxv id→s'.get id=s.get id):TB s' L m ov stv nxv ps st nx:=
 ⟨h.ob.keep hn fun id hu=>hs id (.inl hu),h.od.mono hn fun id hu=>hs id (.inr hu),h.oo⟩
theorem TB.lt {s:St} {L:Int} {m:Nat} {ov stv nxv:LV} {ps:List Nat} {st:List Int} {nx:List (List Moves)} (h:TB s L m ov stv nxv ps st nx) {id:Nat} (hu:TV ov stv nxv id):id<s.n:=by
 rcases hu with hu | hu
 ·exact h.ob.lt hu
 ·exact h.od.lt hu
theorem TB.od' {s s3:St} {L:Int} {m:Nat} {ov v' stv nxv:LV} {ps ps':List Nat} {st:List Int} {nx:List (List Moves)} (h:TB s L m ov stv nxv ps st nx) (hS:SkE s3 v' 3 (tcells3 m ps') ps'.length) (hn:s.n≤s3.n) (hu:∀ id,uses v' id→uses ov id∨s.n≤id) (hk:∀ id,id<s.n→¬ uses ov id→s3.get id=s.get id):TB s3 L m v' stv nxv ps' st nx:=
 ⟨h.ob.keep hn fun id hu=>hk id (h.ob.lt hu) fun hu'=>h.oo id hu' hu,hS,fun id hid hu'=>by
  rcases hu id hid with h1 | h1
  ·exact h.oo id h1 hu'
  ·have:=h.ob.lt hu';omega⟩
theorem TB.start {s s3:St} {L:Int} {m:Nat} {ov stv nxv:LV} {ps:List Nat} {st:List Int} {nx:List (List Moves)} {z:Int} {j:Nat} (h:TB s L m ov stv nxv ps st nx) (hj:s.n≤j) (hS:SkC s3 (.sref j 0 (st.length+1) 1) 1 (ints st++[.int .i64 z]) (st.length+1)) (hn:s.n≤s3.n) (hk:∀ id,id<s.n→¬ uses stv id→s3.get id=s.get id) :
  TB (s3.put 1 (.cells .mut [.int .i64 L, .sref j 0 (st.length+1) 1,nxv])) L m ov (.sref j 0 (st.length+1) 1) nxv ps (st++[z]) nx:=by
 have on:=h.ob.on
 refine ⟨h.ob.start hj hS hn hk,h.od.mono (by rw [St.n_put];exact hn) fun id hu=>?_,fun id hu=>?_⟩
 ·rw [St.get_put,if_neg (by rintro rfl;exact h.oo 1 hu (.inr (.inl rfl)))]
  exact hk id (h.od.lt hu) fun hu'=>h.oo id hu (.inr (.inr (.inl hu')))
 ·rintro (h1 | h1 | h1 | h1)
  ·exact h.oo id hu (.inl h1)
  ·exact h.oo id hu (.inr (.inl h1))
  ·have:=uses_sref.1 h1
   have:=h.od.lt hu
   omega
  ·exact h.oo id hu (.inr (.inr (.inr h1)))
theorem TB.row {s s3:St} {L:Int} {m:Nat} {ov stv nxv v':LV} {ps:List Nat} {st:List Int} {nx:List (List Moves)} {row:List Moves} {j:Nat} {rvs:List LV} {T:Nat→Prop} (h:TB s L m ov stv nxv ps st nx) (hT:∀ id,T id→¬ TV ov stv nxv id) (h1:rvs.length=nx.length) (h3:∀ i,i<nx.length→IsRowM (rvs.getD i .top) (nx.getD i [])) (hv:IsRowM v' row) (hj:s.n≤j) (hS:SkC s3 (.sref j 0 (nx.length+1) 1) 1 (rvs++[v']) (nx.length+1)) (hn:s.n≤s3.n) (hk:∀ id,id<s.n→¬ uses nxv id→¬ T id→s3.get id=s.get id) :
  TB (s3.put 1 (.cells .mut [.int .i64 L,stv, .sref j 0 (nx.length+1) 1])) L m ov stv (.sref j 0 (nx.length+1) 1) ps st (nx++[row]):=by
 have on:=h.ob.on
 refine ⟨h.ob.row (T:=T) (fun id ht hu=>hT id ht (.inl hu)) h1 h3 hv hj hS hn hk,h.od.mono (by rw [St.n_put];exact hn) fun id hu=>?_,fun id hu=>?_⟩
 ·rw [St.get_put,if_neg (by rintro rfl;exact h.oo 1 hu (.inr (.inl rfl)))]
  exact hk id (h.od.lt hu) (fun hu'=>h.oo id hu (.inr (.inr (.inr hu')))) fun ht=>hT id ht (.inr hu)
 ·rintro (h1 | h1 | h1 | h1)
  ·exact h.oo id hu (.inl h1)
  ·exact h.oo id hu (.inr (.inl h1))
  ·exact h.oo id hu (.inr (.inr (.inl h1)))
  ·have:=uses_sref.1 h1
   have:=h.od.lt hu
   omega
theorem OB.fz' {s:St} {ob:Nat} {stv nxv:LV} {C:Bu} (h:OB s ob C.L stv nxv C.start C.next) (h1:C.start.length≤1048576) (h2:C.next.length≤1048576) (hr:∀ x∈C.start,inI64 x) {S:St} (hS:∀ id,uses stv id∨uses nxv id→S.get id=s.get id) :
  ∃ r s' sv nv,frz frzDepth (.tup [.agg [.int .i64 C.L,stv,nxv], .int .i64 0]) S=some (.tup [r, .int .i64 0],s')∧IsB r C sv nv:=by
 obtain ⟨rvs,k1,k2,k3⟩:=h.rows
 have hmx:maxLen=9223372036854775807:=by decide
 have f1:FZ (uses stv) (fun v'=>IsInts v' C.start) 38 stv s:=(fz_ske 36 h.ss (ints_cl' _)).mono fun v hv=>⟨hv,by omega,hr⟩
 have f2:FZ (uses nxv) (fun v'=>IsNext v' C.next) 38 nxv s:=(fz_ske 36 k2 (closedAll_of fun i hi=>(k3 i (by omega)).closed)).mono fun v hv=>⟨rvs,hv,k1,by omega,k3⟩
 exact frz_aut' (f1.stable (s':=S) fun id hid=>hS id (.inl hid)) (f2.stable (s':=S) fun id hid=>hS id (.inr hid)) h.dj
theorem pc_get {m:Nat} {l:List Nat} {k p:Nat} (h:l[k]? = some p):(tcells3 m l)[k*3+0]? = some (.int .i64 (px m p))∧(tcells3 m l)[k*3+1]? = some (.int .i64 (py m p))∧(tcells3 m l)[k*3+2]? = some (.int .i64 (pt p)):=by
 have h1:=tcells3_take (m:=m) h
 have h2:∀ j,j<3→(tcells3 m l)[k*3+j]? = (pc3 m p)[j]? := fun j hj=>by
  rw [← h1,List.getElem?_take_of_lt hj,List.getElem?_drop]
 exact ⟨h2 0 (by decide),h2 1 (by decide),h2 2 (by decide)⟩
theorem fm_split {f:Nat→List Nat} {L x:Nat} (hx:x<L) {l1 l2':List Nat} (h:f x=l1++l2'):∃ l2,(List.range L).flatMap f=(List.range x).flatMap f++l1++l2:=by
 obtain ⟨r,h1⟩:∃ r,List.range L=List.range x++x::r:=by
  have h2:x<(List.range L).length:=by rw [List.length_range];omega
  have h3:=List.drop_eq_getElem_cons h2
  rw [List.getElem_range] at h3
  refine ⟨(List.range L).drop (x+1),?_⟩
  rw [← h3]
  have h4:List.range x=(List.range L).take x:=by rw [List.take_range,Nat.min_eq_left (by omega)]
  rw [h4,List.take_append_drop]
 refine ⟨l2'++r.flatMap f,?_⟩
 rw [h1,List.flatMap_append,List.flatMap_cons,h]
 simp only [List.append_assoc]
theorem s0_is {A B:Bu} (okA:Vb A) (okB:Vb B):(grB A B).s0=stP A B:=by
 show addsN [] (stP A B)=stP A B
 have:=addsN_nodup2 (ps:=[]) (l:=stP A B) (by simpa using stP_nd2 okA okB)
 simpa using this
theorem stn_eq {A B:Bu} (okA:Vb A) (okB:Vb B):((grB A B).st.map fun p=>(numN (grB A B).R p:Int))=(List.range (stP A B).length).map fun (j:Nat)=>(j:Int):=by
 have hp:Pre (stP A B) (grB A B).R:=by
  rw [← s0_is okA okB]
  exact runN_pre _ _ _ _
 have hnd:=stP_nd2 okA okB
 apply List.ext_getElem (by simp [grB])
 intro j h1 h2
 have hj:j<(stP A B).length:=by simpa using h2
 have hm:(stP A B)[j]∈stP A B:=List.getElem_mem hj
 have h3:=numN_get hm
 obtain ⟨a1,a2⟩:=List.getElem?_eq_some_iff.1 h3
 have h4:=nd_inj2 hnd a1 hj a2
 simp only [List.getElem_map,List.getElem_range]
 show ((numN (grB A B).R (stP A B)[j]:Nat):Int)=(j:Int)
 rw [numN_pre hp hm,h4]
noncomputable def rowB2 (A B:Bu) (p:Nat):List Moves:=(List.range A.L.toNat).map fun a=>insL [] ((grB A B).ren ((grB A B).mv p a))
def mvJK (m t:Nat) (ms ns:Moves) (j k:Nat):List (Nat × Bool):=((ms.take j).flatMap fun x=>ns.map (pstep m t x))++((ns.take k).map (pstep m t (ms.getD j (0,false))))
theorem mvJK_step {m t:Nat} {ms ns:Moves} {j k:Nat} {y:Int × Bool} (h:ns[k]? = some y):mvJK m t ms ns j (k+1)=mvJK m t ms ns j k++[pstep m t (ms.getD j (0,false)) y]:=by
 unfold mvJK
 rw [List.take_add_one,h];simp
theorem mvJK_row {m t:Nat} {ms ns:Moves} {j:Nat} (h:j<ms.length):mvJK m t ms ns j ns.length=mvJK m t ms ns (j+1) 0:=by
 unfold mvJK
 have hT:ms.take (j+1)=ms.take j++[ms[j]]:=by rw [List.take_add_one,List.getElem?_eq_getElem h];rfl
 have hg:ms.getD j (0,false)=ms[j]:=by simp [List.getD_eq_getElem?_getD,h]
 rw [List.take_length,hT,hg,List.flatMap_append]
 simp
theorem mvJK_all {m t:Nat} {ms ns:Moves} : mvJK m t ms ns ms.length 0=ms.flatMap fun x=>ns.map (pstep m t x):=by
 unfold mvJK
 simp
theorem mvJK_zero {m t:Nat} {ms ns:Moves} : mvJK m t ms ns 0 0=[]:=by simp [mvJK]
theorem mvJK_pre {m t:Nat} {ms ns:Moves} {j k:Nat} (h:j<ms.length∨j=ms.length∧k=0):∃ r,(ms.flatMap fun x=>ns.map (pstep m t x))=mvJK m t ms ns j k++r:=by
 rcases h with hj | ⟨rfl,rfl⟩
 ·unfold mvJK
  have h1:=List.take_append_drop j ms
  have h2:=List.drop_eq_getElem_cons hj
  have h3:ms.getD j (0,false)=ms[j]:=by simp [List.getD_eq_getElem?_getD,hj]
  have h4:ns.map (pstep m t ms[j])=(ns.take k).map (pstep m t ms[j])++(ns.drop k).map (pstep m t ms[j]):=by rw [← List.map_append,List.take_append_drop]
  refine ⟨(ns.drop k).map (pstep m t ms[j])++(ms.drop (j+1)).flatMap fun x=>ns.map (pstep m t x),?_⟩
  conv=>lhs;rw [← h1,h2]
  rw [List.flatMap_append,List.flatMap_cons,h3,h4]
  simp only [List.append_assoc]
 ·exact ⟨[],by rw [mvJK_all,List.append_nil]⟩
theorem mvJK_len {m t:Nat} {ms ns:Moves} {j k:Nat} (h:j<ms.length∨j=ms.length∧k=0):(mvJK m t ms ns j k).length≤ms.length*ns.length:=by
 obtain ⟨r,hr⟩:=mvJK_pre (m:=m) (t:=t) (ns:=ns) h
 have h1:(ms.flatMap fun x=>ns.map (pstep m t x)).length=ms.length*ns.length:=fm_len fun x _=>by simp
 rw [hr,List.length_append] at h1
 omega
end Go.Proofs.YtgobbogomchnhaaGreatDoor
end
