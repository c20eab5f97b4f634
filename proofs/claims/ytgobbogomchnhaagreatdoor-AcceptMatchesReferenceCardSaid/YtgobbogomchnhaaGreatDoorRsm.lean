/- The memory of the document's search: plain. -/
import Derived.Test.YtgobbogomchnhaaGreatDoorChkl
import Derived.Test.YtgobbogomchnhaaGreatDoorPvQ
import Derived.Test.YtgobbogomchnhaaGreatDoorWod
import Derived.Test.YtgobbogomchnhaaGreatDoorSmall
set_option linter.unusedSimpArgs false
set_option linter.unusedVariables false
section
set_option linter.unusedSimpArgs false
set_option linter.unusedVariables false
namespace Go.Proofs.YtgobbogomchnhaaGreatDoor
open Go Go.Pv Go.Aut Go.Bfs
open Classical
theorem idx_app {q p:Pl} : ∀ {l:List Pl} {i:Nat},idx q (l++[p]) i=match idx q l i with | some j=>some j | none=>if q=p then some (i+l.length) else none:=by
 intro l
 induction l with
 | nil=>intro i;simp [idx]
 | cons x l ih=>
  intro i
  simp only [List.cons_append,idx]
  split
  ·rfl
  ·rw [ih]
   have:i+1+l.length=i+(x::l).length:=by simp only [List.length_cons];omega
   rw [this]
def ixI (acc:Ac Pl) (p:Pl):Int:=match idx p (acc.map (·.1)) 0 with | some i=>(i:Int) | none=>-1
theorem ixI_neg {acc:Ac Pl} {p:Pl} : ixI acc p<0↔p ∉ acc.map (·.1):=by
 unfold ixI
 cases h:idx p (acc.map (·.1)) 0 with
 | none=>exact ⟨fun _=>idx_none.1 h,fun _=>by simp⟩
 | some i=>
  constructor
  ·intro h1;simp only at h1;omega
  ·intro h1;rw [idx_none.2 h1] at h;cases h
theorem ixI_get {acc:Ac Pl} (hd:(acc.map (·.1)).Nodup) {i:Nat} {x:Pl × Int} (h:acc[i]? = some x):ixI acc x.1=(i:Int):=by
 unfold ixI
 rw [idx_get hd (i:=i) (by rw [List.getElem?_map,h];rfl)]
theorem ixI_add {acc:Ac Pl} {p q:Pl} {b:Int} (h:p ∉ acc.map (·.1)):ixI (acc++[(p,b)]) q=if q=p then (acc.length:Int) else ixI acc q:=by
 unfold ixI
 rw [List.map_append,List.map_singleton,idx_app]
 by_cases hq:q=p
 ·subst hq
  rw [idx_none.2 h,if_pos rfl,if_pos rfl,List.length_map,Nat.zero_add]
 ·cases idx q (acc.map (·.1)) 0 with
  | none=>simp [hq]
  | some i=>simp [hq]
def rowc (acc:Ac Pl) (i n:Nat):List LV:=(List.range n).map fun k=>.int .i64 (ixI acc (i,k))
theorem rowc_len (acc:Ac Pl) (i n:Nat):(rowc acc i n).length=n:=by simp [rowc]
theorem rowc_get {acc:Ac Pl} {i n k:Nat} (h:k<n):(rowc acc i n)[k]? = some (.int .i64 (ixI acc (i,k))):=by simp [rowc,h]
theorem rowc_set {acc:Ac Pl} {i n k:Nat} {b:Int} (h:(i,k) ∉ acc.map (·.1)) (hk:k<n):(rowc acc i n).set k (.int .i64 (acc.length:Int))=rowc (acc++[((i,k),b)]) i n:=by
 apply List.ext_getElem?
 intro j
 rw [List.getElem?_set]
 by_cases hj:j<n
 ·rw [rowc_get (acc:=acc++[((i,k),b)]) hj,ixI_add h]
  by_cases e:k=j
  ·rw [if_pos e,if_pos (by rw [rowc_len];exact hk),if_pos (by rw [e])]
  ·rw [if_neg e,rowc_get hj,if_neg fun he=>e (Prod.mk.inj he).2.symm]
 ·rw [if_neg (by omega),List.getElem?_eq_none (by rw [rowc_len];omega),List.getElem?_eq_none (by rw [rowc_len];omega)]
theorem rowc_ne {acc:Ac Pl} {i i' n k:Nat} {b:Int} (h:(i,k) ∉ acc.map (·.1)) (hne:i'≠i):rowc (acc++[((i,k),b)]) i' n=rowc acc i' n:=by
 unfold rowc
 refine List.map_congr_left fun j _=>?_
 rw [ixI_add h,if_neg fun he=>hne (Prod.mk.inj he).1]
structure SM (s:St) (a:Nat) (hd:List LV) (T n:Nat) (rvs:List LV) (seev atv stv fmv:LV) (acc:Ac Pl) (tag:Nat→Nat):Prop where
 an:a<s.n
 ga:s.get a=some (.cells .mut (hd++[seev,atv,stv,fmv]))
 see:SkC s seev 1 rvs T
 rows:∀ i,i<T→SkC s (rvs.getD i .top) 1 (rowc acc i n) n
 at_:SkC s atv 1 (nints (acc.map (·.1.1))) acc.length
 st_:SkC s stv 1 (nints (acc.map (·.1.2))) acc.length
 fm_:SkC s fmv 1 (ints (acc.map (·.2))) acc.length
 t0:tag a=0
 t1:∀ id,uses seev id→tag id=1
 t2:∀ id,uses atv id→tag id=2
 t3:∀ id,uses stv id→tag id=3
 t4:∀ id,uses fmv id→tag id=4
 t5:∀ i id,i<T→uses (rvs.getD i .top) id→tag id=5+i
def SU (a T:Nat) (rvs:List LV) (seev atv stv fmv:LV) (id:Nat):Prop:=id=a∨uses seev id∨uses atv id∨uses stv id∨uses fmv id∨∃ i,i<T∧uses (rvs.getD i .top) id
theorem SM.mono {s s':St} {a:Nat} {hd:List LV} {T n:Nat} {rvs:List LV} {seev atv stv fmv:LV} {acc:Ac Pl} {tag:Nat→Nat} (h:SM s a hd T n rvs seev atv stv fmv acc tag) (hn:s.n≤s'.n) (hs:∀ id,SU a T rvs seev atv stv fmv id→s'.get id=s.get id):SM s' a hd T n rvs seev atv stv fmv acc tag:=
 ⟨by have:=h.an;omega,(hs a (.inl rfl)).trans h.ga,h.see.mono hn fun id hu=>hs id (.inr (.inl hu)),fun i hi=>(h.rows i hi).mono hn fun id hu=>hs id (.inr (.inr (.inr (.inr (.inr ⟨i,hi,hu⟩))))),h.at_.mono hn fun id hu=>hs id (.inr (.inr (.inl hu))),h.st_.mono hn fun id hu=>hs id (.inr (.inr (.inr (.inl hu)))),h.fm_.mono hn fun id hu=>hs id (.inr (.inr (.inr (.inr (.inl hu))))),h.t0,h.t1,h.t2,h.t3,h.t4,h.t5⟩
theorem SM.lt {s:St} {a:Nat} {hd:List LV} {T n:Nat} {rvs:List LV} {seev atv stv fmv:LV} {acc:Ac Pl} {tag:Nat→Nat} (h:SM s a hd T n rvs seev atv stv fmv acc tag) {id:Nat} (hu:SU a T rvs seev atv stv fmv id):id<s.n:=by
 rcases hu with rfl | hu | hu | hu | hu | ⟨i,hi,hu⟩
 ·exact h.an
 ·exact h.see.lt hu
 ·exact h.at_.lt hu
 ·exact h.st_.lt hu
 ·exact h.fm_.lt hu
 ·exact (h.rows i hi).lt hu
theorem SM.step {s s':St} {a:Nat} {hd:List LV} {T n:Nat} {rvs:List LV} {seev atv stv fmv:LV} {acc:Ac Pl} {tag:Nat→Nat} (h:SM s a hd T n rvs seev atv stv fmv acc tag) {i k jr j1 j2 j3:Nat} {b:Int} (hnew:(i,k) ∉ acc.map (·.1)) (hi:i<T) (hk:k<n) (hr:uses (rvs.getD i .top) jr) (hj1:s.n≤j1) (hj2:s.n≤j2) (hj3:s.n≤j3) (d12:j1≠j2) (d13:j1≠j3) (d23:j2≠j3)
  (hn:s.n≤s'.n) (ga:s'.get a=some (.cells .mut (hd++[seev, .sref j1 0 (acc.length+1) 1, .sref j2 0 (acc.length+1) 1, .sref j3 0 (acc.length+1) 1])))
  (gr:s'.get jr=some (.cells .mut ((rowc acc i n).set k (.int .i64 (acc.length:Int)))))
  (g1:SkC s' (.sref j1 0 (acc.length+1) 1) 1 (nints (acc.map (·.1.1))++[.int .i64 (i:Int)]) (acc.length+1))
  (g2:SkC s' (.sref j2 0 (acc.length+1) 1) 1 (nints (acc.map (·.1.2))++[.int .i64 (k:Int)]) (acc.length+1))
  (g3:SkC s' (.sref j3 0 (acc.length+1) 1) 1 (ints (acc.map (·.2))++[.int .i64 b]) (acc.length+1))
  (hs:∀ id,id<s.n→id≠a→id≠jr→¬ uses atv id→¬ uses stv id→¬ uses fmv id→s'.get id=s.get id) :
  SM s' a hd T n rvs seev (.sref j1 0 (acc.length+1) 1) (.sref j2 0 (acc.length+1) 1) (.sref j3 0 (acc.length+1) 1) (acc++[((i,k),b)]) (fun id=>if id=j1 then 2 else if id=j2 then 3 else if id=j3 then 4 else tag id):=by
 have hjr:=(h.rows i hi).lt hr
 have hjt:=h.t5 i jr hi hr
 have old:∀ id,id<s.n→(if id=j1 then 2 else if id=j2 then 3 else if id=j3 then 4 else tag id)=tag id:=fun id hid=>by rw [if_neg (by omega),if_neg (by omega),if_neg (by omega)]
 have keep:∀ id,id<s.n→tag id=1∨5≤tag id∧tag id≠5+i→s'.get id=s.get id:=fun id hid ht=>by
  refine hs id hid (fun e=>?_) (fun e=>?_) (fun hu=>?_) (fun hu=>?_) fun hu=>?_
  ·rw [e,h.t0] at ht;omega
  ·rw [e,hjt] at ht;omega
  ·rw [h.t2 id hu] at ht;omega
  ·rw [h.t3 id hu] at ht;omega
  ·rw [h.t4 id hu] at ht;omega
 have hl:(acc++[((i,k),b)]).length=acc.length+1:=by simp
 refine ⟨by have:=h.an;omega,ga,h.see.mono hn fun id hu=>keep id (h.see.lt hu) (.inl (h.t1 id hu)),fun i' hi'=>?_,?_,?_,?_,by rw [old a h.an];exact h.t0,fun id hu=>by rw [old id (h.see.lt hu)];exact h.t1 id hu,fun id hu=>by rw [if_pos (uses_sref.1 hu)],fun id hu=>by have:=uses_sref.1 hu;rw [if_neg (by omega),if_pos this],fun id hu=>by have:=uses_sref.1 hu;rw [if_neg (by omega),if_neg (by omega),if_pos this],fun i' id hi' hu=>by rw [old id ((h.rows i' hi').lt hu)];exact h.t5 i' id hi' hu⟩
 ·by_cases hii:i'=i
  ·subst hii
   obtain ⟨j,hv,hj,hg⟩:=(h.rows i' hi').pos (by omega)
   rw [hv] at hr ⊢
   have e:=uses_sref.1 hr
   subst e
   rw [← rowc_set (b:=b) hnew hk]
   exact ⟨by rw [List.length_set,rowc_len];omega, .inr ⟨jr,rfl,by omega,by omega,gr⟩⟩
  ·rw [rowc_ne hnew hii]
   refine (h.rows i' hi').mono hn fun id hu=>keep id ((h.rows i' hi').lt hu) (.inr ?_)
   have:=h.t5 i' id hi' hu
   omega
 ·rw [hl,List.map_append,nints_append];exact g1
 ·rw [hl,List.map_append,nints_append];exact g2
 ·rw [hl,List.map_append]
  have:ints (acc.map (·.2)++List.map (·.2) [((i,k),b)])=ints (acc.map (·.2))++[.int .i64 b]:=by simp [ints]
  rw [this];exact g3
end Go.Proofs.YtgobbogomchnhaaGreatDoor
end
section
set_option linter.unusedSimpArgs false
set_option linter.unusedVariables false
namespace Go.Proofs.YtgobbogomchnhaaGreatDoor
open Go Go.Pv Go.Aut Go.Bfs
open Classical
set_option maxHeartbeats 8000000 in
theorem sadd_ok {s:St} {a:Nat} {hd:List LV} {T n:Nat} {rvs:List LV} {seev atv stv fmv:LV} {acc:Ac Pl} {tag:Nat→Nat} (h:SM s a hd T n rvs seev atv stv fmv acc tag) (hhd:hd.length=5) {i k:Nat} {b:Int} (hi:i<T) (hk:k<n) (hl:acc.length≤1000000) :
  CallOk Tryz.prog GL (.fn (.func 93) [] []) [.pref a 0, .int .i64 (i:Int), .int .i64 (k:Int), .int .i64 b] s (fun _ s'=>∃ atv' stv' fmv' tag',SM s' a hd T n rvs seev atv' stv' fmv' (Bfs.add acc (i,k) b) tag'∧s.n≤s'.n∧(∀ id,SU a T rvs seev atv' stv' fmv' id→SU a T rvs seev atv stv fmv id∨s.n≤id)∧∀ id,id<s.n→¬ SU a T rvs seev atv stv fmv id→s'.get id=s.get id):=by
 obtain ⟨h0,h1,h2,h3,h4,rfl⟩:∃ h0 h1 h2 h3 h4,hd=[h0,h1,h2,h3,h4]:=by
  match hd,hhd with
  | [h0,h1,h2,h3,h4],_=>exact ⟨h0,h1,h2,h3,h4,rfl⟩
 obtain ⟨js,hsv,hjs,hgs⟩:=h.see.pos (by omega)
 obtain ⟨jr,hrv,hjr,hgr⟩:=(h.rows i hi).pos (by omega)
 have hga:=h.ga
 have hal:=h.at_.len
 have hjrU:uses (rvs.getD i .top) jr:=by rw [hrv];exact uses_sref.2 rfl
 have haj:a≠jr:=fun e=>by
  have h1:=h.t0
  have h2:=h.t5 i jr hi hjrU
  rw [e] at h1;omega
 have hsj:js≠jr:=fun e=>by
  have h1:=h.t1 js (by rw [hsv];exact uses_sref.2 rfl)
  have h2:=h.t5 i jr hi hjrU
  rw [e] at h1;omega
 have hrl:rvs.length=T:=by have:=h.see.1;simpa using this
 refine call_fn (first:=[]) (caps:=[]) Tryz.func93 (by decide +kernel) c93 (Nat.le_of_ble_eq_true rfl) (CodeOk.mono (Q:=fun o e s'=>(o = .normal∨o = .jmp .ret)∧∃ atv' stv' fmv' tag',SM s' a [h0,h1,h2,h3,h4] T n rvs seev atv' stv' fmv' (Bfs.add acc (i,k) b) tag'∧s.n≤s'.n∧(∀ id,SU a T rvs seev atv' stv' fmv' id→SU a T rvs seev atv stv fmv id∨s.n≤id)∧∀ id,id<s.n→¬ SU a T rvs seev atv stv fmv id→s'.get id=s.get id) ?_ fun o e s' hh=>⟨hh.1, .tup [],by simp [l93,resVal],hh.2⟩)
 have e0:(envOf ([]++[.pref a 0, .int .i64 (i:Int), .int .i64 (k:Int), .int .i64 b]++[])).at 0 = .pref a 0:=by rw [envOf_at];rfl
 have e1:(envOf ([]++[.pref a 0, .int .i64 (i:Int), .int .i64 (k:Int), .int .i64 b]++[])).at 1 = .int .i64 (i:Int):=by rw [envOf_at];rfl
 have e2:(envOf ([]++[.pref a 0, .int .i64 (i:Int), .int .i64 (k:Int), .int .i64 b]++[])).at 2 = .int .i64 (k:Int):=by rw [envOf_at];rfl
 have e3:(envOf ([]++[.pref a 0, .int .i64 (i:Int), .int .i64 (k:Int), .int .i64 b]++[])).at 3 = .int .i64 b:=by rw [envOf_at];rfl
 generalize envOf ([]++[.pref a 0, .int .i64 (i:Int), .int .i64 (k:Int), .int .i64 b]++[])=e at *
 refine Cd.out ?_
 unfold l93
 dsimp only [jA,jB,jG,jH,qM,qL,qF,qS,qI,qm,ql]
 have k1:∀ t:St,t.get a=s.get a→loadLV none (.pref a 5) t=some (.sref js 0 T 1):=fun t ht=>by simp [loadLV,ht,hga,mkVal,hsv]
 have k1s:=k1 s rfl
 have k2:iaLV 1 (.sref js 0 T 1) (.int .i64 (i:Int)) s=some (.pref js i,s):=by
  have:=iaS (esz:=1) (j:=js) (off:=0) (len:=T) (i:=i) (k:=.i64) (s:=s) (by omega)
  simpa using this
 have k3:loadLV none (.pref js i) s=some (.sref jr 0 n 1):=by
  simp only [loadLV,hgs,mkVal]
  rw [List.getElem?_eq_getElem (by omega)]
  rw [← hrv,List.getD_eq_getElem?_getD,List.getElem?_eq_getElem (by omega)]
  rfl
 have k4:iaLV 1 (.sref jr 0 n 1) (.int .i64 (k:Int)) s=some (.pref jr k,s):=by
  have:=iaS (esz:=1) (j:=jr) (off:=0) (len:=n) (i:=k) (k:=.i64) (s:=s) (by omega)
  simpa using this
 have k5:loadLV none (.pref jr k) s=some (.int .i64 (ixI acc (i,k))):=by
  simp only [loadLV,hgr,mkVal]
  exact rowc_get hk
 have k6:loadLV none (.pref a 6) s=some atv:=by simp [loadLV,hga,mkVal]
 repeat' (first | refine gA (And.intro @k1s (And.intro @k2 (And.intro @k3 (And.intro @k4 (And.intro @k5 (And.intro @k6 @hal)))))) ?_ | (refine gB (And.intro @k1s (And.intro @k2 (And.intro @k3 (And.intro @k4 (And.intro @k5 (And.intro @k6 @hal)))))) ?_;intro bb hbb;cases bb<;>(try simp only [hbs,if_false,reduceCtorEq] at hbb)) | apply qc_seq | fail)
 rotate_left
 ·have hin:Bfs.add acc (i,k) b=acc:=by
   unfold Bfs.add
   rw [if_pos]
   exact Classical.byContradiction fun hn=>by have:=ixI_neg.2 hn;omega
  exact ⟨.inr trivial,atv,stv,fmv,tag,by rw [hin];exact h,Nat.le_refl _,fun id hu=>.inl hu,fun _ _ _=>trivial⟩
 have hnew:(i,k) ∉ acc.map (·.1):=ixI_neg.1 hbb
 have hadd:Bfs.add acc (i,k) b=acc++[((i,k),b)]:=by unfold Bfs.add;rw [if_neg hnew]
 have hjt:=h.t5 i jr hi hjrU
 have ha0:=h.t0
 have n2:∀ id,uses atv id→id<s.n∧id≠a∧id≠jr:=fun id hu=>by
  have:=h.t2 id hu
  exact ⟨h.at_.lt hu,fun e=>by rw [e] at this;omega,fun e=>by rw [e] at this;omega⟩
 have n3:∀ id,uses stv id→id<s.n∧id≠a∧id≠jr∧¬ uses atv id:=fun id hu=>by
  have:=h.t3 id hu
  exact ⟨h.st_.lt hu,fun e=>by rw [e] at this;omega,fun e=>by rw [e] at this;omega,fun hu2=>by have:=h.t2 id hu2;omega⟩
 have n4:∀ id,uses fmv id→id<s.n∧id≠a∧id≠jr∧¬ uses atv id∧¬ uses stv id:=fun id hu=>by
  have:=h.t4 id hu
  exact ⟨h.fm_.lt hu,fun e=>by rw [e] at this;omega,fun e=>by rw [e] at this;omega,fun hu2=>by have:=h.t2 id hu2;omega,fun hu2=>by have:=h.t3 id hu2;omega⟩
 have han:=h.an
 have ha2:¬ uses atv a:=fun hu=>(n2 a hu).2.1 rfl
 have ha3:¬ uses stv a:=fun hu=>(n3 a hu).2.1 rfl
 have ha4:¬ uses fmv a:=fun hu=>(n4 a hu).2.1 rfl
 have hr2:¬ uses atv jr:=fun hu=>(n2 jr hu).2.2 rfl
 have hr3:¬ uses stv jr:=fun hu=>(n3 jr hu).2.2.1 rfl
 have hr4:¬ uses fmv jr:=fun hu=>(n4 jr hu).2.2.1 rfl
 refine q_storeG (i:=jr) (o:=k) (n:=1) (cs:=rowc acc i n) (vs:=[.int .i64 (acc.length:Int)]) (cs':=(rowc acc i n).set k (.int .i64 (acc.length:Int))) (v:=.int .i64 (acc.length:Int)) ef ef rfl hgr rfl (by rw [rowc_len];omega) rfl ?_
 refine w_gen (fun e t=>t.n=s.n∧t.get a=some (.cells .mut [h0,h1,h2,h3,h4,seev,atv,stv,fmv])∧t.get jr=some (.cells .mut ((rowc acc i n).set k (.int .i64 (acc.length:Int))))∧(∀ id,id≠jr→t.get id=s.get id)∧e.at 0 = .pref a 0∧e.at 1 = .int .i64 (i:Int)∧e.at 2 = .int .i64 (k:Int)∧e.at 3 = .int .i64 b) ⟨rfl,by rw [St.get_put,if_neg haj];exact hga,by rw [St.get_put,if_pos rfl],fun id hne=>by rw [St.get_put,if_neg hne],ef,ef,ef,ef⟩ ?_
 clear e0 e1 e2 e3 k1 k1s k2 k3 k4 k5 k6
 clear e
 rintro e t ⟨t1,g1,r1,f1,e0,e1,e2,e3⟩
 have k6:loadLV none (.pref a 6) t=some atv:=by simp [loadLV,g1,mkVal]
 repeat' (first | refine gA @k6 ?_ | (refine gB @k6 ?_;intro bb hbb;cases bb<;>(try simp only [hbs,if_false,reduceCtorEq] at hbb)) | apply qc_seq | fail)
 refine q_appC (bytes:=8) (esz:=1) (n:=acc.length) (xv:=.int .i64 (i:Int)) (yv:=atv) (vs:=[.int .i64 (i:Int)]) (cells:=nints (acc.map (·.1.1))) ef rfl rfl rfl rfl ef (h.at_.mono (by omega) fun id hu=>by
  obtain ⟨u1,u2,u3⟩:=n2 id hu
  rw [f1 id u3]) (by decide) (by omega) (fun s2 j1 p1 p2 p3 p4=>?_)
 have p5:∀ id,id<s.n→¬ uses atv id→s2.get id=t.get id:=fun id hid hu=>p4 id (by omega) hu
 repeat' (first | refine gA trivial ?_ | (refine gB trivial ?_;intro bb hbb;cases bb<;>(try simp only [hbs,if_false,reduceCtorEq] at hbb)) | apply qc_seq | fail)
 refine q_storeG (i:=a) (o:=6) (n:=1) (cs:=[h0,h1,h2,h3,h4,seev,atv,stv,fmv]) (vs:=[.sref j1 0 (acc.length+1) 1]) (cs':=[h0,h1,h2,h3,h4,seev, .sref j1 0 (acc.length+1) 1,stv,fmv]) (v:=.sref j1 0 (acc.length+1) 1) ef ef rfl (by rw [p5 a han ha2];exact g1) rfl (by simp) rfl ?_
 refine w_gen (fun e u=>s.n≤u.n∧s.n≤j1∧u.get a=some (.cells .mut [h0,h1,h2,h3,h4,seev, .sref j1 0 (acc.length+1) 1,stv,fmv])∧u.get jr=some (.cells .mut ((rowc acc i n).set k (.int .i64 (acc.length:Int))))∧SkC u (.sref j1 0 (acc.length+1) 1) 1 (nints (acc.map (·.1.1))++[.int .i64 (i:Int)]) (acc.length+1)∧(∀ id,id<s.n→id≠a→id≠jr→¬ uses atv id→u.get id=s.get id)∧e.at 0 = .pref a 0∧e.at 1 = .int .i64 (i:Int)∧e.at 2 = .int .i64 (k:Int)∧e.at 3 = .int .i64 b) ⟨by rw [St.n_put];omega,by omega,by rw [St.get_put,if_pos rfl],by rw [St.get_put,if_neg (Ne.symm haj),p5 jr hjr hr2];exact r1,p2.mono (by rw [St.n_put];exact Nat.le_refl _) fun id hu=>by rw [St.get_put,if_neg (by have:=uses_sref.1 hu;omega)],fun id hid u1 u2 u3=>by rw [St.get_put,if_neg u1,p5 id hid u3,f1 id u2],ef,ef,ef,ef⟩ ?_
 clear e0 e1 e2 e3 k6 g1 r1 f1 p1 p2 p3 p4 p5 t1
 clear e s2 t
 rintro e u ⟨u1,u2,g1,r1,q1,f1,e0,e1,e2,e3⟩
 have k6:loadLV none (.pref a 7) u=some stv:=by simp [loadLV,g1,mkVal]
 repeat' (first | refine gA @k6 ?_ | (refine gB @k6 ?_;intro bb hbb;cases bb<;>(try simp only [hbs,if_false,reduceCtorEq] at hbb)) | apply qc_seq | fail)
 refine q_appC (bytes:=8) (esz:=1) (n:=acc.length) (xv:=.int .i64 (k:Int)) (yv:=stv) (vs:=[.int .i64 (k:Int)]) (cells:=nints (acc.map (·.1.2))) ef rfl rfl rfl rfl ef (h.st_.mono (by omega) fun id hu=>by
  obtain ⟨v1,v2,v3,v4⟩:=n3 id hu
  rw [f1 id v1 v2 v3 v4]) (by decide) (by omega) (fun s2 j2 p1 p2 p3 p4=>?_)
 have hj1u:=q1.lt (uses_sref.2 rfl)
 have p5:∀ id,id<u.n→¬ uses stv id→s2.get id=u.get id:=fun id hid hu=>p4 id (by omega) hu
 have hj13:¬ uses stv j1:=fun hu=>by have:=(n3 j1 hu).1;omega
 repeat' (first | refine gA trivial ?_ | (refine gB trivial ?_;intro bb hbb;cases bb<;>(try simp only [hbs,if_false,reduceCtorEq] at hbb)) | apply qc_seq | fail)
 refine q_storeG (i:=a) (o:=7) (n:=1) (cs:=[h0,h1,h2,h3,h4,seev, .sref j1 0 (acc.length+1) 1,stv,fmv]) (vs:=[.sref j2 0 (acc.length+1) 1]) (cs':=[h0,h1,h2,h3,h4,seev, .sref j1 0 (acc.length+1) 1, .sref j2 0 (acc.length+1) 1,fmv]) (v:=.sref j2 0 (acc.length+1) 1) ef ef rfl (by rw [p5 a (by omega) ha3];exact g1) rfl (by simp) rfl ?_
 refine w_gen (fun e v=>s.n≤v.n∧s.n≤j2∧j1<j2∧v.get a=some (.cells .mut [h0,h1,h2,h3,h4,seev, .sref j1 0 (acc.length+1) 1, .sref j2 0 (acc.length+1) 1,fmv])∧v.get jr=some (.cells .mut ((rowc acc i n).set k (.int .i64 (acc.length:Int))))∧SkC v (.sref j1 0 (acc.length+1) 1) 1 (nints (acc.map (·.1.1))++[.int .i64 (i:Int)]) (acc.length+1)∧SkC v (.sref j2 0 (acc.length+1) 1) 1 (nints (acc.map (·.1.2))++[.int .i64 (k:Int)]) (acc.length+1)∧(∀ id,id<s.n→id≠a→id≠jr→¬ uses atv id→¬ uses stv id→v.get id=s.get id)∧e.at 0 = .pref a 0∧e.at 3 = .int .i64 b) ⟨by rw [St.n_put];omega,by omega,by omega,by rw [St.get_put,if_pos rfl],by rw [St.get_put,if_neg (Ne.symm haj),p5 jr (by omega) hr3];exact r1,q1.mono (by rw [St.n_put];omega) fun id hu=>by
   have:=uses_sref.1 hu
   rw [St.get_put,if_neg (by omega),p5 id (by omega) (by rw [this];exact hj13)],p2.mono (by rw [St.n_put];exact Nat.le_refl _) fun id hu=>by rw [St.get_put,if_neg (by have:=uses_sref.1 hu;omega)],fun id hid u1 u2 u3 u4=>by rw [St.get_put,if_neg u1,p5 id (by omega) u4,f1 id hid u1 u2 u3],ef,ef⟩ ?_
 clear e0 e1 e2 e3 k6 g1 r1 f1 p1 p2 p3 p4 p5 q1 hj1u hj13 u1
 clear e s2 u
 rintro e u ⟨u1,v2,hj12,g1,r1,q1,q2,f1,e0,e3⟩
 have k6:loadLV none (.pref a 8) u=some fmv:=by simp [loadLV,g1,mkVal]
 repeat' (first | refine gA @k6 ?_ | (refine gB @k6 ?_;intro bb hbb;cases bb<;>(try simp only [hbs,if_false,reduceCtorEq] at hbb)) | apply qc_seq | fail)
 refine q_appC (bytes:=8) (esz:=1) (n:=acc.length) (xv:=.int .i64 b) (yv:=fmv) (vs:=[.int .i64 b]) (cells:=ints (acc.map (·.2))) ef rfl rfl rfl rfl ef (h.fm_.mono (by omega) fun id hu=>by
  obtain ⟨v1,v2,v3,v4,v5⟩:=n4 id hu
  rw [f1 id v1 v2 v3 v4 v5]) (by decide) (by omega) (fun s2 j3 p1 p2 p3 p4=>?_)
 have hj1u:=q1.lt (uses_sref.2 rfl)
 have hj2u:=q2.lt (uses_sref.2 rfl)
 have p5:∀ id,id<u.n→¬ uses fmv id→s2.get id=u.get id:=fun id hid hu=>p4 id (by omega) hu
 have hj14:¬ uses fmv j1:=fun hu=>by have:=(n4 j1 hu).1;omega
 have hj24:¬ uses fmv j2:=fun hu=>by have:=(n4 j2 hu).1;omega
 repeat' (first | refine gA trivial ?_ | (refine gB trivial ?_;intro bb hbb;cases bb<;>(try simp only [hbs,if_false,reduceCtorEq] at hbb)) | apply qc_seq | fail)
 refine q_storeG (i:=a) (o:=8) (n:=1) (cs:=[h0,h1,h2,h3,h4,seev, .sref j1 0 (acc.length+1) 1, .sref j2 0 (acc.length+1) 1,fmv]) (vs:=[.sref j3 0 (acc.length+1) 1]) (cs':=[h0,h1,h2,h3,h4,seev, .sref j1 0 (acc.length+1) 1, .sref j2 0 (acc.length+1) 1, .sref j3 0 (acc.length+1) 1]) (v:=.sref j3 0 (acc.length+1) 1) ef ef rfl (by rw [p5 a (by omega) ha4];exact g1) rfl (by simp) rfl ?_
 repeat' (first | refine gA trivial ?_ | (refine gB trivial ?_;intro bb hbb;cases bb<;>(try simp only [hbs,if_false,reduceCtorEq] at hbb)) | apply qc_seq | fail)
 have hfr:∀ id,id<s.n→id≠a→id≠jr→¬ uses atv id→¬ uses stv id→¬ uses fmv id→(s2.put a (.cells .mut [h0,h1,h2,h3,h4,seev, .sref j1 0 (acc.length+1) 1, .sref j2 0 (acc.length+1) 1, .sref j3 0 (acc.length+1) 1])).get id=s.get id:=fun id hid w1 w2 w3 w4 w5=>by
  rw [St.get_put,if_neg w1,p5 id (by omega) w5,f1 id hid w1 w2 w3 w4]
 refine ⟨.inl trivial,_,_,_,_,by rw [hadd];exact h.step (jr:=jr) (j1:=j1) (j2:=j2) (j3:=j3) hnew hi hk hjrU u2 v2 (by omega) (by omega) (by omega) (by omega) (by rw [St.n_put];omega) (by rw [St.get_put,if_pos rfl];rfl) (by rw [St.get_put,if_neg (Ne.symm haj),p5 jr (by omega) hr4];exact r1) (q1.mono (by rw [St.n_put];omega) fun id hu=>by
   have:=uses_sref.1 hu
   rw [St.get_put,if_neg (by omega),p5 id (by omega) (by rw [this];exact hj14)]) (q2.mono (by rw [St.n_put];omega) fun id hu=>by
   have:=uses_sref.1 hu
   rw [St.get_put,if_neg (by omega),p5 id (by omega) (by rw [this];exact hj24)]) (p2.mono (by rw [St.n_put];exact Nat.le_refl _) fun id hu=>by rw [St.get_put,if_neg (by have:=uses_sref.1 hu;omega)]) hfr,by rw [St.n_put];omega,fun id hu=>?_,fun id hid hu=>hfr id hid (fun e=>hu (.inl e)) (fun e=>hu (.inr (.inr (.inr (.inr (.inr ⟨i,hi,by rw [e];exact hjrU⟩)))))) (fun e=>hu (.inr (.inr (.inl e)))) (fun e=>hu (.inr (.inr (.inr (.inl e))))) (fun e=>hu (.inr (.inr (.inr (.inr (.inl e))))))⟩
 rcases hu with h1 | h1 | h1 | h1 | h1 | h1
 ·exact .inl (.inl h1)
 ·exact .inl (.inr (.inl h1))
 ·exact .inr (by rw [uses_sref.1 h1];exact u2)
 ·exact .inr (by rw [uses_sref.1 h1];exact v2)
 ·exact .inr (by rw [uses_sref.1 h1];omega)
 ·exact .inl (.inr (.inr (.inr (.inr (.inr h1)))))
end Go.Proofs.YtgobbogomchnhaaGreatDoor
end
section
set_option linter.unusedSimpArgs false
set_option linter.unusedVariables false
namespace Go.Proofs.YtgobbogomchnhaaGreatDoor
open Go Go.Pv
open Classical
theorem chk_load {d:Nat} {n:Option Nat} {x:Opd} {p v:LV} {e:Env} {s:St} (hx:x.ev e=p) (hl:loadLV n p s=some v) (hd:e.at d=v):wantedG none e=some false∨(wantedG none e=some true∧(LOp.load n x).run e s=some (e.at d,s)) :=
 .inr ⟨rfl,by
  rw [hd]
  cases p<;>simp only [loadLV,reduceCtorEq] at hl
  ·simp [LOp.run,hx,hl]
  ·simp only [LOp.run,hx]
   split at hl
   ·rename_i h;simp [h,hl]
   ·cases hl⟩
theorem app_get1 {S L:List Int} {i:Nat} (h:i<S.length):(S++L).getD i 0=S.getD i 0:=by
 simp [List.getD_eq_getElem?_getD,List.getElem?_append_left h]
theorem app_get2 {S L:List Int} {i:Nat} (h:S.length≤i):(S++L).getD i 0=L.getD (i - S.length) 0:=by
 simp [List.getD_eq_getElem?_getD,List.getElem?_append_right h]
structure PtW (pv:LV) (s:St) (S L:List Int) (p3 p30 p31 stv lov:LV):Prop where
 hn:nilLV pv=true
 f3:faddrLV 3 pv=some p3
 f30:faddrLV 0 p3=some p30
 f31:faddrLV 1 p3=some p31
 l0:loadLV none p30 s=some stv
 l1:loadLV none p31 s=some lov
 hS:IsInts stv S
 hL:IsInts lov L
 big:S.length+L.length≤1000000
theorem ptw_ref {s:St} {a:Nat} {cs:List LV} {stv lov:LV} {S L:List Int} (hg:s.get a=some (.cells .mut cs)) (h3:cs[3]? = some stv) (h4:cs[4]? = some lov) (hS:IsInts stv S) (hL:IsInts lov L) (hb:S.length+L.length≤1000000):PtW (.pref a 0) s S L (.pref a 3) (.pref a 3) (.pref a 4) stv lov:=
 ⟨rfl,rfl,rfl,rfl,by simp [loadLV,hg,mkVal,h3],by simp [loadLV,hg,mkVal,h4],hS,hL,hb⟩
theorem ptw_imm {s:St} {cs:List LV} {stv lov:LV} {S L:List Int} (h3:cs[3]? = some stv) (h4:cs[4]? = some lov) (hS:IsInts stv S) (hL:IsInts lov L) (hb:S.length+L.length≤1000000):PtW (.pimm cs 0) s S L (.pimm cs 3) (.pimm cs 3) (.pimm cs 4) stv lov:=
 ⟨rfl,rfl,rfl,rfl,by simp [loadLV,mkVal,h3],by simp [loadLV,mkVal,h4],hS,hL,hb⟩
set_option maxHeartbeats 4000000 in
theorem slet_call {pv p3 p30 p31 stv lov:LV} {S L:List Int} {s:St} (h:PtW pv s S L p3 p30 p31 stv lov) {i:Nat} (hi:i<S.length+L.length) :
  CallOk Tryz.prog GL (.fn (.func 56) [] []) [pv, .int .i64 (i:Int)] s (fun r s'=>r = .int .i64 ((S++L).getD i 0)∧s'=s):=by
 obtain ⟨hn,f3,f30,f31,l0,l1,hS,hL,hb⟩:=h
 have hSl:=hS.sl.len
 refine call_fn (first:=[]) (caps:=[]) Tryz.func56 (by decide +kernel) c56 (Nat.le_of_ble_eq_true rfl) (CodeOk.mono (Q:=fun o e s'=>(o = .normal∨o = .jmp .ret)∧e.at 4 = .int .i64 ((S++L).getD i 0)∧s'=s) ?_ fun o e s' hh=>⟨hh.1,_,by simp only [l56,resVal,resOne];rfl,hh.2⟩)
 have e0:(envOf ([]++[pv, .int .i64 (i:Int)]++[])).at 0=pv:=by rw [envOf_at];rfl
 have e1:(envOf ([]++[pv, .int .i64 (i:Int)]++[])).at 1 = .int .i64 (i:Int):=by rw [envOf_at];rfl
 generalize envOf ([]++[pv, .int .i64 (i:Int)]++[])=e at *
 refine Cd.out ?_
 unfold l56
 dsimp only [jA,jB,qM,qL,qF,qS,qI,qB,qC,qm,ql]
 repeat' (first | refine gA (And.intro @hn (And.intro @f3 (And.intro @f30 (And.intro @f31 (And.intro @l0 (And.intro @l1 (And.intro @hSl (And.intro (@iaN _ _ _ hS.sl) (And.intro (@iaN _ _ _ hL.sl) @ints_get))))))))) ?_ | (refine gB (And.intro @hn (And.intro @f3 (And.intro @f30 (And.intro @f31 (And.intro @l0 (And.intro @l1 (And.intro @hSl (And.intro (@iaN _ _ _ hS.sl) (And.intro (@iaN _ _ _ hL.sl) @ints_get))))))))) ?_;intro bb hbb;cases bb<;>(try simp only [hbs,if_false,reduceCtorEq] at hbb)) | apply qc_seq | fail)
 ·have hj:i - S.length<L.length:=by omega
  have hw:IntKind.i64.wrap ((i:Int) - (S.length:Int))=((i - S.length:Nat):Int):=by rw [wrap_i64 _ (by omega) (by omega)];omega
  have hjI:((i - S.length:Nat):Int)<(L.length:Int):=by omega
  rw [hw]
  repeat' (first | refine gA (And.intro (@iaN _ _ _ hL.sl) @ints_get) ?_ | (refine gB (And.intro (@iaN _ _ _ hL.sl) @ints_get) ?_;intro bb hbb;cases bb<;>(try simp only [hbs,if_false,reduceCtorEq] at hbb)) | apply qc_seq | fail)
  refine ⟨.inr trivial,?_,trivial⟩
  simp only [lk,sv1,sv2,sv3,Nat.reduceEqDiff,Nat.reduceAdd,Nat.reduceLeDiff,reduceIte,if_false,if_true,mkVal,unLV,List.map,optTmps,app_get2 (L:=L) (show S.length≤i by omega)]
 ·refine ⟨.inr trivial,?_,trivial⟩
  simp only [lk,sv1,sv2,sv3,Nat.reduceEqDiff,Nat.reduceAdd,Nat.reduceLeDiff,reduceIte,if_false,if_true,mkVal,unLV,List.map,optTmps,app_get1 (L:=L) (show i<S.length by omega)]
set_option maxHeartbeats 4000000 in
theorem snext_call {pv p3 p30 p31 stv lov:LV} {S L:List Int} {s:St} (h:PtW pv s S L p3 p30 p31 stv lov) {i:Nat} (hi:i<S.length+L.length) :
  CallOk Tryz.prog GL (.fn (.func 57) [] []) [pv, .int .i64 (i:Int)] s (fun r s'=>r = .int .i64 ((if i+1=S.length+L.length then S.length else i+1:Nat):Int)∧s'=s):=by
 obtain ⟨hn,f3,f30,f31,l0,l1,hS,hL,hb⟩:=h
 have hSl:=hS.sl.len
 have hLl:=hL.sl.len
 refine call_fn (first:=[]) (caps:=[]) Tryz.func57 (by decide +kernel) c57 (Nat.le_of_ble_eq_true rfl) (CodeOk.mono (Q:=fun o e s'=>(o = .normal∨o = .jmp .ret)∧e.at 4 = .int .i64 ((if i+1=S.length+L.length then S.length else i+1:Nat):Int)∧s'=s) ?_ fun o e s' hh=>⟨hh.1,_,by simp only [l57,resVal,resOne];rfl,hh.2⟩)
 have e0:(envOf ([]++[pv, .int .i64 (i:Int)]++[])).at 0=pv:=by rw [envOf_at];rfl
 have e1:(envOf ([]++[pv, .int .i64 (i:Int)]++[])).at 1 = .int .i64 (i:Int):=by rw [envOf_at];rfl
 generalize envOf ([]++[pv, .int .i64 (i:Int)]++[])=e at *
 refine Cd.out ?_
 unfold l57
 dsimp only [jA,jB,qM,qL,qF,qS,qA,qB,qC,qm,ql]
 have hw:IntKind.i64.wrap ((i:Int)+1)=((i+1:Nat):Int):=by rw [wrap_i64 _ (by omega) (by omega)];rfl
 have hw2:IntKind.i64.wrap ((S.length:Int)+(L.length:Int))=((S.length+L.length:Nat):Int):=by rw [wrap_i64 _ (by omega) (by omega)];rfl
 repeat' (first | refine gA (And.intro @hn (And.intro @f3 (And.intro @f30 (And.intro @f31 (And.intro @l0 (And.intro @l1 (And.intro @hSl (And.intro @hLl (And.intro @hw @hw2))))))))) ?_ | (refine gB (And.intro @hn (And.intro @f3 (And.intro @f30 (And.intro @f31 (And.intro @l0 (And.intro @l1 (And.intro @hSl (And.intro @hLl (And.intro @hw @hw2))))))))) ?_;intro bb hbb;cases bb<;>(try simp only [hbs,if_false,reduceCtorEq] at hbb)) | apply qc_seq | fail)
 ·rw [hw,hw2] at hbb
  refine ⟨.inr trivial,?_,trivial⟩
  simp only [lk,sv1,sv2,sv3,Nat.reduceEqDiff,Nat.reduceAdd,Nat.reduceLeDiff,reduceIte,if_false,if_true,mkVal,unLV,List.map,optTmps,if_pos (show i+1=S.length+L.length by omega)]
 ·rw [hw,hw2] at hbb
  refine ⟨.inr trivial,?_,trivial⟩
  simp only [lk,sv1,sv2,sv3,Nat.reduceEqDiff,Nat.reduceAdd,Nat.reduceLeDiff,reduceIte,if_false,if_true,mkVal,unLV,List.map,optTmps,hw,if_neg (show ¬ i+1=S.length+L.length by omega)]
end Go.Proofs.YtgobbogomchnhaaGreatDoor
end
section
set_option linter.unusedSimpArgs false
set_option linter.unusedVariables false
namespace Go.Proofs.YtgobbogomchnhaaGreatDoor
open Go Go.Pv Go.Aut Go.Bfs
open Classical
structure SG (B:Bu) (sv nv stv lov:LV) (S L:List Int) (ls:List Nat):Prop where
 st:IsInts sv B.start
 nx:IsNext nv B.next
 hS:IsInts stv S
 hL:IsInts lov L
 len:ls.length=S.length+L.length
 let':∀ i,i<ls.length→(S++L).getD i 0=((ls.getD i 0:Nat):Int)
 ok:Vb B
 bk:S.length<ls.length
 big:ls.length≤200
 lt:∀ i,i<ls.length→(ls.getD i 0:Int)<B.L
def hdc (B:Bu) (sv nv stv lov:LV):List LV:=[.int .i64 B.L,sv,nv,stv,lov]
set_option maxHeartbeats 16000000 in
theorem srun_call {s:St} {a:Nat} {B:Bu} {sv nv stv lov:LV} {S L:List Int} {ls:List Nat} (hg:SG B sv nv stv lov S L ls) {from_:List Pl} {rvs:List LV} {seev atv sav fmv:LV} {acc0:Ac Pl} {tag:Nat→Nat} (h:SM s a (hdc B sv nv stv lov) ls.length B.next.length rvs seev atv sav fmv acc0 tag) (hOk:Bfs.Ok (tkOf B ls S.length).succ from_ (InT B ls) acc0) :
  CallOk Tryz.prog GL (.fn (.func 94) [] []) [.pref a 0] s (fun _ s'=>∃ atv' sav' fmv' tag',SM s' a (hdc B sv nv stv lov) ls.length B.next.length rvs seev atv' sav' fmv' (run (tkOf B ls S.length).succ (ls.length*B.next.length+1) 0 acc0) tag'∧s.n≤s'.n∧(∀ id,SU a ls.length rvs seev atv' sav' fmv' id→SU a ls.length rvs seev atv sav fmv id∨s.n≤id)∧∀ id,id<s.n→¬ SU a ls.length rvs seev atv sav fmv id→s'.get id=s.get id):=by
 obtain ⟨hst,hnx,hS,hL,hlen,hlet',hok,hbk,hbig,hlt⟩:=hg
 obtain ⟨vs,hn⟩:=hnx
 have hNb:ls.length*B.next.length≤600000:=by
  have:ls.length*B.next.length≤200*3000:=Nat.mul_le_mul hbig hok.2.2.1
  omega
 have hlenN:∀ l:List Pl,l.Nodup→(∀ x∈l,InT B ls x)→l.length≤ls.length*B.next.length:=fun l h1 h2=>inT_len h1 h2
 have hinB:=fun {p:Pl} (hp:InT B ls p)=>inT_succ (bk:=S.length) hok hbk hlt hp
 generalize hN:ls.length*B.next.length=N at hNb
 refine call_fn (first:=[]) (caps:=[]) Tryz.func94 (by decide +kernel) c94 (Nat.le_of_ble_eq_true rfl) (CodeOk.mono (Q:=fun o e s'=>(o = .normal∨o = .jmp .ret)∧∃ atv' sav' fmv' tag',SM s' a (hdc B sv nv stv lov) ls.length B.next.length rvs seev atv' sav' fmv' (run (tkOf B ls S.length).succ (N+1) 0 acc0) tag'∧s.n≤s'.n∧(∀ id,SU a ls.length rvs seev atv' sav' fmv' id→SU a ls.length rvs seev atv sav fmv id∨s.n≤id)∧∀ id,id<s.n→¬ SU a ls.length rvs seev atv sav fmv id→s'.get id=s.get id) ?_ fun o e s' hh=>⟨hh.1, .tup [],by simp [l94,resVal],hh.2⟩)
 have e0:(envOf ([]++[.pref a 0]++[])).at 0 = .pref a 0:=by rw [envOf_at];rfl
 generalize envOf ([]++[.pref a 0]++[])=e at *
 refine Cd.out ?_
 unfold l94
 dsimp only [jA,jB,qM,qL,qF,qS,qI,qA,qB,qC,qm,ql]
 generalize hres:run (tkOf B ls S.length).succ (N+1) 0 acc0=res
 repeat' (first | refine gA trivial ?_ | (refine gB trivial ?_;intro bb hbb;cases bb<;>(try simp only [hbs,if_false,reduceCtorEq] at hbb)) | apply qc_seq | fail)
 refine qc_loop (fun m e t=>∃ (k:Nat) (acc:Ac Pl) (av tv fv:LV) (tg:Nat→Nat),m=N+1 - k∧k≤acc.length∧Bfs.Ok (tkOf B ls S.length).succ from_ (InT B ls) acc∧run (tkOf B ls S.length).succ (N+1 - k) k acc=res∧SM t a (hdc B sv nv stv lov) ls.length B.next.length rvs seev av tv fv acc tg∧s.n≤t.n∧(∀ id,SU a ls.length rvs seev av tv fv id→SU a ls.length rvs seev atv sav fmv id∨s.n≤id)∧(∀ id,id<s.n→¬ SU a ls.length rvs seev atv sav fmv id→t.get id=s.get id)∧e.at 0 = .pref a 0∧e.at 2 = .int .i64 (k:Int)) _
  ⟨0,acc0,atv,sav,fmv,tag,rfl,by omega,hOk,hres,h,Nat.le_refl _,fun id hu=>.inl hu,fun _ _ _=>rfl,ef,ef⟩ ?_
 clear e0
 clear e
 rintro m e t ⟨k,acc,av,tv,fv,tg,rfl,hk,hOk,hrun,hM,hn1,hU,hfr,e0,e2⟩
 have haccN:acc.length≤N:=by
  have:=hlenN _ hOk.nd fun x hx=>by obtain ⟨y,hy,rfl⟩:=List.mem_map.1 hx;exact hOk.rng y hy
  rw [hN] at this
  simpa using this
 have hga:t.get a=some (.cells .mut [.int .i64 B.L,sv,nv,stv,lov,seev,av,tv,fv]):=hM.ga
 have hal:=hM.at_.len
 have k6:loadLV none (.pref a 6) t=some av:=by simp [loadLV,hga,mkVal]
 have k7:loadLV none (.pref a 7) t=some tv:=by simp [loadLV,hga,mkVal]
 have k2:loadLV none (.pref a 2) t=some nv:=by simp [loadLV,hga,mkVal]
 by_cases hkl:k<acc.length
 ·obtain ⟨x,hx⟩:∃ x,acc[k]? = some x:=⟨_,List.getElem?_eq_getElem hkl⟩
  have hxin:InT B ls x.1:=hOk.rng x (List.mem_of_getElem? hx)
  obtain ⟨ja,rfl,hja,hgja⟩:=hM.at_.pos (by omega)
  obtain ⟨jt,rfl,hjt,hgjt⟩:=hM.st_.pos (by omega)
  have hkI:(k:Int)<(acc.length:Int):=by omega
  have i6:iaLV 1 (.sref ja 0 acc.length 1) (.int .i64 (k:Int)) t=some (.pref ja k,t):=by
   have:=iaS (esz:=1) (j:=ja) (off:=0) (len:=acc.length) (i:=k) (k:=.i64) (s:=t) hkI
   simpa using this
  have i7:iaLV 1 (.sref jt 0 acc.length 1) (.int .i64 (k:Int)) t=some (.pref jt k,t):=by
   have:=iaS (esz:=1) (j:=jt) (off:=0) (len:=acc.length) (i:=k) (k:=.i64) (s:=t) hkI
   simpa using this
  have l6:loadLV none (.pref ja k) t=some (.int .i64 (x.1.1:Int)):=by
   simp only [loadLV,hgja,mkVal]
   simp [nints,hx]
  have l7:loadLV none (.pref jt k) t=some (.int .i64 (x.1.2:Int)):=by
   simp only [loadLV,hgjt,mkVal]
   simp [nints,hx]
  obtain ⟨hp1,hp2⟩:=hxin
  obtain ⟨ws,hr⟩:=hn.row x.1.2 hp2
  have hrow:=hok.2.2.2.2 x.1.2 hp2
  have hlq:ls.getD x.1.1 0<(B.next.getD x.1.2 []).length:=by have:=hlt x.1.1 hp1;have:=hrow.1;omega
  have hmw:=hr.row _ hlq
  have i1:∀ t:St,iaLV 1 nv (.int .i64 (x.1.2:Int)) t=some (.pimm vs x.1.2,t):=fun t=>by
   have:=iaN (esz:=1) (k:=.i64) (s:=t) hn.sl (i:=x.1.2) (by omega)
   simpa using this
  have g1:vs[x.1.2]? = some (vs.getD x.1.2 .top):=hn.get hp2
  have i3:∀ t:St,iaLV 1 (vs.getD x.1.2 .top) (.int .i64 (ls.getD x.1.1 0:Int)) t=some (.pimm ws (ls.getD x.1.1 0),t):=fun t=>by
   have:=iaN (esz:=1) (k:=.i64) (s:=t) hr.sl (i:=ls.getD x.1.1 0) (by omega)
   simpa using this
  have g3:ws[ls.getD x.1.1 0]? = some (ws.getD (ls.getD x.1.1 0) .top):=hr.get hlq
  have hpw:∀ {t':St},t'.get a=t.get a→PtW (.pref a 0) t' S L (.pref a 3) (.pref a 3) (.pref a 4) stv lov:=fun {t'} ht=>ptw_ref (by rw [ht];exact hga) rfl rfl hS hL (by omega)
  repeat' (first | refine gA (And.intro @hal (And.intro @k6 (And.intro @k7 (And.intro @k2 (And.intro @i6 (And.intro @i7 (And.intro @l6 (And.intro @l7 (And.intro @i1 @g1))))))))) ?_ | (refine gB (And.intro @hal (And.intro @k6 (And.intro @k7 (And.intro @k2 (And.intro @i6 (And.intro @i7 (And.intro @l6 (And.intro @l7 (And.intro @i1 @g1))))))))) ?_;intro bb hbb;cases bb<;>(try simp only [hbs,if_false,reduceCtorEq] at hbb)) | apply qc_seq | fail)
  ·exfalso;omega
  refine q_call wN rfl (by simp only [List.map,lk,sv1,sv2,sv3,Nat.reduceEqDiff,Nat.reduceAdd,Nat.reduceLeDiff,reduceIte,if_false,if_true,mkVal,unLV,List.map,optTmps]) (CallOk.mono (slet_call (hpw rfl) (i:=x.1.1) (by omega)) fun r t' hh=>?_)
  obtain ⟨rfl,rfl⟩:=hh
  rw [hlet' x.1.1 hp1]
  simp only [Env.put_some]
  refine ⟨⟨chk_load (p:=.pref a 2) ef k2 ef,chk_load (p:=.pref a 7) ef k7 ef,chk_load (p:=.pref jt k) ef l7 ef,chk_load (p:=.pimm vs x.1.2) ef (load_imm g1) ef,trivial⟩,?_⟩
  repeat' (first | refine gA (And.intro @i3 @g3) ?_ | (refine gB (And.intro @i3 @g3) ?_;intro bb hbb;cases bb<;>(try simp only [hbs,if_false,reduceCtorEq] at hbb)) | apply qc_seq | fail)
  generalize hms:(B.next.getD x.1.2 []).getD (ls.getD x.1.1 0) []=ms at hmw
  have hbms:bms B ls x.1=ms:=hms
  generalize ws.getD (ls.getD x.1.1 0) .top=mv at *
  have hml:=hmw.sl.len
  have hmlen:=hmw.len
  have hnx:(tkOf B ls S.length).succ x.1=ms.map fun m=>(tkOf B ls S.length).after x.1 (nat2 m):=by rw [succ_eq,hbms]
  have hstep:=hOk.step (fun p hp=>hinB hp) hx
  have hrun':run (tkOf B ls S.length).succ (N+1 - (k+1)) (k+1) (adds acc ((tkOf B ls S.length).succ x.1) k)=res:=by
   rw [← hrun,show N+1 - k=(N+1 - (k+1))+1 by omega]
   simp only [run,hx]
  have hOkj:∀ j,Bfs.Ok (tkOf B ls S.length).succ from_ (InT B ls) (adds acc ((ms.take j).map fun m=>(tkOf B ls S.length).after x.1 (nat2 m)) k):=fun j=>hOk.adds (fun p hp=>by
    obtain ⟨m,hm1,rfl⟩:=List.mem_map.1 hp
    exact hinB ⟨hp1,hp2⟩ _ (by rw [hnx];exact List.mem_map_of_mem (List.mem_of_mem_take hm1))) fun p hp=>by
    obtain ⟨m,hm1,rfl⟩:=List.mem_map.1 hp
    exact .inr ⟨k,x,rfl,hx,by rw [hnx];exact List.mem_map_of_mem (List.mem_of_mem_take hm1)⟩
  refine qc_loop (fun m e t=>∃ (j:Nat) (av tv fv:LV) (tg:Nat→Nat),m=ms.length - j∧j≤ms.length∧SM t a (hdc B sv nv stv lov) ls.length B.next.length rvs seev av tv fv (adds acc ((ms.take j).map fun m=>(tkOf B ls S.length).after x.1 (nat2 m)) k) tg∧s.n≤t.n∧(∀ id,SU a ls.length rvs seev av tv fv id→SU a ls.length rvs seev atv sav fmv id∨s.n≤id)∧(∀ id,id<s.n→¬ SU a ls.length rvs seev atv sav fmv id→t.get id=s.get id)∧e.at 0 = .pref a 0∧e.at 2 = .int .i64 (k:Int)∧e.at 3=mv∧e.at 4 = .int .i64 (j:Int)) _
   ⟨0,_,_,fv,tg,rfl,by omega,by simpa [adds] using hM,hn1,hU,hfr,ef,ef,ef,by simp only [lk,sv1,sv2,sv3,Nat.reduceEqDiff,Nat.reduceAdd,Nat.reduceLeDiff,reduceIte,if_false,if_true,mkVal,unLV,List.map,optTmps];rfl⟩ ?_
  clear hM hn1 hU hfr e0 e2 hga hal k6 k7 k2 i6 i7 l6 l7 hpw hbb hgja hgjt hja hjt
  clear e t' fv tg ja jt
  rintro m e t ⟨j,av,tv,fv,tg,rfl,hj,hM,hn1,hU,hfr,e0,e2,e3,e4⟩
  by_cases hjl:j<ms.length
  ·obtain ⟨mm,hmm⟩:∃ mm,ms[j]? = some mm:=⟨_,List.getElem?_eq_getElem hjl⟩
   have hgd:ms.getD j (0,false)=mm:=by rw [List.getD_eq_getElem?_getD,hmm];rfl
   have hjI:(j:Int)<(ms.length:Int):=by omega
   have hmx:maxLen=9223372036854775807:=by decide
   have hw':IntKind.i64.wrap ((j:Int)+1)=((j+1:Nat):Int):=by rw [wrap_i64 _ (by omega) (by omega)];rfl
   have hlj:(adds acc ((ms.take j).map fun m=>(tkOf B ls S.length).after x.1 (nat2 m)) k).length≤N:=by
    have h1:=hOkj j
    have:=hlenN _ h1.nd fun x hx=>by obtain ⟨y,hy,rfl⟩:=List.mem_map.1 hx;exact h1.rng y hy
    rw [List.length_map,hN] at this
    exact this
   have hxj:(adds acc ((ms.take j).map fun m=>(tkOf B ls S.length).after x.1 (nat2 m)) k)[k]? = some x:=by rw [adds_get hkl];exact hx
   have hkj:k<(adds acc ((ms.take j).map fun m=>(tkOf B ls S.length).after x.1 (nat2 m)) k).length:=(List.getElem?_eq_some_iff.1 hxj).1
   have hmn:=move_nat (ls:=ls) hok hlt ⟨hp1,hp2⟩ (by rw [hbms];exact hmm)
   have haf:(tkOf B ls S.length).after x.1 (nat2 mm)=(if x.1.1+1=S.length+L.length then S.length else x.1.1+1,mm.1.toNat):=by
    rw [← hlen];rfl
   have hin:=hinB ⟨hp1,hp2⟩ ((tkOf B ls S.length).after x.1 (nat2 mm)) (by rw [hnx];exact List.mem_map_of_mem (List.mem_of_getElem? hmm))
   rw [haf] at hin
   obtain ⟨hq,hqn⟩:=hmn
   generalize mm.1.toNat=q at hq hqn haf hin
   generalize hacj:adds acc ((ms.take j).map fun m=>(tkOf B ls S.length).after x.1 (nat2 m)) k=acj at *
   have hga:t.get a=some (.cells .mut [.int .i64 B.L,sv,nv,stv,lov,seev,av,tv,fv]):=hM.ga
   obtain ⟨ja,rfl,hja,hgja⟩:=hM.at_.pos (by omega)
   have k6:loadLV none (.pref a 6) t=some (.sref ja 0 acj.length 1):=by simp [loadLV,hga,mkVal]
   have i6:iaLV 1 (.sref ja 0 acj.length 1) (.int .i64 (k:Int)) t=some (.pref ja k,t):=by
    have:=iaS (esz:=1) (j:=ja) (off:=0) (len:=acj.length) (i:=k) (k:=.i64) (s:=t) (by omega)
    simpa using this
   have l6:loadLV none (.pref ja k) t=some (.int .i64 (x.1.1:Int)):=by
    simp only [loadLV,hgja,mkVal]
    simp [nints,hxj]
   have lm:∀ t:St,loadLV none (.pimm (mcells ms) (j*2+0)) t=some (.int .i64 (q:Int)):=fun t=>by
    have:=mcells_get0 hjl
    rw [hgd,hq] at this
    exact load_imm this
   have hpw:PtW (.pref a 0) t S L (.pref a 3) (.pref a 3) (.pref a 4) stv lov:=ptw_ref hga rfl rfl hS hL (by omega)
   repeat' (first | refine gA (And.intro @hml (And.intro @k6 (And.intro @i6 (And.intro @l6 (And.intro (@iaN _ _ _ hmw.sl) @lm))))) ?_ | (refine gB (And.intro @hml (And.intro @k6 (And.intro @i6 (And.intro @l6 (And.intro (@iaN _ _ _ hmw.sl) @lm))))) ?_;intro bb hbb;cases bb<;>(try simp only [hbs,if_false,reduceCtorEq] at hbb)) | apply qc_seq | fail)
   ·exfalso;omega
   refine q_call wN rfl (by simp only [List.map,lk,sv1,sv2,sv3,Nat.reduceEqDiff,Nat.reduceAdd,Nat.reduceLeDiff,reduceIte,if_false,if_true,mkVal,unLV,List.map,optTmps]) (CallOk.mono (snext_call hpw (i:=x.1.1) (by omega)) fun r t' hh=>?_)
   obtain ⟨rfl,rfl⟩:=hh
   simp only [Env.put_some]
   refine ⟨⟨chk_load (p:=.pimm (mcells ms) (j*2+0)) ef (lm _) ef,trivial⟩,?_⟩
   refine q_call wN rfl (by simp only [List.map,lk,sv1,sv2,sv3,Nat.reduceEqDiff,Nat.reduceAdd,Nat.reduceLeDiff,reduceIte,if_false,if_true,mkVal,unLV,List.map,optTmps]) (CallOk.mono (sadd_ok hM rfl (i:=if x.1.1+1=S.length+L.length then S.length else x.1.1+1) (k:=q) (b:=(k:Int)) hin.1 hqn (by omega)) fun r t2 hh=>⟨trivial,?_⟩)
   obtain ⟨av',tv',fv',tg',hM',hn',hU',hfr'⟩:=hh
   simp only [Env.put_some]
   repeat' (first | refine gA trivial ?_ | (refine gB trivial ?_;intro bb hbb;cases bb<;>(try simp only [hbs,if_false,reduceCtorEq] at hbb)) | apply qc_seq | fail)
   refine ⟨ms.length - (j+1),by omega,j+1,av',tv',fv',tg',rfl,by omega,?_,by omega,fun id hu=>(hU' id hu).elim (fun h=>hU id h) (fun h=>.inr (by omega)),fun id hid hnu=>(hfr' id (by omega) fun hu=>(hU id hu).elim hnu fun h=>by omega).trans (hfr id hid hnu),ef,ef,ef,ef⟩
   rw [take_snoc hmm,List.map_append,List.map_cons,List.map_nil,adds_snoc,hacj,haf]
   exact hM'
  ·have hj':j=ms.length:=by omega
   subst hj'
   rw [List.take_length,← hnx] at hM
   have hw:IntKind.i64.wrap ((k:Int)+1)=((k+1:Nat):Int):=by rw [wrap_i64 _ (by omega) (by omega)];rfl
   repeat' (first | refine gA @hml ?_ | (refine gB @hml ?_;intro bb hbb;cases bb<;>(try simp only [hbs,if_false,reduceCtorEq] at hbb)) | apply qc_seq | fail)
   ·refine ⟨N+1 - (k+1),by omega,k+1,_,av,tv,fv,tg,rfl,?_,hstep,hrun',hM,hn1,hU,hfr,ef,ef⟩
    have:=adds_len ((tkOf B ls S.length).succ x.1) acc k
    omega
   ·exfalso;omega
 ·have hacc:acc=res:=by
   rw [← hrun]
   have:acc[k]? = none:=List.getElem?_eq_none (by omega)
   cases h:N+1 - k with
   | zero=>rfl
   | succ f=>simp only [run,this]
  subst hacc
  repeat' (first | refine gA (And.intro @hal @k6) ?_ | (refine gB (And.intro @hal @k6) ?_;intro bb hbb;cases bb<;>(try simp only [hbs,if_false,reduceCtorEq] at hbb)) | apply qc_seq | fail)
  ·exact ⟨.inl trivial,av,tv,fv,tg,hM,hn1,hU,hfr⟩
  ·exfalso;omega
end Go.Proofs.YtgobbogomchnhaaGreatDoor
end
