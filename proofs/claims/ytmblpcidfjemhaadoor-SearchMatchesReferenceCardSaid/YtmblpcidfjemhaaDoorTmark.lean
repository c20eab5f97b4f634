/- search.Live's mark. -/
import Derived.Test.YtmblpcidfjemhaaDoorTlaw
set_option linter.unusedSimpArgs false
set_option linter.unusedVariables false
section
set_option linter.unusedSimpArgs false
set_option linter.unusedVariables false
namespace Go.Proofs.YtmblpcidfjemhaaDoor
open Go Go.Pv Go.Aut Go.Tarjan
open Classical
structure MK (n:Nat) (s:St) (f:Nat→Bool) (list:List Nat) (lv:LV):Prop where
  g0:s.get 0=some (.cells .mut (bcells n f))
  g1:s.get 1=some (.cells .mut [.sref 0 0 n 1])
  g3:s.get 3=some (.cells .mut [lv])
  n4:4≤s.n
  sl:SkC s lv 1 (nints list) list.length
  low:∀ id,uses lv id→4≤id
theorem MK.keep {n:Nat} {s s':St} {f:Nat→Bool} {list:List Nat} {lv:LV} (h:MK n s f list lv) (hn:s.n≤s'.n) (hs:∀ id,id<4∨uses lv id→id≠2→s'.get id=s.get id):MK n s' f list lv:=
  ⟨by rw [hs 0 (.inl (by omega)) (by omega)];exact h.g0,by rw [hs 1 (.inl (by omega)) (by omega)];exact h.g1,by rw [hs 3 (.inl (by omega)) (by omega)];exact h.g3,by have:=h.n4;omega,h.sl.mono hn fun id hu=>hs id (.inr hu) (by have:=h.low id hu;omega),h.low⟩
set_option maxHeartbeats 4000000 in
theorem mark_ok {n:Nat} {s:St} {f:Nat→Bool} {list:List Nat} {lv:LV} (h:MK n s f list lv) {q:Nat} (hq:q<n) (hb:list.length≤1000000) :
    CallOk Tryd.prog GL (.fn (.func 28) [] [.pref 1 0, .pref 3 0]) [.int .i64 (q:Int)] s (fun _ s'=>∃ lv',MK n s' (fun j=>if j=q then true else f j) (if f q=true then list else list++[q]) lv'∧s.n≤s'.n∧(∀ id,4≤id→id<s.n→¬ uses lv id→s'.get id=s.get id)∧s'.get 2=s.get 2∧∀ id,uses lv' id→uses lv id∨s.n≤id):=by
  refine call_fn (first:=[]) (caps:=[.pref 1 0, .pref 3 0]) Tryd.func28 (by decide +kernel) c28 (Nat.le_of_ble_eq_true rfl) (CodeOk.mono (Q:=fun o e s'=>(o = .normal∨o = .jmp .ret)∧∃ lv',MK n s' (fun j=>if j=q then true else f j) (if f q=true then list else list++[q]) lv'∧s.n≤s'.n∧(∀ id,4≤id→id<s.n→¬ uses lv id→s'.get id=s.get id)∧s'.get 2=s.get 2∧∀ id,uses lv' id→uses lv id∨s.n≤id) ?_ fun o e s' hh=>by
    exact ⟨hh.1, .tup [],by simp [l28,resVal],hh.2⟩)
  have e0:(envOf ([]++[.int .i64 (q:Int)]++[.pref 1 0, .pref 3 0])).at 0 = .int .i64 (q:Int):=by rw [envOf_at];rfl
  have e1:(envOf ([]++[.int .i64 (q:Int)]++[.pref 1 0, .pref 3 0])).at 1 = .pref 1 0:=by rw [envOf_at];rfl
  have e2:(envOf ([]++[.int .i64 (q:Int)]++[.pref 1 0, .pref 3 0])).at 2 = .pref 3 0:=by rw [envOf_at];rfl
  generalize envOf ([]++[.int .i64 (q:Int)]++[.pref 1 0, .pref 3 0])=e at *
  refine Cd.out ?_
  unfold l28
  dsimp only [jA,jG,qI,qm,ql]
  have g0:=h.g0
  have g1:=h.g1
  have g3:=h.g3
  have n4:=h.n4
  have hqI:(q:Int)<(n:Int):=by omega
  have gq:(bcells n f)[q]? = some (.bool (f q)):=bcells_get hq
  cases hfq:f q with
  | false=>
    rw [hfq] at gq
    repeat' (first | refine gA (And.intro @iaS @gq) ?_ | (refine gB (And.intro @iaS @gq) ?_;intro bb hbb;cases bb<;>(try simp only [hbs,if_false,reduceCtorEq] at hbb)) | apply qc_seq | fail)
    refine q_storeB (i:=0) (q:=q) (n:=n) (b:=true) (f:=f) (f':=fun j=>if j=q then true else f j) (by simp only [lk,sv1,sv2,sv3,Nat.reduceEqDiff,Nat.reduceAdd,Nat.reduceLeDiff,reduceIte,if_false,if_true,mkVal,unLV,List.map,optTmps,Nat.zero_add,Nat.mul_one]) ef g0 hq (fun j=>rfl) (fun s2 n2 h2 o2=>?_)
    have k3:s2.get 3=some (.cells .mut [lv]):=by rw [o2 _ (by omega)];exact g3
    have k1:s2.get 1=some (.cells .mut [.sref 0 0 n 1]):=by rw [o2 _ (by omega)];exact g1
    have hsl:=h.sl.mono (s':=s2) (by omega) fun id hu=>o2 id (by have:=h.low id hu;omega)
    repeat' (first | refine gA trivial ?_ | (refine gB trivial ?_;intro bb hbb;cases bb<;>(try simp only [hbs,if_false,reduceCtorEq] at hbb)) | apply qc_seq | fail)
    refine q_appC (n:=list.length) (esz:=1) (xv:=.int .i64 (q:Int)) (yv:=lv) (vs:=[.int .i64 (q:Int)]) ef rfl rfl rfl rfl ef hsl (by decide) (by omega) (fun s3 j3 a1 a2 a3 a4=>?_)
    have hlow:=h.low
    have k33:s3.get 3=some (.cells .mut [lv]):=by rw [a4 3 (by omega) fun hu=>by have:=hlow _ hu;omega];exact k3
    repeat' (first | refine gA trivial ?_ | (refine gB trivial ?_;intro bb hbb;cases bb<;>(try simp only [hbs,if_false,reduceCtorEq] at hbb)) | apply qc_seq | fail)
    have hk:∀ id,id≠0→id≠3→id<s.n→¬ uses lv id→(s3.put 3 (.cells .mut [.sref j3 0 (list.length+1) 1])).get id=s.get id:=fun id c1 c2 c3 c4=>by rw [St.get_put,if_neg c2,a4 id (by omega) c4,o2 id c1]
    have hnl:∀ id,id<4→¬ uses lv id:=fun id hid hu=>by have:=hlow _ hu;omega
    refine ⟨.inl trivial, .sref j3 0 (list.length+1) 1,⟨?_,?_,by rw [St.get_put,if_pos rfl],by rw [St.n_put];omega,?_,fun id hu=>by have:=uses_sref.1 hu;omega⟩,by rw [St.n_put];omega,fun id c1 c2 c3=>hk id (by omega) (by omega) c2 c3,hk 2 (by omega) (by omega) (by omega) (hnl 2 (by omega)),fun id hu=>.inr (by have:=uses_sref.1 hu;omega)⟩
    · rw [St.get_put,if_neg (by omega),a4 0 (by omega) (hnl 0 (by omega))];exact h2
    · rw [hk 1 (by omega) (by omega) (by omega) (hnl 1 (by omega))];exact g1
    · rw [if_neg (by simp)]
      have e1:nints (list++[q])=nints list++[.int .i64 (q:Int)]:=by simp [nints]
      rw [e1,List.length_append]
      exact a2.mono (Nat.le_refl _) fun id hu=>by rw [St.get_put,if_neg (by have:=uses_sref.1 hu;omega)]
  | true=>
    rw [hfq] at gq
    repeat' (first | refine gA (And.intro @iaS @gq) ?_ | (refine gB (And.intro @iaS @gq) ?_;intro bb hbb;cases bb<;>(try simp only [hbs,if_false,reduceCtorEq] at hbb)) | apply qc_seq | fail)
    have hf:(fun j=>if j=q then true else f j)=f:=funext fun j=>by
      by_cases hj:j=q
      · rw [if_pos hj,hj,hfq]
      · rw [if_neg hj]
    rw [hf]
    exact ⟨.inl trivial,lv,h,Nat.le_refl _,fun _ _ _ _=>trivial,trivial,fun _ hu=>.inl hu⟩
end Go.Proofs.YtmblpcidfjemhaaDoor
end
section
set_option linter.unusedSimpArgs false
set_option linter.unusedVariables false
namespace Go.Proofs.YtmblpcidfjemhaaDoor
open Go Go.Pv Go.Aut Go.Tarjan
open Classical
def Pd (q a k x a' k':Nat):Prop:=x<q∨x=q∧(a'<a∨a'=a∧k'<k)
structure LG (B:Bu) (q a k:Nat) (f:Nat→Bool) (list:List Nat) (bf:Nat→List Nat):Prop where
  fl:∀ u,f u=true↔u∈list
  nd:list.Nodup
  rng:∀ u∈list,u<B.next.length
  snd:∀ u∈list,Lvs B u
  src:∀ t x,x∈bf t→x<B.next.length∧t∈nxB B x
  all:∀ x a' k' m,Pd q a k x a' k'→(rowAt B x a')[k']? = some m→x∈bf m.1.toNat∧(m.2=true→Rch (nxB B) m.1.toNat x→x∈list)
  bl:∀ t,(bf t).length≤(q*64+a)*80+k
def mkf (f:Nat→Bool) (u:Nat):Nat→Bool:=fun j=>if j=u then true else f j
def mkl (f:Nat→Bool) (list:List Nat) (u:Nat):List Nat:=if f u=true then list else list++[u]
theorem mem_mkl {f:Nat→Bool} {list:List Nat} (h:∀ u,f u=true↔u∈list) (u x:Nat):x∈mkl f list u↔x∈list∨x=u:=by
  unfold mkl
  by_cases hf:f u=true
  · rw [if_pos hf]
    exact ⟨.inl,fun hh=>hh.elim id fun e=>by rw [e];exact (h u).1 hf⟩
  · rw [if_neg hf];simp
theorem mkl_pre (f:Nat→Bool) (list:List Nat) (u:Nat):∃ t,mkl f list u=list++t:=by
  unfold mkl
  split
  · exact ⟨[],by simp⟩
  · exact ⟨[u],rfl⟩
theorem LG.len {B:Bu} {q a k:Nat} {f:Nat→Bool} {list:List Nat} {bf:Nat→List Nat} (h:LG B q a k f list bf):list.length≤B.next.length:=pig _ list h.nd h.rng
theorem LG.mark {B:Bu} {q a k:Nat} {f:Nat→Bool} {list:List Nat} {bf:Nat→List Nat} (h:LG B q a k f list bf) {u:Nat} (hu:u<B.next.length) (hl:Lvs B u):LG B q a k (mkf f u) (mkl f list u) bf:=by
  have hm:=mem_mkl h.fl u
  refine ⟨fun x=>?_,?_,fun x hx=>?_,fun x hx=>?_,h.src,fun x a' k' m hp hx=>⟨(h.all x a' k' m hp hx).1,fun h1 h2=>(hm x).2 (.inl ((h.all x a' k' m hp hx).2 h1 h2))⟩,h.bl⟩
  · rw [hm]
    unfold mkf
    by_cases hx:x=u
    · simp [hx]
    · simp [hx,h.fl x]
  · unfold mkl
    by_cases hf:f u=true
    · rw [if_pos hf];exact h.nd
    · rw [if_neg hf,List.nodup_append]
      exact ⟨h.nd,by simp,fun x hx y hy e=>by
        rw [List.mem_singleton.1 hy] at e
        subst e
        exact hf ((h.fl x).2 hx)⟩
  · rcases (hm x).1 hx with h1 | rfl
    · exact h.rng x h1
    · exact hu
  · rcases (hm x).1 hx with h1 | rfl
    · exact h.snd x h1
    · exact hl
theorem LG.add {B:Bu} {q a k:Nat} {f:Nat→Bool} {list:List Nat} {bf:Nat→List Nat} (hok:Vb B) (h:LG B q a k f list bf) (hq:q<B.next.length) {m:Int × Bool} (hm:(rowAt B q a)[k]? = some m) (hc:m.2=true→Rch (nxB B) m.1.toNat q→q∈list):LG B q a (k+1) f list (fun t=>if t=m.1.toNat then bf m.1.toNat++[q] else bf t):=by
  refine ⟨h.fl,h.nd,h.rng,h.snd,fun t x hx=>?_,fun x a' k' m' hp hx=>?_,fun t=>?_⟩
  · by_cases ht:t=m.1.toNat
    · rw [if_pos ht] at hx
      rcases List.mem_append.1 hx with h1 | h1
      · rw [ht];exact h.src _ x h1
      · rw [List.mem_singleton.1 h1,ht]
        exact ⟨hq,(mem_nxB hok).2 ⟨a,m.2,by simp only [bmv];exact List.mem_map_of_mem (List.mem_of_getElem? hm)⟩⟩
    · rw [if_neg ht] at hx;exact h.src t x hx
  · by_cases he:x=q∧a'=a∧k'=k
    · obtain ⟨rfl,rfl,rfl⟩:=he
      rw [hm] at hx
      cases hx
      exact ⟨by simp,hc⟩
    · have hp':Pd q a k x a' k':=by unfold Pd at *;omega
      obtain ⟨h1,h2⟩:=h.all x a' k' m' hp' hx
      refine ⟨?_,h2⟩
      by_cases ht:m'.1.toNat=m.1.toNat
      · rw [if_pos ht];exact List.mem_append_left _ (ht ▸ h1)
      · rw [if_neg ht];exact h1
  · have h1:=h.bl t
    have h2:=h.bl m.1.toNat
    by_cases ht:t=m.1.toNat
    · rw [if_pos ht,List.length_append]
      simp only [List.length_singleton]
      omega
    · rw [if_neg ht];omega
theorem LG.letter {B:Bu} {q a k:Nat} {f:Nat→Bool} {list:List Nat} {bf:Nat→List Nat} (h:LG B q a k f list bf) (hk:k=(rowAt B q a).length) (hk8:k≤80):LG B q (a+1) 0 f list bf:=by
  refine ⟨h.fl,h.nd,h.rng,h.snd,h.src,fun x a' k' m hp hx=>?_,fun t=>by have:=h.bl t;omega⟩
  have hkl:=(List.getElem?_eq_some_iff.1 hx).1
  refine h.all x a' k' m ?_ hx
  unfold Pd at *
  by_cases he:x=q∧a'=a
  · obtain ⟨rfl,rfl⟩:=he
    exact .inr ⟨rfl, .inr ⟨rfl,by omega⟩⟩
  · omega
theorem LG.state {B:Bu} {q a:Nat} {f:Nat→Bool} {list:List Nat} {bf:Nat→List Nat} (h:LG B q a 0 f list bf) (ha:a=(B.next.getD q []).length) (ha6:a≤64):LG B (q+1) 0 0 f list bf:=by
  refine ⟨h.fl,h.nd,h.rng,h.snd,h.src,fun x a' k' m hp hx=>?_,fun t=>by have:=h.bl t;omega⟩
  refine h.all x a' k' m ?_ hx
  unfold Pd at *
  by_cases he:x=q
  · subst he
    refine .inr ⟨rfl, .inl ?_⟩
    apply Classical.byContradiction
    intro hn
    have:rowAt B x a'=[]:=by unfold rowAt;rw [List.getD_eq_getElem?_getD,List.getElem?_eq_none (by omega)];rfl
    rw [this] at hx;cases hx
  · omega
theorem LG.init (B:Bu):LG B 0 0 0 (fun _=>false) [] (fun _=>[]) :=
  ⟨fun u=>(by simp),(by simp),fun u h=>(by cases h),fun u h=>(by cases h),fun t x h=>(by cases h),fun x a' k' m hp=>(by unfold Pd at hp;omega),fun t=>(by simp)⟩
theorem bmv_row {B:Bu} {x t a:Nat} {g:Bool} (h:(t,g)∈bmv B x a):∃ (k:Nat) (m:Int × Bool),(rowAt B x a)[k]? = some m∧m.1.toNat=t∧m.2=g:=by
  simp only [bmv] at h
  obtain ⟨m,hm,hme⟩:=List.mem_map.1 h
  obtain ⟨k,hk⟩:=List.mem_iff_getElem?.1 hm
  exact ⟨k,m,hk,congrArg Prod.fst hme,congrArg Prod.snd hme⟩
theorem row_in {B:Bu} {x a k:Nat} {m:Int × Bool} (h:(rowAt B x a)[k]? = some m):x<B.next.length:=by
  apply Classical.byContradiction
  intro hn
  have:rowAt B x a=[]:=by
    unfold rowAt
    rw [List.getD_eq_getElem?_getD (l:=B.next),List.getElem?_eq_none (by omega)]
    rfl
  rw [this] at h;cases h
theorem LG.fin {B:Bu} {f:Nat→Bool} {list:List Nat} {bf:Nat→List Nat} (hok:Vb B) (h:LG B B.next.length 0 0 f list bf) (hw:∀ (i t:Nat),list[i]? = some t→∀ x∈bf t,x∈list) (u:Nat):f u=true↔Lvs B u:=by
  rw [h.fl]
  refine ⟨h.snd u,?_⟩
  rintro ⟨w,hr,a,v,hm,hv⟩
  have hin:w∈list:=by
    obtain ⟨k,m,h1,h2,h3⟩:=bmv_row hm
    exact (h.all w a k m (.inl (row_in h1)) h1).2 h3 (by rw [h2];exact hv)
  clear hm hv
  induction hr with
  | refl=>exact hin
  | @head u v w e _ ih=>
    have hvl:=ih hin
    obtain ⟨i,hi⟩:=List.mem_iff_getElem?.1 hvl
    obtain ⟨a',g,hm⟩:=(mem_nxB hok).1 e
    obtain ⟨k,m,h1,h2,h3⟩:=bmv_row hm
    have:=(h.all u a' k m (.inl (row_in h1)) h1).1
    rw [h2] at this
    exact hw i v hi u this
structure HS (n:Nat) (s:St) (f:Nat→Bool) (list:List Nat) (lv:LV) (rows:Nat→List Nat) (rv:List LV):Prop where
  mkd:MK n s f list lv
  nr:NR 4 s 2 n rows rv
  dj:∀ i,i<n→∀ id,uses (rv.getD i .top) id→¬ uses lv id
theorem HS.keep {n:Nat} {s s':St} {f:Nat→Bool} {list:List Nat} {lv:LV} {rows:Nat→List Nat} {rv:List LV} (h:HS n s f list lv rows rv) (hn:s.n≤s'.n) (hs:∀ id,id<s.n→s'.get id=s.get id):HS n s' f list lv rows rv:=
  ⟨h.mkd.keep hn fun id hid _=>hs id (by
    rcases hid with hid | hid
    · have:=h.mkd.n4;omega
    · exact h.mkd.sl.lt hid),h.nr.keep hn hs,h.dj⟩
theorem HS.mark {n:Nat} {s s':St} {f f':Nat→Bool} {list list':List Nat} {lv lv':LV} {rows:Nat→List Nat} {rv:List LV} (h:HS n s f list lv rows rv) (hm:MK n s' f' list' lv') (hn:s.n≤s'.n) (hs:∀ id,4≤id→id<s.n→¬ uses lv id→s'.get id=s.get id) (h2:s'.get 2=s.get 2) (hu:∀ id,uses lv' id→uses lv id∨s.n≤id):HS n s' f' list' lv' rows rv:=
  ⟨hm,⟨h.nr.len,by rw [h2];exact h.nr.g,by have:=h.nr.lt;omega,fun i hi=>(h.nr.row i hi).mono hn fun id hid=>hs id (h.nr.low i hi id hid).1 ((h.nr.row i hi).lt hid) (h.dj i hi id hid),h.nr.low,h.nr.dj⟩,fun i hi id hid hid'=>by
    rcases hu id hid' with h1 | h1
    · exact h.dj i hi id hid h1
    · have:=(h.nr.row i hi).lt hid;omega⟩
theorem HS.row {n:Nat} {s s2:St} {f:Nat→Bool} {list:List Nat} {lv:LV} {rows:Nat→List Nat} {rv:List LV} (h:HS n s f list lv rows rv) {i j:Nat} (hi:i<n) {r:List Nat} (h1:s.n≤j) (h2:SkC s2 (.sref j 0 r.length 1) 1 (nints r) r.length) (hn:s.n≤s2.n) (hs:∀ id,id<s.n→¬ uses (rv.getD i .top) id→s2.get id=s.get id):HS n (s2.put 2 (.cells .mut (rv.set i (.sref j 0 r.length 1)))) f list lv (fun k=>if k=i then r else rows k) (rv.set i (.sref j 0 r.length 1)):=by
  have hn4:=h.mkd.n4
  have hk:∀ id,id≠2→id<s.n→¬ uses (rv.getD i .top) id→(s2.put 2 (.cells .mut (rv.set i (.sref j 0 r.length 1)))).get id=s.get id:=fun id c1 c2 c3=>by rw [St.get_put,if_neg c1];exact hs id c2 c3
  refine ⟨h.mkd.keep (by rw [St.n_put];exact hn) fun id hid h2'=>?_,h.nr.put (by omega) hn4 hi h1 h2 hn hs rfl (by rw [St.get_put,if_pos rfl]) (fun id hid=>by rw [St.get_put,if_neg hid]),fun k hk' id hu hu'=>?_⟩
  · rcases hid with hid | hid
    · exact hk id h2' (by omega) fun hu=>by have:=(h.nr.low i hi id hu).1;omega
    · exact hk id h2' (h.mkd.sl.lt hid) fun hu=>h.dj i hi id hu hid
  · rw [getD_set (by rw [h.nr.len];exact hi)] at hu
    by_cases e:k=i
    · rw [if_pos e] at hu
      have:=h.mkd.sl.lt hu'
      rw [uses_sref.1 hu] at this
      omega
    · rw [if_neg e] at hu
      exact h.dj k hk' id hu hu'
theorem q_appK2 {P:Program} {G:Globs} {K:Env→St→Prop} {l:List LOper} {e:Env} {s:St} {fl fl':Bool} {chk chk':List (Nat × Option (Nat × Bool) × LOp)} {a b bytes n:Nat} {x y:Opd} {z:LV} {xv yv:LV} {cells:List LV} (hx:x.ev e=xv) (hxc:cells? xv=some [xv]) (hcl:xv.closed=true) (hy:y.ev (Tr.set e a (.sref s.n 0 1 1))=yv) (hs:SkC s yv 1 cells n) (hck:Chks chk (Tr.set e a (.sref s.n 0 1 1)) (s.new (.cells .mut [xv]))) (hb:bytes≤2 ^ 10) (hl:n≤2 ^ 20)
    (h:∀ s' j,s.n≤j→SkC s' (.sref j 0 (n+1) 1) 1 (cells++[xv]) (n+1)→s.n≤s'.n→(∀ id,id<s.n→¬ uses yv id→s'.get id=s.get id)→Chks chk' (Tr.set (Tr.set e a (.sref s.n 0 1 1)) b (.sref j 0 (n+1) 1)) s'∧W P G K l (Tr.set (Tr.set e a (.sref s.n 0 1 1)) b (.sref j 0 (n+1) 1)) s') :
    W P G K (⟨some a, .bslice 1 1 [z] [(0,(1,x))],none,chk,fl⟩::⟨some b, .append 1 bytes y (.t a),none,chk',fl'⟩::l) e s:=by
  have hfill:fillParts (rep 1 [z]) (evParts e [(0,(1,x))])=some [xv]:=by
    have hr1:rep 1 [z]=[z]:=by simp [rep]
    simp only [evParts,List.map,hr1,fillParts,hx,hxc]
    rfl
  refine q_gen (v:=.sref s.n 0 1 1) (s':=s.new (.cells .mut [xv])) rfl (by simp only [LOp.run,hfill,Option.bind_eq_bind,Option.bind_some]) (by cases fl<;>rfl) hck ?_
  simp only [Env.put_some]
  have hr:rowOf (s.new (.cells .mut [xv])) 1 1 (.sref s.n 0 1 1)=some [xv]:=by
    simp [rowOf,St.get_new]
  have hft:frzTry [xv] (s.new (.cells .mut [xv]))=([xv],s.new (.cells .mut [xv])):=frzTry_closed hcl
  have hbig:(n+1)*bytes≤big:=by
    have:(n+1)*bytes≤(2 ^ 20+1)*2 ^ 10:=Nat.mul_le_mul (by omega) hb
    unfold big;omega
  obtain ⟨hcl0,hs⟩:=hs
  have hlen':(cells++[xv]).length=(n+1)*1:=by rw [List.length_append,hcl0];simp
  have key:∀ (r:LV) (s2:St) (len:Nat),lenLV yv=some len→appendLV 1 bytes yv [xv] 1 (s.new (.cells .mut [xv]))=some (r,s2)→(LOp.append 1 bytes y (.t a)).run (Tr.set e a (.sref s.n 0 1 1)) (s.new (.cells .mut [xv]))=some (r,s2):=fun r s2 len h1 h2=>by
    have h3:(Opd.t a).ev (Tr.set e a (.sref s.n 0 1 1)) = .sref s.n 0 1 1:=by simp only [lk,sv1,sv2,sv3,Nat.reduceEqDiff,Nat.reduceAdd,Nat.reduceLeDiff,reduceIte,if_false,if_true,mkVal,unLV,List.map,optTmps]
    have h4:lenLV (.sref s.n 0 1 1)=some 1:=rfl
    simp only [LOp.run,hy,h3,h4,Option.bind_eq_bind,Option.bind_some,hr,hft,h2]
  rcases hs with ⟨rfl,rfl⟩ | ⟨j,rfl,h1,h2,h3⟩
  · have hc0:cells=[]:=List.length_eq_zero_iff.1 (by rw [hcl0])
    subst hc0
    have hap:appendLV 1 bytes .nils [xv] 1 (s.new (.cells .mut [xv]))=some (.sref (s.n+1) 0 1 1,(s.new (.cells .mut [xv])).new (.cells .mut [xv])):=by
      simp only [appendLV]
      rw [if_neg (by omega),if_pos ⟨by simpa using hbig,by simp⟩]
      rfl
    obtain ⟨k1,k2⟩:=h ((s.new (.cells .mut [xv])).new (.cells .mut [xv])) (s.n+1) (by omega) ⟨hlen', .inr ⟨s.n+1,rfl,by omega,by simp,by rw [St.get_new,St.n_new,if_pos rfl];rfl⟩⟩ (by simp;omega) fun id hid _=>by
      rw [St.get_new,St.n_new,if_neg (by omega),St.get_new,if_neg (by omega)]
    exact q_gen (v:=.sref (s.n+1) 0 1 1) (s':=(s.new (.cells .mut [xv])).new (.cells .mut [xv])) rfl (key _ _ 0 rfl hap) (by cases fl'<;>rfl) k1 k2
  · have hg:(s.new (.cells .mut [xv])).get j=some (.cells .mut cells):=by rw [St.get_new,if_neg (by omega)];exact h3
    have hap:appendLV 1 bytes (.sref j 0 n 1) [xv] 1 (s.new (.cells .mut [xv]))=some (.sref (s.n+1) 0 (n+1) 1,((s.new (.cells .mut [xv])).put j (.cells .ro [])).new (.cells .mut (cells++[xv]))):=by
      simp only [appendLV,if_true,hg,Nat.zero_add,hcl0,Nat.le_refl,hbig,List.length_singleton,Nat.one_mul,Nat.mul_one,and_self,List.drop_zero]
      rw [List.take_of_length_le (by omega)]
      rfl
    obtain ⟨k1,k2⟩:=h (((s.new (.cells .mut [xv])).put j (.cells .ro [])).new (.cells .mut (cells++[xv]))) (s.n+1) (by omega) ⟨hlen', .inr ⟨s.n+1,rfl,by omega,by simp,by rw [St.get_new,St.n_put,St.n_new,if_pos rfl]⟩⟩ (by simp;omega) fun id hid hu=>by
      have hne:id≠j:=fun e=>hu (uses_sref.2 e)
      rw [St.get_new,St.n_put,St.n_new,if_neg (by omega),St.get_put,if_neg hne,St.get_new,if_neg (by omega)]
    exact q_gen (v:=.sref (s.n+1) 0 (n+1) 1) (s':=((s.new (.cells .mut [xv])).put j (.cells .ro [])).new (.cells .mut (cells++[xv]))) rfl (key _ _ n rfl hap) (by cases fl'<;>rfl) k1 k2
end Go.Proofs.YtmblpcidfjemhaaDoor
end
