/- search.parts: states that can reach each other, and no others, have the same number. -/
import Derived.Test.YtmblpcidfjemhaaDoorSvis
set_option linter.unusedSimpArgs false
set_option linter.unusedVariables false
section
set_option linter.unusedSimpArgs false
set_option linter.unusedVariables false
namespace Go.Proofs.YtmblpcidfjemhaaDoor
open Go Go.Pv Go.Aut Go.Tarjan
open Classical
set_option maxHeartbeats 8000000 in
theorem sparts_ok {v0:LV} {B:Bu} {sv nv:LV} (hB:IsB v0 B sv nv) (hok:Vb B) :
    PE 19 [v0] (fun r=>∃ p:Nat→Nat,r = .simm (fcells B.next.length p) B.next.length∧∀ u v,u<B.next.length→v<B.next.length→(p u=p v↔Rch (nxB B) u v∧Rch (nxB B) v u)):=by
  have hvc:=hB.closed
  have hvo:=fun vis (hvis)=>visit_ok (vis:=vis) hB hok hvis
  obtain ⟨rfl,hst',vs,hn⟩:=hB
  have hc1:=hst'.sl.cell
  have hc2:=hn.sl.cell
  have hnl:=hn.sl.len
  have hn3:=hok.2.2.1
  obtain ⟨n,hnn⟩:∃ n,B.next.length=n:=⟨_,rfl⟩
  rw [hnn] at hnl hn3 hvo ⊢
  refine q_fnEx (t:=2) hm Tryd.func19 (by decide +kernel) c19 (Nat.le_of_ble_eq_true rfl) (by simp [LV.closed.closedAll,hvc]) rfl ?_
  have e0:(envOf [LV.agg [.int .i64 B.L,sv,nv]]).at 0 = .agg [.int .i64 B.L,sv,nv]:=by rw [envOf_at];rfl
  generalize envOf [LV.agg [.int .i64 B.L,sv,nv]]=e at *
  unfold l19
  dsimp only [jA,jG,qF,qS,qI,qA,qB,qC,qO,qm,ql]
  have hb:n≤1048576:=by omega
  repeat' (first | refine gA @hnl ?_ | (refine gB @hnl ?_;intro bb hbb;cases bb<;>(try simp only [hbs,if_false,reduceCtorEq] at hbb)) | fail)
  generalize hvis:LV.fn (.func 37) [] [.pref 7 0, .pref 3 0, .pref 5 0, .pref 6 0, .pimm [.int .i64 B.L,sv,nv] 0, .pref 8 0, .pref 1 0]=vis at *
  have hvo:=hvo vis rfl
  refine qc_loop (fun m e s=>∃ (r:Nat) (T:S) (ent:List Nat) (kv:LV),m=n - r∧r≤n∧T.path=[]∧(∀ v,v<r→T.idx v≠0)∧Inv n (nxB B) T∧En n T ent∧VS n vis T s kv∧e.at 3 = .pref 1 0∧e.at 4 = .pref 3 0∧e.at 8 = .pref 8 0∧e.at 25 = .int .i64 (n:Int)∧e.at 26 = .int .i64 (r:Int)) _
    ⟨0,S.init,[], .nils,rfl,by omega,rfl,fun v hv=>absurd hv (Nat.not_lt_zero _),inv_init n (nxB B),⟨by simp,rfl,by simp [S.init],by simp⟩,⟨by simp [n_empty],by simp [n_empty,S.init],by simp [n_empty,S.init],by simp [n_empty,S.init],by simp [n_empty,S.init],by simp [n_empty,S.init],by simp [n_empty,S.init],by simp [n_empty,S.init],by simp [n_empty,S.init],by simp [n_empty,hvis], .inl ⟨rfl,rfl⟩,fun id h=>absurd h (uses_nils id)⟩,ef,ef,ef,ef,by simp only [lk,sv1,sv2,sv3,Nat.reduceEqDiff,Nat.reduceAdd,Nat.reduceLeDiff,reduceIte,if_false,if_true,mkVal,unLV,List.map,optTmps];rfl⟩ ?_
  clear e0
  rintro m e s ⟨r,T,ent,kv,rfl,hrn,hp,hall,hI,hE,hS,e3,e4,e8,e25,e26⟩
  have k1:=hS.g1
  have k2:=hS.g2
  have k3:=hS.g3
  have k8:=hS.g8
  by_cases hr:r<n
  · have hrI:(r:Int)<(n:Int):=by omega
    have hwr:IntKind.i64.wrap ((r:Int)+1)=((r+1:Nat):Int):=by rw [wrap_i64 _ (by omega) (by omega)];rfl
    have gi:(fcells n T.idx)[r]? = some (.int .i64 (T.idx r:Int)):=fcells_get hr
    repeat' (first | refine gA (And.intro @iaS @gi) ?_ | (refine gB (And.intro @iaS @gi) ?_;intro bb hbb;cases bb<;>(try simp only [hbs,if_false,reduceCtorEq] at hbb)) | fail)
    · exfalso;omega
    · refine ⟨n - (r+1),by omega,r+1,T,ent,kv,rfl,by omega,hp,fun v hv=>?_,hI,hE,hS,?_⟩
      · by_cases h:v<r
        · exact hall v h
        · obtain rfl:v=r:=by omega
          omega
      · simp only [lk,sv1,sv2,sv3,Nat.reduceEqDiff,Nat.reduceAdd,Nat.reduceLeDiff,reduceIte,if_false,if_true,mkVal,unLV,List.map,optTmps,hwr,e3,e4,e8,e25,and_self]
    · have hr0:T.idx r=0:=by omega
      refine q_call wN (fv:=vis) (vs:=[.int .i64 (r:Int)]) ef (by simp only [List.map,lk,sv1,sv2,sv3,Nat.reduceEqDiff,Nat.reduceAdd,Nat.reduceLeDiff,reduceIte,if_false,if_true,mkVal,unLV,List.map,optTmps]) (CallOk.mono (hvo _ T ent s kv r rfl hI hE hS hr hr0 (.inl hp)) fun v s2 hh=>⟨trivial,?_⟩)
      obtain ⟨T2,ent2,kv2,hI2,hE2,hS2,hr2,⟨p1,p2,p3,p4⟩,hF⟩:=hh
      simp only [Env.put_some]
      repeat' (first | refine gA trivial ?_ | (refine gB trivial ?_;intro bb hbb;cases bb<;>(try simp only [hbs,if_false,reduceCtorEq] at hbb)) | fail)
      refine ⟨n - (r+1),by omega,r+1,T2,ent2,kv2,rfl,by omega,p1.trans hp,fun v hv=>?_,hI2,hE2,hS2,?_⟩
      · by_cases h:v<r
        · exact p3 v (hall v h)
        · obtain rfl:v=r:=by omega
          exact hr2
      · simp only [lk,sv1,sv2,sv3,Nat.reduceEqDiff,Nat.reduceAdd,Nat.reduceLeDiff,reduceIte,if_false,if_true,mkVal,unLV,List.map,optTmps,hwr,e3,e4,e8,e25,and_self]
  · have hrn':r=n:=by omega
    have k0:=hS.g0
    have hfin:=hI.final hp fun v hv=>hall v (by omega)
    repeat' (first | refine gA trivial ?_ | (refine gB trivial ?_;intro bb hbb;cases bb<;>(try simp only [hbs,if_false,reduceCtorEq] at hbb)) | fail)
    rotate_left
    · exfalso;omega
    refine ⟨.inr trivial, .simm (fcells n T.part) n,s.put 0 (.cells .app (fcells n T.part)),?_,?_,T.part,rfl,fun u v hu hv=>(hfin u v (by omega) (by omega)).2⟩
    · simp only [lk,sv1,sv2,sv3,Nat.reduceEqDiff,Nat.reduceAdd,Nat.reduceLeDiff,reduceIte,if_false,if_true,mkVal,unLV,List.map,optTmps]
      exact frz_sref k0 (by simp) (by rw [fcells_ints];exact ints_closed _)
    · show LV.closed.closedAll (fcells n T.part)=true
      rw [fcells_ints];exact ints_closed _
end Go.Proofs.YtmblpcidfjemhaaDoor
end
section
set_option linter.unusedSimpArgs false
set_option linter.unusedVariables false
namespace Go.Proofs.YtmblpcidfjemhaaDoor
open Go Go.Pv Go.Aut Go.Tarjan
open Classical
def SHit (B:Bu) (q:Nat) (m:Int × Bool):Prop:=m.2=true∧Rch (nxB B) m.1.toNat q∧Rch (nxB B) q m.1.toNat
def stN (B:Bu):List Nat:=B.start.map Int.toNat
def rowAt (B:Bu) (q a:Nat):Moves:=(B.next.getD q []).getD a []
def NoHit (B:Bu) (k a c:Nat):Prop:=∀ k' a' c' (x:Fnd.En) m,(k'<k∨k'=k∧(a'<a∨a'=a∧c'<c))→(sall B (stN B))[k']? = some x→(rowAt B x.1 a')[c']? = some m→¬ SHit B x.1 m
def FindR (B:Bu) (S L:List Nat) (ok:Bool):Prop:=
  (ok=true∧∃ (k a c:Nat) (x:Fnd.En) (m:Int × Bool) (l:List Nat),(sall B (stN B))[k]? = some x∧(rowAt B x.1 a)[c]? = some m∧SHit B x.1 m∧NoHit B k a c∧Fnd.Wy (sall B (stN B)) k S∧(∃ t y,(sall B [m.1.toNat])[t]? = some y∧y.1=x.1∧Fnd.Wy (sall B [m.1.toNat]) t l)∧L=a::l) ∨
  (ok=false∧S=[]∧L=[]∧NoHit B (sall B (stN B)).length 0 0)
theorem stN_lt {B:Bu} (hok:Vb B):∀ p∈stN B,p<B.next.length:=fun p hp=>by
  obtain ⟨z,hz,rfl⟩:=List.mem_map.1 hp
  exact (start_nat hok hz).2
theorem zints_stN {B:Bu} (hok:Vb B):zints (stN B)=B.start:=by
  unfold zints stN
  rw [List.map_map]
  conv=>rhs;rw [← List.map_id B.start]
  exact List.map_congr_left fun z hz=>(start_nat hok hz).1
theorem NoHit.next_move {B:Bu} {k a c:Nat} (h:NoHit B k a c) {x:Fnd.En} {m:Int × Bool} (hx:(sall B (stN B))[k]? = some x) (hm:(rowAt B x.1 a)[c]? = some m) (hn:¬ SHit B x.1 m):NoHit B k a (c+1):=by
  intro k' a' c' x' m' hlt hx' hm'
  by_cases he:k'=k∧a'=a∧c'=c
  · obtain ⟨rfl,rfl,rfl⟩:=he
    rw [hx] at hx';cases hx'
    rw [hm] at hm';cases hm'
    exact hn
  · exact h k' a' c' x' m' (by omega) hx' hm'
theorem NoHit.next_letter {B:Bu} {k a c:Nat} (h:NoHit B k a c) {x:Fnd.En} (hx:(sall B (stN B))[k]? = some x) (hc:c=(rowAt B x.1 a).length):NoHit B k (a+1) 0:=by
  intro k' a' c' x' m' hlt hx' hm'
  by_cases he:k'=k∧a'=a
  · obtain ⟨rfl,rfl⟩:=he
    rw [hx] at hx';cases hx'
    have:=(List.getElem?_eq_some_iff.1 hm').1
    exact h k' a' c' x m' (by omega) hx hm'
  · exact h k' a' c' x' m' (by omega) hx' hm'
theorem NoHit.next_state {B:Bu} {k a:Nat} (h:NoHit B k a 0) {x:Fnd.En} (hx:(sall B (stN B))[k]? = some x) (ha:a=(B.next.getD x.1 []).length):NoHit B (k+1) 0 0:=by
  intro k' a' c' x' m' hlt hx' hm'
  by_cases he:k'=k
  · subst he
    rw [hx] at hx';cases hx'
    have ha':a'<a:=by
      apply Classical.byContradiction
      intro hn
      have:rowAt B x.1 a'=[]:=by unfold rowAt;rw [List.getD_eq_getElem?_getD,List.getElem?_eq_none (by omega)];rfl
      rw [this] at hm';cases hm'
    exact h k' a' c' x m' (by omega) hx hm'
  · exact h k' a' c' x' m' (by omega) hx' hm'
theorem rowH_closed {s:St} {v:LV} {l:List Nat} (h:RowH s v l) (hc:v.closed=true):v = .nils∧l=[]:=by
  rcases h with h | ⟨j,m,rfl,_⟩
  · exact h
  · cases hc
theorem frz_found {s:St} {a b:LV} {S L:List Nat} {ok:Bool} (h1:RowH s a S) (h2:RowH s b L) (hd:∀ id,uses a id→¬ uses b id) (hS:S.length≤1000000∧∀ x∈S,x≤1000000) (hL:L.length≤1000000∧∀ x∈L,x≤1000000) :
    ∃ a' b' s',frz frzDepth (.tup [.agg [a,b], .bool ok]) s=some (.tup [.agg [a',b'], .bool ok],s')∧IsInts a' (zints S)∧IsInts b' (zints L):=by
  by_cases hc:(LV.agg [a,b]).closed=true
  · have hc':a.closed=true∧b.closed=true:=by simpa [LV.closed,LV.closed.closedAll] using hc
    obtain ⟨rfl,rfl⟩:=rowH_closed h1 hc'.1
    obtain ⟨rfl,rfl⟩:=rowH_closed h2 hc'.2
    exact ⟨.nils, .nils,s,rfl,zints_is (by simp) (by simp) _ .nil,zints_is (by simp) (by simp) _ .nil⟩
  · have hc0:(LV.agg [a,b]).closed=false:=by simpa using hc
    have ht0:(LV.tup [.agg [a,b], .bool ok]).closed=false:=by
      show (((LV.agg [a,b]).closed) && _)=false
      rw [hc0];rfl
    obtain ⟨vs,s',h3,h4,h5,-,-⟩:=frz_rowsH 36 [a,b] [S,L] s rfl (fun i hi=>by
      match i,hi with
      | 0,_=>exact ⟨h1,hS⟩
      | 1,_=>exact ⟨h2,hL⟩) (fun i k hi hk hne id hu hu'=>by
      have h0:(i=0∧k=1)∨(i=1∧k=0):=by simp at hi hk;omega
      rcases h0 with ⟨rfl,rfl⟩ | ⟨rfl,rfl⟩
      · exact hd id hu hu'
      · exact hd id hu' hu)
    match vs,h4 with
    | [a',b'],_=>
      have hA:=frz_agg 38 hc0 h3
      have hb:frz 39 (.bool ok) s'=some (.bool ok,s'):=frz_closed rfl
      refine ⟨a',b',s',?_,h5 0 (by simp),h5 1 (by simp)⟩
      show frz (39+1) _ s=_
      unfold frz
      rw [ht0]
      simp only [Bool.false_eq_true,if_false,frz.frzAll,hA,hb,Option.bind_eq_bind,Option.bind_some]
theorem blkd_thn {i:Nat} {F:Env→St→Prop} {Q:Out→Env→St→Prop} {o:Out} {e:Env} {s:St} (ho:o = .normal∨o = .jmp (.exit i)) (h:F e s):Blkd i (Thn F Q) o e s:=by
  rcases ho with rfl | rfl<;>simp [Blkd,Thn,h]
theorem skc_rowH {s:St} {v:LV} {l:List Nat} (h:SkC s v 1 (nints l) l.length):RowH s v l:=by
  obtain ⟨_,⟨h1,h2⟩ | ⟨j,h1,_,_,h4⟩⟩:=h
  · exact .inl ⟨h1,List.length_eq_zero_iff.1 h2⟩
  · exact .inr ⟨j, .mut,h1,h4⟩
theorem findR_bd {B:Bu} (hok:Vb B) {S L:List Nat} {ok:Bool} (h:FindR B S L ok):(S=[]∨S.length<B.next.length)∧(∀ x∈S,x<B.L.toNat)∧L.length≤B.next.length∧(∀ x∈L,x<B.L.toNat)∧(ok=true↔0<L.length):=by
  rcases h with ⟨rfl,k,a,c,x,m,l,h1,h2,h3,h4,h5,⟨t,y,h6,h7,h8⟩,rfl⟩ | ⟨rfl,rfl,rfl,_⟩
  · have hsub:=stN_lt hok
    obtain ⟨hRok,hRcl,hRfr⟩:=sall_ok hok hsub
    have hxn:x.1<B.next.length:=hRok.rng x (List.mem_of_getElem? h1)
    have hmm:(m.1.toNat,m.2)∈bmv B x.1 a:=by
      simp only [bmv]
      exact List.mem_map_of_mem (List.mem_of_getElem? h2)
    have hmn:m.1.toNat<B.next.length:=bmv_lt hok _ _ hxn _ hmm
    obtain ⟨h9,_,_⟩:=sall_ok hok (from_:=[m.1.toNat]) (fun p hp=>by rw [List.mem_singleton.1 hp];exact hmn)
    have l1:=h5.len
    have l2:=h5.lt
    have l3:=hRok.len
    have l4:=h8.len
    have l5:=h8.lt
    have l6:=h9.len
    refine ⟨.inr (by omega),(h5.walk hRok h1).1,by simp;omega,fun z hz=>?_,by simp⟩
    rcases List.mem_cons.1 hz with rfl | hz
    · exact blet hok _ _ _ hmm
    · exact (h8.walk h9 h6).1 z hz
  · exact ⟨.inl rfl,by simp,by simp,by simp,by simp⟩
set_option maxHeartbeats 16000000 in
theorem sfind_ok {v:LV} {B:Bu} {sv nv:LV} (hB:IsB v B sv nv) :
    PE 6 [v] (fun r=>∃ st lo S L ok,r = .tup [.agg [st,lo], .bool ok]∧IsInts st (zints S)∧IsInts lo (zints L)∧((¬ Vb B∧S=[]∧L=[]∧ok=false)∨(Vb B∧FindR B S L ok))):=by
  have hvc:=hB.closed
  have hB0:=hB
  have hbv:=bvalid_ok hB
  have hpo:=sparts_ok hB
  have hsr:=fun {fv:LV} => ssearch_ok (fv:=fv) hB
  obtain ⟨rfl,hst',vs,hn⟩:=hB
  have hc1:=hst'.sl.cell
  have hc2:=hn.sl.cell
  have hnl:=hn.sl.len
  refine q_fnExR Tryd.func6 (by decide +kernel) c6 (Nat.le_of_ble_eq_true rfl) (by simp [LV.closed.closedAll,hvc]) ?_
  have e0:(envOf [LV.agg [.int .i64 B.L,sv,nv]]).at 0 = .agg [.int .i64 B.L,sv,nv]:=by rw [envOf_at];rfl
  generalize envOf [LV.agg [.int .i64 B.L,sv,nv]]=e at *
  unfold l6
  dsimp only [jA,jB,jE,jG,qM,qL,qN,qF,qS,qI,qA,qB,qC,qK,qO,qG,qm,ql]
  repeat' (first | refine gA @hnl ?_ | (refine gB @hnl ?_;intro bb hbb;cases bb<;>(try simp only [hbs,if_false,reduceCtorEq] at hbb)) | fail)
  refine q_pureB hG0 (hbv) (by first | exact wN | (apply wG;(simp only [lk,Nat.reduceEqDiff,reduceIte,e0];(try rfl);done))) (by simp only [List.map,lk,Nat.reduceEqDiff,reduceIte,e0];try rfl) (fun bb hbb=>⟨by first | trivial | (simp only [Chks,wantedG,LOp.run,Env.put_some,Env.put_none,lk,sv1,sv2,sv3,Nat.reduceEqDiff,Nat.reduceAdd,Nat.reduceLeDiff,reduceIte,if_false,if_true,mkVal,unLV,List.map,optTmps,beq_self_eq_true,reduceCtorEq,false_or,true_and,and_true,Option.some.injEq, *];done),?_⟩)
  simp only [Env.put_some]
  cases bb<;>simp only [decide_eq_true_eq,decide_eq_false_iff_not] at hbb
  · repeat' (first | refine gA trivial ?_ | (refine gB trivial ?_;intro bb hbb;cases bb<;>(try simp only [hbs,if_false,reduceCtorEq] at hbb)) | fail)
    refine q_gen (v:=.agg [.nils, .nils]) wN (by simp only [LOp.run,lk,sv1,sv2,sv3,Nat.reduceEqDiff,Nat.reduceAdd,Nat.reduceLeDiff,reduceIte,if_false,if_true,mkVal,unLV,List.map,optTmps,evParts,fillParts];rfl) rfl trivial ?_
    simp only [Env.put_some]
    repeat' (first | refine gA trivial ?_ | (refine gB trivial ?_;intro bb hbb;cases bb<;>(try simp only [hbs,if_false,reduceCtorEq] at hbb)) | fail)
    refine ⟨.inr trivial, .tup [.agg [.nils, .nils], .bool false],by simp [resVal,resOne,mkVal,n_empty], .tup [.agg [.nils, .nils], .bool false],_,frz_closed rfl,rfl, .nils, .nils,[],[],false,rfl,zints_is (by simp) (by simp) _ .nil,zints_is (by simp) (by simp) _ .nil, .inl ⟨hbb,rfl,rfl,rfl⟩⟩
  have hok:=hbb
  have hn3:=hok.2.2.1
  repeat' (first | refine gA trivial ?_ | (refine gB trivial ?_;intro bb hbb;cases bb<;>(try simp only [hbs,if_false,reduceCtorEq] at hbb)) | fail)
  refine q_pureEx hG0 (hpo hok) wN (by simp only [List.map,lk,sv1,sv2,sv3,Nat.reduceEqDiff,Nat.reduceAdd,Nat.reduceLeDiff,reduceIte,if_false,if_true,mkVal,unLV,List.map,optTmps]) (fun r hr hrc=>⟨trivial,?_⟩)
  obtain ⟨p,rfl,hp⟩:=hr
  simp only [Env.put_some]
  repeat' (first | refine gA trivial ?_ | (refine gB trivial ?_;intro bb hbb;cases bb<;>(try simp only [hbs,if_false,reduceCtorEq] at hbb)) | fail)
  refine q_pure hG0 (hsr hst'.closed hst'.sl.cell) wN (by simp only [List.map,lk,sv1,sv2,sv3,Nat.reduceEqDiff,Nat.reduceAdd,Nat.reduceLeDiff,reduceIte,if_false,if_true,mkVal,unLV,List.map,optTmps]) trivial ?_
  simp only [Env.put_some]
  repeat' (first | refine gA trivial ?_ | (refine gB trivial ?_;intro bb hbb;cases bb<;>(try simp only [hbs,if_false,reduceCtorEq] at hbb)) | fail)
  refine qc_gen (fun e s1=>e.at 1 = .pimm [.int .i64 B.L,sv,nv] 0∧e.at 2 = .pref 0 0∧e.at 4 = .pref 1 0∧e.at 5 = .pref 2 0∧e.at 6 = .pref 3 0∧e.at 22 = .fn (.func 38) [] [.pimm [.int .i64 B.L,sv,nv] 0, .pimm [sv] 0]∧s1.n=4∧s1.get 0=some (.cells .mut [.nils, .nils])∧s1.get 1=some (.cells .mut [.simm (fcells B.next.length p) B.next.length])∧s1.get 2=some (.cells .mut [.fn (.func 20) [] [.pimm [.int .i64 B.L,sv,nv] 0]])∧s1.get 3=some (.cells .mut [.nils, .nils])) ?_ ?_
  · refine ⟨ef,ef,ef,ef,ef,ef,by simp [n_empty],by simp [n_empty],by simp [n_empty],by simp [n_empty],by simp [n_empty]⟩
  clear e0
  clear e
  rintro e sA ⟨e1,e2,e4,e5,e6,e22,hAn,gA0,gA1,gA2,gA3⟩
  have hpc:∀ x,cells? (.agg (ecell x))=some (ecell x):=fun _=>rfl
  have hfs:IsInts sv (zints (stN B)):=by rw [zints_stN hok];exact hst'
  obtain ⟨hRok,hRcl,hRfr⟩:=sall_ok hok (stN_lt hok)
  refine qc_mono (fun o e' s1=>(o = .normal∨o = .jmp (.exit 0))∧e'=e∧∃ a b S L,s1.get 0=some (.cells .mut [.nils, .nils])∧s1.get 3=some (.cells .mut [a,b])∧SkC s1 a 1 (nints S) S.length∧SkC s1 b 1 (nints L) L.length∧(∀ id,uses a id→5≤id)∧(∀ id,uses b id→5≤id)∧(∀ id,uses a id→¬ uses b id)∧FindR B S L (decide (0<L.length))) ?_ ?_
  rotate_left
  · rintro o e' s1 ⟨ho,rfl,a,b,S,L,h0,h3,hS,hL,hu1,hu2,hd,hR⟩
    refine blkd_thn ho ?_
    clear hsr hpo hbv
    have hb1:=findR_bd hok hR
    have hbl:=hL.len
    have hca:=hS.cell
    have hcb:=hL.cell
    have hL64:=hok.2.1
    repeat' (first | refine gA @hbl ?_ | (refine gB @hbl ?_;intro bb hbb;cases bb<;>(try simp only [hbs,if_false,reduceCtorEq] at hbb)) | fail)
    all_goals
      refine q_gen (v:=zeroVal) (s':=s1.put 0 (.cells .mut [a,b])) rfl ?_ rfl ?_ ?_
      · have hq:cells? a=some [a]:=cells_cell hca
        have hr:cells? b=some [b]:=cells_cell hcb
        simp only [LOp.run,lk,sv1,sv2,sv3,Nat.reduceEqDiff,Nat.reduceAdd,Nat.reduceLeDiff,reduceIte,if_false,if_true,mkVal,unLV,List.map,optTmps,e2]
        simp [cells_agg,hca,hcb,h0,splice]
      · simp only [Chks,wantedG,LOp.run,lk,sv1,sv2,sv3,Nat.reduceEqDiff,Nat.reduceAdd,Nat.reduceLeDiff,reduceIte,if_false,if_true,mkVal,unLV,List.map,optTmps,Env.put_none]
        simp [h3]
      simp only [Env.put_none]
      repeat' (first | refine gA trivial ?_ | (refine gB trivial ?_;intro bb hbb;cases bb<;>(try simp only [hbs,if_false,reduceCtorEq] at hbb)) | fail)
      have ho:∀ id,id≠0→(s1.put 0 (.cells .mut [a,b])).get id=s1.get id:=fun id h=>by rw [St.get_put,if_neg h]
      have r1:RowH (s1.put 0 (.cells .mut [a,b])) a S:=skc_rowH (hS.mono (Nat.le_refl _) fun id hu=>ho id (by have:=hu1 id hu;omega))
      have r2:RowH (s1.put 0 (.cells .mut [a,b])) b L:=skc_rowH (hL.mono (Nat.le_refl _) fun id hu=>ho id (by have:=hu2 id hu;omega))
      obtain ⟨q1,q2,q3,q4,q5⟩:=hb1
      obtain ⟨a',b',s2,hz,ha',hb'⟩:=frz_found (ok:=decide (0<L.length)) r1 r2 hd ⟨by rcases q1 with h | q1;(rw [h];simp);omega,fun z hz=>by have:=q2 z hz;omega⟩ ⟨by omega,fun z hz=>by have:=q4 z hz;omega⟩
      refine ⟨.inr trivial, .tup [.agg [a,b], .bool (decide (0<L.length))],?_,_,_,hz,by simp [LV.closed,LV.closed.closedAll,ha'.closed,hb'.closed],a',b',S,L,_,rfl,ha',hb', .inr ⟨hok,hR⟩⟩
      first
        | (rw [decide_eq_false (by omega)];simp [resVal,resOne,mkVal,e2])
        | (rw [decide_eq_true (by omega)];simp [resVal,resOne,mkVal,e2])
  refine srange_ok hB0 hok hfs (stN_lt hok) rfl ef (fun k s1=>s1.get 0=some (.cells .mut [.nils, .nils])∧s1.get 1=some (.cells .mut [.simm (fcells B.next.length p) B.next.length])∧s1.get 2=some (.cells .mut [.fn (.func 20) [] [.pimm [.int .i64 B.L,sv,nv] 0]])∧s1.get 3=some (.cells .mut [.nils, .nils])∧NoHit B k 0 0)
    (fun j s1=>j = .exit 0∧∃ a b S L,s1.get 0=some (.cells .mut [.nils, .nils])∧s1.get 3=some (.cells .mut [a,b])∧SkC s1 a 1 (nints S) S.length∧SkC s1 b 1 (nints L) L.length∧(∀ id,uses a id→5≤id)∧(∀ id,uses b id→5≤id)∧(∀ id,uses a id→¬ uses b id)∧FindR B S L true) ⟨gA0,gA1,gA2,gA3,fun k' a' c' x m h=>by omega⟩ ?_ ?_ ?_ ?_ ?_
  · rintro k s1 s2 ⟨h0,h1,h2,h3,h4⟩ h5 h6 h7
    rw [hAn] at h7
    exact ⟨by rw [h7 _ (by omega)];exact h0,by rw [h7 _ (by omega)];exact h1,by rw [h7 _ (by omega)];exact h2,by rw [h7 _ (by omega)];exact h3,h4⟩
  · rintro j s1 s2 ⟨hj,a,b,S,L,h0,h3,hS,hL,hu1,hu2,hd,hR⟩ h5 h7
    rw [hAn] at h7
    exact ⟨hj,a,b,S,L,by rw [h7 _ (by omega)];exact h0,by rw [h7 _ (by omega)];exact h3,hS.mono (by omega) fun id hu=>h7 id (by have:=hu1 id hu;omega),hL.mono (by omega) fun id hu=>h7 id (by have:=hu2 id hu;omega),hu1,hu2,hd,hR⟩
  · rintro k x s1 b1 b2 hx ⟨h0,h1,h2,h3,hno⟩ hn1 hrec nt'
    rw [hAn] at hn1 hrec ⊢
    have hxn:x.1<B.next.length:=hRok.rng x (List.mem_of_getElem? hx)
    have f23:Env.at (Tr.set e 23 (LV.agg (ecell x))) 23=LV.agg (ecell x):=by simp only [lk,sv1,sv2,sv3,Nat.reduceEqDiff,Nat.reduceAdd,Nat.reduceLeDiff,reduceIte,if_false,if_true,mkVal,unLV,List.map,optTmps]
    have f1:Env.at (Tr.set e 23 (LV.agg (ecell x))) 1=LV.pimm [.int .i64 B.L,sv,nv] 0:=by simp only [lk,sv1,sv2,sv3,Nat.reduceEqDiff,Nat.reduceAdd,Nat.reduceLeDiff,reduceIte,if_false,if_true,mkVal,unLV,List.map,optTmps,e1]
    have f4:Env.at (Tr.set e 23 (LV.agg (ecell x))) 4=LV.pref 1 0:=by simp only [lk,sv1,sv2,sv3,Nat.reduceEqDiff,Nat.reduceAdd,Nat.reduceLeDiff,reduceIte,if_false,if_true,mkVal,unLV,List.map,optTmps,e4]
    have f5:Env.at (Tr.set e 23 (LV.agg (ecell x))) 5=LV.pref 2 0:=by simp only [lk,sv1,sv2,sv3,Nat.reduceEqDiff,Nat.reduceAdd,Nat.reduceLeDiff,reduceIte,if_false,if_true,mkVal,unLV,List.map,optTmps,e5]
    have f6:Env.at (Tr.set e 23 (LV.agg (ecell x))) 6=LV.pref 3 0:=by simp only [lk,sv1,sv2,sv3,Nat.reduceEqDiff,Nat.reduceAdd,Nat.reduceLeDiff,reduceIte,if_false,if_true,mkVal,unLV,List.map,optTmps,e6]
    generalize Tr.set e 23 (LV.agg (ecell x))=e' at *
    have c0:=ecell_0 x
    repeat' (first | refine gA trivial ?_ | (refine gB trivial ?_;intro bb hbb;cases bb<;>(try simp only [hbs,if_false,reduceCtorEq] at hbb)) | fail)
    refine q_storeG (i:=s1.n) (o:=0) (n:=3) (cs:=[.int .i64 0, .int .i64 0, .int .i64 0]) (vs:=ecell x) (cs':=ecell x) (v:=.agg (ecell x)) ef ef rfl (by simp) rfl (by simp) rfl ?_
    repeat' (first | refine gA trivial ?_ | (refine gB trivial ?_;intro bb hbb;cases bb<;>(try simp only [hbs,if_false,reduceCtorEq] at hbb)) | fail)
    refine ⟨by rw [St.get_put,if_neg (by omega),St.get_new,if_neg (by omega)];exact hrec,?_⟩
    generalize hs2:(((s1.new (.cells .mut [.int .i64 0, .int .i64 0, .int .i64 0])).put s1.n (.cells .mut (ecell x))).put 4 b2)=s2
    have g7:s2.get s1.n=some (.cells .mut (ecell x)):=by
      rw [← hs2,St.get_put,if_neg (by omega),St.get_put,if_pos rfl]
    have gr:s2.get 4=some b2:=by rw [← hs2,St.get_put,if_pos rfl]
    have go:∀ id,id≠4→id<s1.n→s2.get id=s1.get id:=fun id h h'=>by
      rw [← hs2,St.get_put,if_neg h,St.get_put,if_neg (by omega),St.get_new,if_neg (by omega)]
    have gn:s2.n=s1.n+1:=by rw [← hs2];rfl
    clear hs2
    have k0:=(go 0 (by omega) (by omega)).trans h0
    have k1:=(go 1 (by omega) (by omega)).trans h1
    have k2:=(go 2 (by omega) (by omega)).trans h2
    have k3:=(go 3 (by omega) (by omega)).trans h3
    have f7:Env.at (Tr.set e' 7 (LV.pref s1.n 0)) 7=LV.pref s1.n 0:=by simp only [lk,sv1,sv2,sv3,Nat.reduceEqDiff,Nat.reduceAdd,Nat.reduceLeDiff,reduceIte,if_false,if_true,mkVal,unLV,List.map,optTmps]
    have f1':Env.at (Tr.set e' 7 (LV.pref s1.n 0)) 1=LV.pimm [.int .i64 B.L,sv,nv] 0:=by simp only [lk,sv1,sv2,sv3,Nat.reduceEqDiff,Nat.reduceAdd,Nat.reduceLeDiff,reduceIte,if_false,if_true,mkVal,unLV,List.map,optTmps,f1]
    have f4':Env.at (Tr.set e' 7 (LV.pref s1.n 0)) 4=LV.pref 1 0:=by simp only [lk,sv1,sv2,sv3,Nat.reduceEqDiff,Nat.reduceAdd,Nat.reduceLeDiff,reduceIte,if_false,if_true,mkVal,unLV,List.map,optTmps,f4]
    have f5':Env.at (Tr.set e' 7 (LV.pref s1.n 0)) 5=LV.pref 2 0:=by simp only [lk,sv1,sv2,sv3,Nat.reduceEqDiff,Nat.reduceAdd,Nat.reduceLeDiff,reduceIte,if_false,if_true,mkVal,unLV,List.map,optTmps,f5]
    have f6':Env.at (Tr.set e' 7 (LV.pref s1.n 0)) 6=LV.pref 3 0:=by simp only [lk,sv1,sv2,sv3,Nat.reduceEqDiff,Nat.reduceAdd,Nat.reduceLeDiff,reduceIte,if_false,if_true,mkVal,unLV,List.map,optTmps,f6]
    clear f1 f4 f5 f6 f23
    generalize Tr.set e' 7 (LV.pref s1.n 0)=em at *
    clear e'
    have g1:vs[x.1]? = some (vs.getD x.1 .top):=hn.get hxn
    obtain ⟨ws,hr⟩:=hn.row x.1 hxn
    have hmv0:=(hok.2.2.2.2 x.1 hxn).2
    have hL64:=hok.2.1
    have hr64:(B.next.getD x.1 []).length≤64:=by have:=row_lenB hok hxn;omega
    have hrl:=hr.sl.len
    have hNs:=fun a (h:NoHit B k a 0) (ha:a=(B.next.getD x.1 []).length)=>h.next_state hx ha
    have hNl:=fun a c (h:NoHit B k a c) (hc:c=(rowAt B x.1 a).length)=>h.next_letter hx hc
    have hNm:=fun a c (m:Int × Bool) (h:NoHit B k a c) (hm:(rowAt B x.1 a)[c]? = some m)=>h.next_move hx hm
    have hiax:∀ s,iaLV 1 nv (.int .i64 (x.1:Int)) s=some (.pimm vs x.1,s):=fun s=>by
      have:=iaN (esz:=1) (k:=.i64) (s:=s) (i:=x.1) hn.sl (by omega)
      simpa using this
    unfold rowAt at hNl hNm
    generalize hrow:B.next.getD x.1 []=row at *
    generalize hrv:vs.getD x.1 .top=rv at *
    repeat' (first | refine gA (And.intro @hiax (And.intro @g1 (And.intro @hrl @c0))) ?_ | (refine gB (And.intro @hiax (And.intro @g1 (And.intro @hrl @c0))) ?_;intro bb hbb;cases bb<;>(try simp only [hbs,if_false,reduceCtorEq] at hbb)) | fail)
    refine qc_loop (fun m e s3=>∃ a:Nat,m=row.length - a∧a≤row.length∧NoHit B k a 0∧s1.n+1≤s3.n∧(∀ id,id<s1.n+1→s3.get id=s2.get id)∧e.at 1 = .pimm [.int .i64 B.L,sv,nv] 0∧e.at 4 = .pref 1 0∧e.at 5 = .pref 2 0∧e.at 6 = .pref 3 0∧e.at 7 = .pref s1.n 0∧e.at 29=rv∧e.at 30 = .int .i64 (row.length:Int)∧e.at 31 = .int .i64 (a:Int)) _
      ⟨0,rfl,by omega,hno,by omega,fun _ _=>rfl,ef,ef,ef,ef,ef,ef,ef,by simp only [lk,sv1,sv2,sv3,Nat.reduceEqDiff,Nat.reduceAdd,Nat.reduceLeDiff,reduceIte,if_false,if_true,mkVal,unLV,List.map,optTmps];rfl⟩ ?_
    clear f1' f4' f5' f6' f7
    clear em
    rintro m e s3 ⟨a,rfl,ha,hno,hn3',hfr,f1,f4,f5,f6,f7,f29,f30,f31⟩
    by_cases hal:a<row.length
    · have haI:(a:Int)<(row.length:Int):=by omega
      have hwa:IntKind.i64.wrap ((a:Int)+1)=((a+1:Nat):Int):=by rw [wrap_i64 _ (by omega) (by omega)];rfl
      have g2:ws[a]? = some (ws.getD a .top):=hr.get hal
      have hm':=hr.row a hal
      have hmo:=hmv0 a hal
      have hNl':=hNl a
      have hNm':=hNm a
      generalize hms:row.getD a []=ms at *
      generalize hmv:ws.getD a .top=mv at *
      have hml:=hm'.sl.len
      have hmlen:=hm'.len
      have hmx:maxLen=9223372036854775807:=by decide
      have hiaa:∀ s,iaLV 1 rv (.int .i64 (a:Int)) s=some (.pimm ws a,s):=fun s=>by
        have:=iaN (esz:=1) (k:=.i64) (s:=s) (i:=a) hr.sl (by omega)
        simpa using this
      repeat' (first | refine gA (And.intro @hiaa (And.intro @g2 @hml)) ?_ | (refine gB (And.intro @hiaa (And.intro @g2 @hml)) ?_;intro bb hbb;cases bb<;>(try simp only [hbs,if_false,reduceCtorEq] at hbb)) | fail)
      · exfalso;omega
      refine qc_loop (fun m e s3=>∃ c:Nat,m=ms.length - c∧c≤ms.length∧NoHit B k a c∧s1.n+1≤s3.n∧(∀ id,id<s1.n+1→s3.get id=s2.get id)∧e.at 1 = .pimm [.int .i64 B.L,sv,nv] 0∧e.at 4 = .pref 1 0∧e.at 5 = .pref 2 0∧e.at 6 = .pref 3 0∧e.at 7 = .pref s1.n 0∧e.at 29=rv∧e.at 30 = .int .i64 (row.length:Int)∧e.at 31 = .int .i64 (a:Int)∧e.at 8 = .int .i64 (a:Int)∧e.at 36=mv∧e.at 37 = .int .i64 (ms.length:Int)∧e.at 38 = .int .i64 (c:Int)) _
        ⟨0,rfl,by omega,hno,hn3',hfr,ef,ef,ef,ef,ef,ef,ef,ef,ef,ef,ef,by simp only [lk,sv1,sv2,sv3,Nat.reduceEqDiff,Nat.reduceAdd,Nat.reduceLeDiff,reduceIte,if_false,if_true,mkVal,unLV,List.map,optTmps];rfl⟩ ?_
      clear hno hn3' hfr f1 f4 f5 f6 f7 f29 f30 f31 hbb
      clear s3 e
      rintro m e s3 ⟨c,rfl,hc,hno,hn3',hfr,f1,f4,f5,f6,f7,f29,f30,f31,f8,f36,f37,f38⟩
      by_cases hcl:c<ms.length
      · have hcI:(c:Int)<(ms.length:Int):=by omega
        have hwc:IntKind.i64.wrap ((c:Int)+1)=((c+1:Nat):Int):=by rw [wrap_i64 _ (by omega) (by omega)];rfl
        have hld:=fun s=>loadN_moves (s:=s) hcl
        have hmr:=hmo c hcl
        have hmg:ms[c]? = some (ms.getD c (0,false)):=by rw [List.getD_eq_getElem?_getD,List.getElem?_eq_getElem hcl];rfl
        generalize hmd:ms.getD c (0,false)=md at *
        obtain ⟨u,hu⟩:∃ u:Nat,md.1=(u:Int):=⟨md.1.toNat,by omega⟩
        have hu2:md.1.toNat=u:=by omega
        rw [hu] at hld
        have hun:u<B.next.length:=by omega
        have huI:(u:Int)<(B.next.length:Int):=by omega
        have j1:=(hfr 1 (by omega)).trans k1
        have j7:=(hfr s1.n (by omega)).trans g7
        have gpu:(fcells B.next.length p)[u]? = some (.int .i64 (p u:Int)):=fcells_get hun
        have gpx:(fcells B.next.length p)[x.1]? = some (.int .i64 (p x.1:Int)):=fcells_get hxn
        have hiau:∀ s,iaLV 1 (.simm (fcells B.next.length p) B.next.length) (.int .i64 (u:Int)) s=some (.pimm (fcells B.next.length p) u,s):=fun s=>by
          have:=iaN (esz:=1) (k:=.i64) (s:=s) (i:=u) (Sl.simm (fcells B.next.length p) B.next.length) huI
          simpa using this
        have hiax2:∀ s,iaLV 1 (.simm (fcells B.next.length p) B.next.length) (.int .i64 (x.1:Int)) s=some (.pimm (fcells B.next.length p) x.1,s):=fun s=>by
          have:=iaN (esz:=1) (k:=.i64) (s:=s) (i:=x.1) (Sl.simm (fcells B.next.length p) B.next.length) (by omega)
          simpa using this
        have hhit:SHit B x.1 md↔md.2=true∧p u=p x.1:=by
          unfold SHit
          rw [hu2,hp u x.1 hun hxn]
        have hgo:¬ SHit B x.1 md→NoHit B k a (c+1):=fun h=>hNm' c md hno hmg h
        have hfr2:∀ id,id<s1.n+1→((s3.new (.cells .mut [.int .i64 0, .bool false])).put s3.n (.cells .mut [.int .i64 (u:Int), .bool md.2])).get id=s2.get id:=fun id hid=>by
          rw [St.get_put,if_neg (by omega),St.get_new,if_neg (by omega)];exact hfr id hid
        cases hg:md.2 with
        | false=>
          rw [hg] at hld hfr2
          repeat' (first | refine gA (And.intro (@iaN _ _ _ hm'.sl) @hld) ?_ | (refine gB (And.intro (@iaN _ _ _ hm'.sl) @hld) ?_;intro bb hbb;cases bb<;>(try simp only [hbs,if_false,reduceCtorEq] at hbb)) | fail)
          · exfalso;omega
          · refine ⟨ms.length - (c+1),by omega,c+1,rfl,by omega,(hgo fun h=>by have:=(hhit.1 h).1;rw [hg] at this;cases this),by have:s3.n+1=((s3.new (.cells .mut [.int .i64 0, .bool false])).put s3.n (.cells .mut [.int .i64 (u:Int), .bool false])).n:=rfl;omega,hfr2,?_⟩
            simp only [lk,sv1,sv2,sv3,Nat.reduceEqDiff,Nat.reduceAdd,Nat.reduceLeDiff,reduceIte,if_false,if_true,mkVal,unLV,List.map,optTmps,hwc,f1,f4,f5,f6,f7,f29,f30,f31,f8,f36,f37,and_self]
        | true=>
          rw [hg] at hld hfr2
          have z1:¬ (1=s3.n):=by omega
          have z7:¬ (s1.n=s3.n):=by omega
          repeat' (first | refine gA (And.intro (@iaN _ _ _ hm'.sl) (And.intro @hld (And.intro @hiau (And.intro @hiax2 (And.intro @gpu (And.intro @gpx @c0)))))) ?_ | (refine gB (And.intro (@iaN _ _ _ hm'.sl) (And.intro @hld (And.intro @hiau (And.intro @hiax2 (And.intro @gpu (And.intro @gpx @c0)))))) ?_;intro bb hbb;cases bb<;>(try simp only [hbs,if_false,reduceCtorEq] at hbb)) | fail)
          · exfalso;omega
          · refine ⟨ms.length - (c+1),by omega,c+1,rfl,by omega,(hgo fun h=>by have:=(hhit.1 h).2;omega),by have:s3.n+1=((s3.new (.cells .mut [.int .i64 0, .bool false])).put s3.n (.cells .mut [.int .i64 (u:Int), .bool true])).n:=rfl;omega,hfr2,?_⟩
            simp only [lk,sv1,sv2,sv3,Nat.reduceEqDiff,Nat.reduceAdd,Nat.reduceLeDiff,reduceIte,if_false,if_true,mkVal,unLV,List.map,optTmps,hwc,f1,f4,f5,f6,f7,f29,f30,f31,f8,f36,f37,and_self]
          have hH:SHit B x.1 md:=hhit.2 ⟨hg,by omega⟩
          obtain ⟨S,hWS⟩:=hRok.wy k (List.getElem?_eq_some_iff.1 hx).1
          generalize hs4:(s3.new (.cells .mut [.int .i64 0, .bool false])).put s3.n (.cells .mut [.int .i64 (u:Int), .bool true])=s4 at *
          have n4:s4.n=s3.n+1:=by rw [← hs4];rfl
          have g11:s4.get s3.n=some (.cells .mut [.int .i64 (u:Int), .bool true]):=by rw [← hs4,St.get_put,if_pos rfl]
          have q0:=(hfr2 0 (by omega)).trans k0
          have q2:=(hfr2 2 (by omega)).trans k2
          have q3:=(hfr2 3 (by omega)).trans k3
          have q4:=(hfr2 4 (by omega)).trans gr
          have q7:=(hfr2 s1.n (by omega)).trans g7
          have qo:∀ id,id≠4→id<s1.n→s4.get id=s1.get id:=fun id h h'=>(hfr2 id (by omega)).trans (go id h h')
          clear hs4 hfr2 hfr j1 j7 k0 k1 k2 k3 g7 gr go hgo hhit z1 z7
          repeat' (first | refine gA @c0 ?_ | (refine gB @c0 ?_;intro bb hbb;cases bb<;>(try simp only [hbs,if_false,reduceCtorEq] at hbb)) | fail)
          refine q_call wN (fv:=.fn (.func 20) [] [.pimm [.int .i64 B.L,sv,nv] 0]) (vs:=[sv, .int .i64 (x.1:Int)]) ef (by simp only [List.map,lk,sv1,sv2,sv3,Nat.reduceEqDiff,Nat.reduceAdd,Nat.reduceLeDiff,reduceIte,if_false,if_true,mkVal,unLV,List.map,optTmps]) (CallOk.mono (sway_ok hB0 hok hfs (stN_lt hok) hx rfl hWS) fun r s5 hh=>⟨trivial,?_⟩)
          obtain ⟨a1,a2,a3,a4⟩:=hh
          simp only [Env.put_some]
          have hcr:=a1.cell
          have q2':=(a4 2 (by omega)).trans q2
          have q3':=(a4 3 (by omega)).trans q3
          have q7':=(a4 s1.n (by omega)).trans q7
          have g11':=(a4 s3.n (by omega)).trans g11
          repeat' (first | refine gA @c0 ?_ | (refine gB @c0 ?_;intro bb hbb;cases bb<;>(try simp only [hbs,if_false,reduceCtorEq] at hbb)) | fail)
          generalize hs6:s5.put 3 (.cells .mut [r, .nils])=s6
          have n6:s6.n=s5.n:=by rw [← hs6];rfl
          have o6:∀ id,id≠3→s6.get id=s5.get id:=fun id h=>by rw [← hs6,St.get_put,if_neg h]
          have g3:s6.get 3=some (.cells .mut [r, .nils]):=by rw [← hs6,St.get_put,if_pos rfl]
          have q2'':=(o6 2 (by omega)).trans q2'
          have q7'':=(o6 s1.n (by omega)).trans q7'
          have g11'':=(o6 s3.n (by omega)).trans g11'
          clear hs6 q2' q3' q7' g11'
          refine q_gen (v:=.sref s6.n 0 1 1) (s':=s6.new (.cells .mut [.int .i64 (a:Int)])) wN (run_bslice1 ef rfl) rfl trivial ?_
          simp only [Env.put_some]
          generalize hs7:s6.new (.cells .mut [.int .i64 (a:Int)])=s7
          have n7:s7.n=s6.n+1:=by rw [← hs7];rfl
          have o7:∀ id,id<s6.n→s7.get id=s6.get id:=fun id h=>by rw [← hs7,St.get_new,if_neg (by omega)]
          have ga:s7.get s6.n=some (.cells .mut [.int .i64 (a:Int)]):=by rw [← hs7,St.get_new,if_pos rfl]
          have q2a:=(o7 2 (by omega)).trans q2''
          have q7a:=(o7 s1.n (by omega)).trans q7''
          have g11a:=(o7 s3.n (by omega)).trans g11''
          clear hs7
          repeat' (first | refine gA @c0 ?_ | (refine gB @c0 ?_;intro bb hbb;cases bb<;>(try simp only [hbs,if_false,reduceCtorEq] at hbb)) | fail)
          refine q_gen (v:=.sref s7.n 0 1 1) (s':=s7.new (.cells .mut [.int .i64 (u:Int)])) wN (run_bslice1 ef rfl) rfl trivial ?_
          simp only [Env.put_some]
          generalize hs8:s7.new (.cells .mut [.int .i64 (u:Int)])=s8
          have n8:s8.n=s7.n+1:=by rw [← hs8];rfl
          have o8:∀ id,id<s7.n→s8.get id=s7.get id:=fun id h=>by rw [← hs8,St.get_new,if_neg (by omega)]
          have gu:s8.get s7.n=some (.cells .mut [.int .i64 (u:Int)]):=by rw [← hs8,St.get_new,if_pos rfl]
          have q7b:=(o8 s1.n (by omega)).trans q7a
          clear hs8
          repeat' (first | refine gA @c0 ?_ | (refine gB @c0 ?_;intro bb hbb;cases bb<;>(try simp only [hbs,if_false,reduceCtorEq] at hbb)) | fail)
          have hz:=frz_sref (len:=1) gu rfl rfl
          have hfz:frz.frzAll (frz frzDepth) [.sref s7.n 0 1 1, .int .i64 (x.1:Int)] s8=some ([.simm [.int .i64 (u:Int)] 1, .int .i64 (x.1:Int)],s8.put s7.n (.cells .app [.int .i64 (u:Int)])):=by
            have:frz frzDepth (.int .i64 (x.1:Int)) (s8.put s7.n (.cells .app [.int .i64 (u:Int)]))=some (.int .i64 (x.1:Int),s8.put s7.n (.cells .app [.int .i64 (u:Int)])):=frzD_closed rfl
            simp [frz.frzAll,hz,this]
          have hfu:IsInts (.simm [.int .i64 (u:Int)] 1) (zints [u]):=zints_is (l:=[u]) (by simp) (fun z hz=>by rw [List.mem_singleton.1 hz];omega) _ (.simm _ _)
          have hul:∀ q∈[u],q<B.next.length:=fun q hq=>by rw [List.mem_singleton.1 hq];exact hun
          obtain ⟨hU1,hU2,hU3⟩:=sall_ok hok hul
          have hxm:x.1∈(sall B [u]).map (·.1):=by
            have h9:=hH.2.1
            rw [hu2] at h9
            refine h9.closed (K:=fun q=>q∈(sall B [u]).map (·.1)) (fun q hq b hb=>?_) (hU3 u (by simp))
            obtain ⟨z,hz,rfl⟩:=List.mem_map.1 hq
            obtain ⟨i,hi⟩:=List.mem_iff_getElem?.1 hz
            obtain ⟨y,hy,rfl⟩:=List.mem_map.1 hb
            exact hU2 i z (List.getElem?_eq_some_iff.1 hi).1 hi y hy
          obtain ⟨y,hym,hyx⟩:=List.mem_map.1 hxm
          obtain ⟨t,hty⟩:=List.mem_iff_getElem?.1 hym
          obtain ⟨l,hWl⟩:=hU1.wy t (List.getElem?_eq_some_iff.1 hty).1
          refine q_call wN (fv:=.fn (.func 20) [] [.pimm [.int .i64 B.L,sv,nv] 0]) (vs:=[.sref s7.n 0 1 1, .int .i64 (x.1:Int)]) ef (by simp only [List.map,lk,sv1,sv2,sv3,Nat.reduceEqDiff,Nat.reduceAdd,Nat.reduceLeDiff,reduceIte,if_false,if_true,mkVal,unLV,List.map,optTmps]) (call_frz hfz (CallOk.mono (sway_ok hB0 hok hfu hul hty hyx hWl) fun r2 s9 hh=>⟨trivial,?_⟩))
          obtain ⟨b1',b2',b3,b4⟩:=hh
          simp only [Env.put_some]
          have b3':s8.n≤s9.n:=b3
          have b4':∀ id,id<s7.n→s9.get id=s7.get id:=fun id hid=>by rw [b4 id (by rw [St.n_put];omega),St.get_put,if_neg (by omega),o8 id hid]
          have hA:SkC s9 (.sref s6.n 0 1 1) 1 (nints [a]) [a].length:=⟨rfl, .inr ⟨s6.n,rfl,by simp,by omega,(b4' _ (by omega)).trans ga⟩⟩
          have hl1:=hWl.len
          have hl2:=hWl.lt
          have hl3:=hU1.len
          refine q_appL (A:=[a]) (B:=l) ef ef hA b1' (by simp) (by simp;omega) (fun sE rE c1 c2 c3 c4=>?_)
          have c4':∀ id,id<s6.n→sE.get id=s6.get id:=fun id hid=>by
            rw [c4 id (by omega) fun hu=>by have:=uses_sref.1 hu;omega,b4' id (by omega),o7 id hid]
          have g3E:=(c4' 3 (by omega)).trans g3
          have hcE:=c1.cell
          repeat' (first | refine gA trivial ?_ | (refine gB trivial ?_;intro bb hbb;cases bb<;>(try simp only [hbs,if_false,reduceCtorEq] at hbb)) | fail)
          have hE:∀ id,id≠3→id<s4.n→(sE.put 3 (.cells .mut [r,rE])).get id=s4.get id:=fun id h h'=>by
            rw [St.get_put,if_neg h,c4' id (by omega),o6 id h,a4 id h']
          have hu3:∀ id,uses r id→s4.n≤id∧id<s6.n:=fun id hu=>⟨a2 id hu,by rw [n6];exact a1.lt hu⟩
          refine ⟨(hE 4 (by omega) (by omega)).trans q4,by rw [St.n_put];omega,fun i hi hi2=>(hE i (by omega) (by omega)).trans (qo i (by omega) hi2),trivial,r,rE,S,a::l,(hE 0 (by omega) (by omega)).trans q0,by rw [St.get_put,if_pos rfl],a1.mono (by rw [St.n_put];omega) fun id hu=>?_,c1.mono (by rw [St.n_put];exact Nat.le_refl _) fun id hu=>?_,fun id hu=>by have:=hu3 id hu;omega,fun id hu=>by have:=c2 id hu;omega,fun id hu hu'=>by have:=hu3 id hu;have:=c2 id hu';omega, .inl ⟨rfl,k,a,c,x,md,l,hx,?_,hH,hno,hWS,⟨t,y,by rw [hu2];exact hty,hyx,by rw [hu2];exact hWl⟩,rfl⟩⟩
          · have:=hu3 id hu
            rw [St.get_put,if_neg (by omega),c4' id (by omega),o6 id (by omega)]
          · have:=c2 id hu
            rw [St.get_put,if_neg (by omega)]
          · unfold rowAt
            rw [hrow,hms];exact hmg
      · have hce:c=ms.length:=by omega
        repeat' (first | refine gA trivial ?_ | (refine gB trivial ?_;intro bb hbb;cases bb<;>(try simp only [hbs,if_false,reduceCtorEq] at hbb)) | fail)
        · refine ⟨row.length - (a+1),by omega,a+1,rfl,by omega,hNl' c hno hce,hn3',hfr,?_⟩
          simp only [lk,sv1,sv2,sv3,Nat.reduceEqDiff,Nat.reduceAdd,Nat.reduceLeDiff,reduceIte,if_false,if_true,mkVal,unLV,List.map,optTmps,hwa,f1,f4,f5,f6,f7,f29,f30,and_self]
        · exfalso;omega
    · have hae:a=row.length:=by omega
      repeat' (first | refine gA trivial ?_ | (refine gB trivial ?_;intro bb hbb;cases bb<;>(try simp only [hbs,if_false,reduceCtorEq] at hbb)) | fail)
      · exact ⟨(hfr 4 (by omega)).trans gr,by omega,fun i hi hi2=>(hfr i (by omega)).trans (go i (by omega) hi2),(hfr 0 (by omega)).trans k0,(hfr 1 (by omega)).trans k1,(hfr 2 (by omega)).trans k2,(hfr 3 (by omega)).trans k3,hNs a hno hae⟩
      · exfalso;omega
  · rintro s1 ⟨h0,h1,h2,h3,h4⟩ hn1
    exact ⟨.inl rfl,rfl, .nils, .nils,[],[],h0,h3,SkC.nil _ _,SkC.nil _ _,fun id h=>absurd h (uses_nils id),fun id h=>absurd h (uses_nils id),fun id h=>absurd h (uses_nils id), .inr ⟨rfl,rfl,rfl,h4⟩⟩
  · rintro j s1 ⟨rfl,a,b,S,L,h0,h3,hS,hL,hu1,hu2,hd,hR⟩ hn1
    refine ⟨.inr rfl,rfl,a,b,S,L,h0,h3,hS,hL,hu1,hu2,hd,?_⟩
    have:=(findR_bd hok hR).2.2.2.2.1 rfl
    rw [decide_eq_true this]
    exact hR
end Go.Proofs.YtmblpcidfjemhaaDoor
end
