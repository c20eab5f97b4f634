/- accept.parts: places that can reach each other, and no others, have the same number. -/
import Derived.Test.YthcllhhldknkmaaGreatDoorBase
import Derived.Test.YthcllhhldknkmaaGreatDoorTarjan
set_option linter.unusedSimpArgs false
set_option linter.unusedVariables false
namespace Go.Proofs.YthcllhhldknkmaaGreatDoor
open Go Go.Pv Go.Tarjan
open Classical
def nxf (N:List (List Int)) (i:Nat):List Nat:=(N.getD i []).map Int.toNat
theorem nxf_len (N:List (List Int)) (i:Nat):(nxf N i).length=(N.getD i []).length:=by simp [nxf]
theorem nxf_get {N:List (List Int)} {i k:Nat} (hk:k<(N.getD i []).length):(nxf N i)[k]? = some ((N.getD i []).getD k 0).toNat:=by
 unfold nxf
 generalize N.getD i []=row at *
 simp [List.getD_eq_getElem?_getD,hk]
structure PS (n:Nat) (T:S) (s:St) (v7 v8:LV) (pl:List Nat):Prop where
 n4:4≤s.n
 g0:s.get 0=some (.cells .mut (fcells n T.part))
 g1:s.get 1=some (.cells .mut (fcells n T.idx))
 g2:s.get 2=some (.cells .mut (fcells n T.low))
 g3:s.get 3=some (.cells .mut (fcells n T.done))
 sk7:Sk s v7 T.stack
 sk8:Sk s v8 pl
 d7:∀ id,uses v7 id→4≤id
 d8:∀ id,uses v8 id→4≤id
 dj:∀ id,uses v7 id→¬ uses v8 id
theorem PS.app8 {n:Nat} {T:S} {s s':St} {v7 v8:LV} {pl:List Nat} {j v:Nat} (h:PS n T s v7 v8 pl) (h1:s.n≤j) (h2:j<s'.n) (h3:s'.get j=some (.cells .mut (nints (pl++[v])))) (h4:∀ id,id<s.n→¬ uses v8 id→s'.get id=s.get id):PS n T s' v7 (.sref j 0 (pl.length+1) 1) (pl++[v]):=by
 have hn:=h.n4
 have hk:∀ id,id<4→s'.get id=s.get id:=fun id hid=>h4 id (by omega) fun hu=>by have:=h.d8 id hu;omega
 refine ⟨by omega,by rw [hk 0 (by omega)];exact h.g0,by rw [hk 1 (by omega)];exact h.g1,by rw [hk 2 (by omega)];exact h.g2,by rw [hk 3 (by omega)];exact h.g3,h.sk7.mono (by omega) fun id hu=>h4 id (h.sk7.lt hu) (h.dj id hu), .inr ⟨j,[],by simp,h2,by simpa using h3⟩,h.d7,fun id hu=>?_,fun id hu hu'=>?_⟩
 ·rw [uses_sref.1 hu];omega
 ·have:=h.sk7.lt hu
  rw [uses_sref.1 hu'] at this
  omega
theorem PS.app7 {n:Nat} {T T':S} {s s':St} {v7 v8:LV} {pl:List Nat} {j v:Nat} (h:PS n T s v7 v8 pl) (h1:s.n≤j) (h2:j<s'.n) (h3:s'.get j=some (.cells .mut (nints (T.stack++[v])))) (h4:∀ id,id<s.n→¬ uses v7 id→s'.get id=s.get id)
  (ha:T'.part=T.part) (hb:T'.idx=T.idx) (hc:T'.low=T.low) (hd:T'.done=T.done) (he:T'.stack=T.stack++[v]):PS n T' s' (.sref j 0 (T.stack.length+1) 1) v8 pl:=by
 have hn:=h.n4
 have hk:∀ id,id<4→s'.get id=s.get id:=fun id hid=>h4 id (by omega) fun hu=>by have:=h.d7 id hu;omega
 refine ⟨by omega,by rw [hk 0 (by omega),ha];exact h.g0,by rw [hk 1 (by omega),hb];exact h.g1,by rw [hk 2 (by omega),hc];exact h.g2,by rw [hk 3 (by omega),hd];exact h.g3, .inr ⟨j,[],by rw [he];simp,h2,by rw [he];simpa using h3⟩,h.sk8.mono (by omega) fun id hu=>h4 id (h.sk8.lt hu) fun hu'=>h.dj id hu' hu,fun id hu=>?_,h.d8,fun id hu hu'=>?_⟩
 ·rw [uses_sref.1 hu];omega
 ·have:=h.sk8.lt hu'
  rw [uses_sref.1 hu] at this
  omega
theorem PS.row {n:Nat} {T T':S} {s s':St} {v7 v8:LV} {pl:List Nat} (h:PS n T s v7 v8 pl) (hn:s'.n=s.n) (h0:s'.get 0=some (.cells .mut (fcells n T'.part))) (h1:s'.get 1=some (.cells .mut (fcells n T'.idx))) (h2:s'.get 2=some (.cells .mut (fcells n T'.low))) (h3:s'.get 3=some (.cells .mut (fcells n T'.done)))
  (ho:∀ id,4≤id→s'.get id=s.get id) (hs:T'.stack=T.stack):PS n T' s' v7 v8 pl:=
 ⟨by rw [hn];exact h.n4,h0,h1,h2,h3,by rw [hs];exact h.sk7.mono (by omega) fun id hu=>ho id (h.d7 id hu),h.sk8.mono (by omega) fun id hu=>ho id (h.d8 id hu),h.d7,h.d8,h.dj⟩
structure En (n:Nat) (T:S) (ent:List Nat):Prop where
 nd:ent.Nodup
 len:ent.length=T.cnt
 mem:∀ v,v∈ent↔T.idx v≠0
 lt:∀ v∈ent,v<n
theorem En.le {n:Nat} {T:S} {ent:List Nat} (h:En n T ent):ent.length≤n:=Go.Aut.pig n ent h.nd h.lt
theorem En.less {n:Nat} {T:S} {ent:List Nat} (h:En n T ent) {v:Nat} (hv:v<n) (h0:T.idx v=0):ent.length+1≤n:=by
 have:=Go.Aut.pig n (v::ent) (List.nodup_cons.2 ⟨fun hm=>(h.mem v).1 hm h0,h.nd⟩) fun x hx=>by
  rcases List.mem_cons.1 hx with rfl | hx
  ·exact hv
  ·exact h.lt x hx
 simpa using this
theorem En.enter {n:Nat} {T:S} {ent:List Nat} (h:En n T ent) {v:Nat} (hv:v<n) (h0:T.idx v=0):En n (T.enter v) (v::ent):=by
 refine ⟨List.nodup_cons.2 ⟨fun hm=>(h.mem v).1 hm h0,h.nd⟩,by simp [S.enter,h.len],fun u=>?_,fun x hx=>?_⟩
 ·by_cases e:u=v
  ·subst e;simp [S.enter]
  ·simp only [S.enter,List.mem_cons,e,false_or,upd_other _ _ e,h.mem]
 ·rcases List.mem_cons.1 hx with rfl | hx
  ·exact hv
  ·exact h.lt x hx
theorem En.same {n:Nat} {T T':S} {ent:List Nat} (h:En n T ent) (h1:T'.cnt=T.cnt) (h2:T'.idx=T.idx):En n T' ent:=⟨h.nd,by rw [h1];exact h.len,by rw [h2];exact h.mem,h.lt⟩
def EF (nx:LV) (n r cnt:Nat) (v7 v8:LV) (e:Env):Prop:=e.at 0=nx∧e.at 3 = .sref 0 0 n 1∧e.at 4 = .sref 1 0 n 1∧e.at 5 = .sref 2 0 n 1∧e.at 6 = .sref 3 0 n 1∧e.at 7=v7∧e.at 8=v8∧e.at 9 = .int .i64 (cnt:Int)∧e.at 10 = .int .i64 (r:Int)∧e.at 27 = .int .i64 (n:Int)∧e.at 28 = .int .i64 (r:Int)
def Frs (N:List (List Int)) (T:S) (fr:List Nat):Prop:=fr=[]∨∃ v,fr=[v]∧v<N.length∧T.idx v=0∧(T.path=[]∨∃ l p,T.path=l++[p]∧(nxf N p)[T.done p]? = some v)
theorem sorted_cut {f:Nat→Nat} {a b:List Nat} {v:Nat} (h:(a++v::b).Pairwise fun x y=>f x<f y):(∀ w,w∈v::b↔w∈a++v::b∧f v≤f w)∧(a++v::b).filter (fun w=>decide (f w<f v))=a:=by
 obtain ⟨h1,h2,h3⟩:=List.pairwise_append.1 h
 obtain ⟨h4,h5⟩:=List.pairwise_cons.1 h2
 have ha:∀ w∈a,f w<f v:=fun w hw=>h3 w hw v (by simp)
 have hb:∀ w∈v::b,f v≤f w:=fun w hw=>by
  rcases List.mem_cons.1 hw with rfl | hw
  ·exact Nat.le_refl _
  ·exact Nat.le_of_lt (h4 w hw)
 refine ⟨fun w=>⟨fun hw=>⟨List.mem_append_right _ hw,hb w hw⟩,fun ⟨hw,hle⟩=>?_⟩,?_⟩
 ·rcases List.mem_append.1 hw with hw | hw
  ·have:=ha w hw;omega
  ·exact hw
 ·rw [List.filter_append,List.filter_eq_self.2 fun w hw=>by simpa using ha w hw,List.filter_eq_nil_iff.2 fun w hw=>by have:=hb w hw;simp;omega,List.append_nil]
theorem PS.congr {n:Nat} {T T':S} {s:St} {v7 v8:LV} {pl:List Nat} (h:PS n T s v7 v8 pl) (ha:T'.part=T.part) (hb:T'.idx=T.idx) (hc:T'.low=T.low) (hd:T'.done=T.done) (he:T'.stack=T.stack):PS n T' s v7 v8 pl:=
 h.row rfl (by rw [ha];exact h.g0) (by rw [hb];exact h.g1) (by rw [hc];exact h.g2) (by rw [hd];exact h.g3) (fun _ _=>rfl) he
theorem PS.pop8 {n:Nat} {T:S} {s:St} {v7:LV} {j v:Nat} {l:List Nat} (h:PS n T s v7 (.sref j 0 (l.length+1) 1) (l++[v])):PS n T s v7 (.sref j 0 l.length 1) l:=by
 obtain ⟨j',cs,h1,h2,h3⟩:=h.sk8.pos
 cases h1
 exact ⟨h.n4,h.g0,h.g1,h.g2,h.g3,h.sk7,Sk.pop h2 h3,h.d7,fun id hu=>h.d8 id (by rw [uses_sref.1 hu];exact uses_sref.2 rfl),fun id hu hu'=>h.dj id hu (by rw [uses_sref.1 hu'];exact uses_sref.2 rfl)⟩
theorem PS.pop7 {n:Nat} {T:S} {s:St} {v8:LV} {j y:Nat} {st pl:List Nat} (h:PS n T s (.sref j 0 (st.length+1) 1) v8 pl) (hs:T.stack=st++[y]):PS n { T with stack:=st } s (.sref j 0 st.length 1) v8 pl:=by
 have h7:=h.sk7
 rw [hs] at h7
 obtain ⟨j',cs,h1,h2,h3⟩:=h7.pos
 cases h1
 exact ⟨h.n4,h.g0,h.g1,h.g2,h.g3,Sk.pop h2 h3,h.sk8,fun id hu=>h.d7 id (by rw [uses_sref.1 hu];exact uses_sref.2 rfl),h.d8,fun id hu=>h.dj id (by rw [uses_sref.1 hu];exact uses_sref.2 rfl)⟩
def pps (f:Nat→Nat) (pd:List Nat) (x:Nat):Nat→Nat:=fun w=>if w∈pd then x else f w
set_option maxHeartbeats 16000000 in
theorem parts_ok {nx:LV} {N:List (List Int)} {vN:List LV} (hN:IsRows nx N vN) (hb:N.length≤1048576) (hr:∀ i,i<N.length→∀ k,k<(N.getD i []).length→0≤(N.getD i []).getD k 0∧(N.getD i []).getD k 0<N.length) :
  PE 75 [nx] (fun r=>∃ p:Nat→Nat,IsInts r ((List.range N.length).map fun i=>(p i:Int))∧∀ u v,u<N.length→v<N.length→(p u=p v↔Rch (nxf N) u v∧Rch (nxf N) v u)):=by
 refine q_fnEx (t:=2) hm Tryz.func75 (by decide +kernel) c75 (Nat.le_of_ble_eq_true rfl) (by simp [LV.closed.closedAll,hN.closed]) rfl ?_
 have e0:(envOf [nx]).at 0=nx:=by rw [envOf_at];rfl
 generalize envOf [nx]=e at *
 have hmx:maxLen=9223372036854775807:=by decide
 obtain ⟨n,hn⟩:∃ n,N.length=n:=⟨_,rfl⟩
 have hsl:=hN.sl
 have hlen:slLen nx=some n:=by rw [← hn];exact hsl.len
 rw [hn] at hb
 unfold l75
 dsimp only [jA,jB,jG,jH,qM,qL,qS,qI,qA,qB,qC,qm,ql]
 repeat' (first | refine gA @hlen ?_ | (refine gB @hlen ?_;intro bb hbb;cases bb<;>(try simp only [hbs,if_false,reduceCtorEq] at hbb)) | fail)
 refine qc_loop (fun m e s=>∃ (r:Nat) (T:S) (ent:List Nat) (v7 v8:LV),m=n - r∧r≤n∧T.path=[]∧(∀ v,v<r→T.idx v≠0)∧Inv n (nxf N) T∧En n T ent∧PS n T s v7 v8 []∧e.at 0=nx∧e.at 3 = .sref 0 0 n 1∧e.at 4 = .sref 1 0 n 1∧e.at 5 = .sref 2 0 n 1∧e.at 6 = .sref 3 0 n 1∧e.at 7=v7∧e.at 8=v8∧e.at 9 = .int .i64 (T.cnt:Int)∧e.at 27 = .int .i64 (n:Int)∧e.at 28 = .int .i64 (r:Int)) n
  ⟨0,S.init,[], .nils, .nils,by simp,by omega,rfl,fun v hv=>absurd hv (Nat.not_lt_zero _),inv_init n (nxf N),⟨by simp,rfl,by simp [S.init],by simp⟩,⟨by simp [n_empty],by simp [n_empty,S.init],by simp [n_empty,S.init],by simp [n_empty,S.init],by simp [n_empty,S.init], .inl ⟨rfl,rfl⟩, .inl ⟨rfl,rfl⟩,fun id h=>absurd h (uses_nils id),fun id h=>absurd h (uses_nils id),fun id h=>absurd h (uses_nils id)⟩,
   ef,ef,ef,ef,ef,ef,ef,by simp only [lk,sv1,sv2,sv3,Nat.reduceEqDiff,Nat.reduceAdd,Nat.reduceLeDiff,reduceIte,if_false,if_true,mkVal,unLV,List.map,optTmps];rfl,ef,by simp only [lk,sv1,sv2,sv3,Nat.reduceEqDiff,Nat.reduceAdd,Nat.reduceLeDiff,reduceIte,if_false,if_true,mkVal,unLV,List.map,optTmps];rfl⟩ ?_
 clear e0
 rintro m e s ⟨r,T,ent,v7,v8,rfl,hrn,hp,hall,hI,hE,hS,e0,e3,e4,e5,e6,e7,e8,e9,e27,e28⟩
 repeat' (first | refine gA trivial ?_ | (refine gB trivial ?_;intro bb hbb;cases bb<;>(try simp only [hbs,if_false,reduceCtorEq] at hbb)) | fail)
 · -- all roots
  have hrn':r=n:=by omega
  have hfin:=hI.final hp fun v hv=>hall v (by omega)
  have hlm:IsInts (.simm (fcells n T.part) n) ((List.range n).map fun i=>(T.part i:Int)):=by
   refine ⟨?_,by simp;omega,fun x hx=>?_⟩
   ·rw [fcells_ints]
    have:=Sl.simm (ints ((List.range n).map fun i=>(T.part i:Int))) n
    simpa using this
   ·obtain ⟨i,hi,rfl⟩:=List.mem_map.1 hx
    have hi':i<n:=by simpa using hi
    obtain ⟨q,q1,q2⟩:=hI.root i (hfin i i hi' hi').1
    have h1:=hI.rng q (by rw [q2];exact (hfin i i hi' hi').1)
    have h2:=hE.len
    have h3:=hE.le
    constructor<;>omega
  refine ⟨.inr trivial, .simm (fcells n T.part) n,s.put 0 (.cells .app (fcells n T.part)),?_,?_,T.part,by rw [hn];exact hlm,fun u v hu hv=>(hfin u v (by omega) (by omega)).2⟩
  ·simp only [lk,sv1,sv2,sv3,Nat.reduceEqDiff,Nat.reduceAdd,Nat.reduceLeDiff,reduceIte,if_false,if_true,mkVal,unLV,List.map,optTmps,e3]
   exact frz_sref hS.g0 (by simp) (by rw [fcells_ints];exact ints_closed _)
  ·exact hlm.closed
 · -- a root
  refine qc_mid (fun e s=>∃ (fr:List Nat) (v8':LV),(fr=[]∧T.idx r≠0∨fr=[r]∧T.idx r=0)∧PS n T s v7 v8' fr∧EF nx n r T.cnt v7 v8' e) ?_ ?_
  ·have g:(fcells n T.idx)[r]? = some (.int .i64 (T.idx r:Int)):=fcells_get (by omega)
   have g1:=hS.g1
   repeat' (first | refine gA (And.intro @iaS @g) ?_ | (refine gB (And.intro @iaS @g) ?_;intro bb hbb;cases bb<;>(try simp only [hbs,if_false,reduceCtorEq] at hbb)) | fail)
   ·exact ⟨[],v8, .inl ⟨rfl,by omega⟩,hS,by simp only [EF,lk,sv1,sv2,sv3,Nat.reduceEqDiff,Nat.reduceAdd,Nat.reduceLeDiff,reduceIte,if_false,if_true,mkVal,unLV,List.map,optTmps,e0,e3,e4,e5,e6,e7,e8,e9,e27,e28,and_self]⟩
   ·refine q_app1 (v:=r) (ls:=[]) ef ef hS.sk8 (by simp) (fun s' j h1 h2 h3 h4=>?_)
    repeat' (first | refine gA trivial ?_ | (refine gB trivial ?_;intro bb hbb;cases bb<;>(try simp only [hbs,if_false,reduceCtorEq] at hbb)) | fail)
    exact ⟨[r], .sref j 0 (0+1) 1, .inr ⟨rfl,by omega⟩,hS.app8 h1 h2 h3 h4,by simp only [EF,lk,sv1,sv2,sv3,Nat.reduceEqDiff,Nat.reduceAdd,Nat.reduceLeDiff,reduceIte,if_false,if_true,mkVal,unLV,List.map,optTmps,e0,e3,e4,e5,e6,e7,e8,e9,e27,e28,List.length_nil,and_self]⟩
  clear e0 e3 e4 e5 e6 e7 e8 e9 e27 e28
  rintro e s ⟨fr,v8',hfr,hS',e0,e3,e4,e5,e6,e7,e8,e9,e10,e27,e28⟩
  repeat' (first | refine gA trivial ?_ | (refine gB trivial ?_;intro bb hbb;cases bb<;>(try simp only [hbs,if_false,reduceCtorEq] at hbb)) | fail)
  refine qc_loop (fun m e s=>∃ (T:S) (ent fr:List Nat) (v7 v8:LV),m=2*(n - ent.length - fr.length)+(T.path++fr).length∧Frs N T fr∧(T.idx r≠0∨r∈fr)∧(∀ v,v<r→T.idx v≠0)∧Inv n (nxf N) T∧En n T ent∧PS n T s v7 v8 (T.path++fr)∧EF nx n r T.cnt v7 v8 e) _
   ⟨T,ent,fr,v7,v8',rfl,by
    rcases hfr with ⟨rfl,_⟩ | ⟨rfl,h0⟩
    ·exact .inl rfl
    ·exact .inr ⟨r,rfl,by omega,h0, .inl hp⟩,by
    rcases hfr with ⟨rfl,h0⟩ | ⟨rfl,h0⟩
    ·exact .inl h0
    ·exact .inr (by simp),hall,hI,hE,by rw [hp];exact hS',e0,e3,e4,e5,e6,e7,e8,e9,e10,e27,e28⟩ ?_
  clear hI hE hS hS' hall hp hfr e0 e3 e4 e5 e6 e7 e8 e9 e10 e27 e28
  clear fr v8' v7 v8 ent T s e
  rintro m e s ⟨T,ent,fr,v7,v8,rfl,hfr,hroot,hall,hI,hE,hS,e0,e3,e4,e5,e6,e7,e8,e9,e10,e27,e28⟩
  rcases List.eq_nil_or_concat (T.path++fr) with hpl | ⟨l,v,hpl⟩
  · -- the way is empty
   have hl8:=hS.sk8.len
   rw [hpl] at hl8
   have hpe:T.path=[]∧fr=[]:=by simpa using hpl
   obtain ⟨hp,rfl⟩:=hpe
   rw [List.append_nil,hp] at hS
   repeat' (first | refine gA @hl8 ?_ | (refine gB @hl8 ?_;intro bb hbb;cases bb<;>(try simp only [hbs,if_false,reduceCtorEq] at hbb)) | fail)
   ·refine ⟨n - (r+1),by omega,r+1,T,ent,v7,v8,rfl,by omega,hp,fun v hv=>?_,hI,hE,hS,?_⟩
    ·by_cases h:v<r
     ·exact hall v h
     ·obtain rfl:v=r:=by omega
      rcases hroot with h | h
      ·exact h
      ·cases h
    ·have hw:IntKind.i64.wrap ((r:Int)+1)=((r+1:Nat):Int):=by rw [wrap_i64 _ (by omega) (by omega)];rfl
     simp only [lk,sv1,sv2,sv3,Nat.reduceEqDiff,Nat.reduceAdd,Nat.reduceLeDiff,reduceIte,if_false,if_true,mkVal,unLV,List.map,optTmps,hw,e0,e3,e4,e5,e6,e7,e8,e9,e27,e28,and_self]
   ·simp at hbb
  · -- the last on the way
   rw [List.concat_eq_append] at hpl
   rw [hpl] at hS
   obtain ⟨j8,c8,rfl,hj8,hg8⟩:=hS.sk8.pos
   have hl8:slLen (.sref j8 0 (l.length+1) 1)=some (l.length+1):=rfl
   have hvm:v∈T.path++fr:=by rw [hpl];simp
   have hvn:v<n:=by
    rcases List.mem_append.1 hvm with h | h
    ·exact (hI.rng v ((hI.mem v).1 (hI.psub v h)).1).1
    ·rcases hfr with rfl | ⟨x,rfl,hx,_⟩
     ·cases h
     ·rw [List.mem_singleton.1 h,← hn];exact hx
   have hEle:=hE.le
   have hll:l.length≤n:=by
    have hnd:T.path.Nodup:=by
     rw [List.nodup_iff_pairwise_ne]
     exact hI.psrt.imp fun h e=>by rw [e] at h;exact Nat.lt_irrefl _ h
    have h1:=Go.Aut.pig n T.path hnd fun x hx=>(hI.rng x ((hI.mem x).1 (hI.psub x hx)).1).1
    have h2:(T.path++fr).length=l.length+1:=by rw [hpl];simp
    have h3:fr.length≤1:=by rcases hfr with rfl | ⟨x,rfl,_⟩<;>simp
    simp only [List.length_append] at h2
    omega
   have hw:IntKind.i64.wrap (((l.length+1:Nat):Int) - 1)=(l.length:Int):=by rw [wrap_i64 _ (by omega) (by omega)];omega
   have hlt8:(l.length:Int)<((l.length+1:Nat):Int):=by omega
   have hgt:=nints_top l v c8
   have hvI:(v:Int)<(n:Int):=by omega
   repeat' (first | refine gA (And.intro @hl8 (And.intro @iaS (And.intro @hw @hgt))) ?_ | (refine gB (And.intro @hl8 (And.intro @iaS (And.intro @hw @hgt))) ?_;intro bb hbb;cases bb<;>(try simp only [hbs,if_false,reduceCtorEq] at hbb)) | fail)
   ·exfalso;omega
   refine qc_mid (fun e s=>∃ (T':S) (ent':List Nat) (v7':LV),T'.path=l++[v]∧Inv n (nxf N) T'∧En n T' ent'∧PS n T' s v7' (.sref j8 0 (l.length+1) 1) (l++[v])∧2*(n - ent'.length)+(l.length+1)≤2*(n - ent.length - fr.length)+(T.path++fr).length∧T'.idx r≠0∧(∀ v,v<r→T'.idx v≠0)∧e.at 11 = .int .i64 (v:Int)∧EF nx n r T'.cnt v7' (.sref j8 0 (l.length+1) 1) e) ?_ ?_
   ·have g:(fcells n T.idx)[v]? = some (.int .i64 (T.idx v:Int)):=fcells_get hvn
    have g1:=hS.g1
    repeat' (first | refine gA (And.intro @iaS @g) ?_ | (refine gB (And.intro @iaS @g) ?_;intro bb hbb;cases bb<;>(try simp only [hbs,if_false,reduceCtorEq] at hbb)) | fail)
    · -- entered before
     have hf0:fr=[]:=by
      rcases hfr with h | ⟨x,rfl,_,hx,_⟩
      ·exact h
      ·have:=(List.append_inj' (hpl:T.path++[x]=l++[v]) rfl).2
       have:x=v:=by simpa using this
       subst this
       omega
     subst hf0
     rw [List.append_nil] at hpl
     refine ⟨T,ent,v7,hpl,hI,hE,hS,by rw [List.append_nil,hpl];simp,?_,hall,ef,by simp only [EF,lk,sv1,sv2,sv3,Nat.reduceEqDiff,Nat.reduceAdd,Nat.reduceLeDiff,reduceIte,if_false,if_true,mkVal,unLV,List.map,optTmps,e0,e3,e4,e5,e6,e7,e8,e9,e10,e27,e28,and_self]⟩
     rcases hroot with h | h
     ·exact h
     ·cases h
    · -- entered now
     have hv0:T.idx v=0:=by omega
     obtain ⟨x,rfl,hx1,hx2,hx3⟩:∃ x,fr=[x]∧x<N.length∧T.idx x=0∧(T.path=[]∨∃ l p,T.path=l++[p]∧(nxf N p)[T.done p]? = some x):=by
      rcases hfr with rfl | h
      ·rw [List.append_nil] at hpl
       exact absurd hv0 ((hI.mem v).1 (hI.psub v (by rw [hpl];simp))).1
      ·exact h
     obtain ⟨hpl1,hpl2⟩:=List.append_inj' (hpl:T.path++[x]=l++[v]) rfl
     obtain rfl:x=v:=by simpa using hpl2
     have hlss:=hE.less hvn hv0
     have hcnt:=hE.len
     have hwc:IntKind.i64.wrap ((T.cnt:Int)+1)=((T.cnt+1:Nat):Int):=by rw [wrap_i64 _ (by omega) (by omega)];rfl
     repeat' (first | refine gA (And.intro @iaS @hwc) ?_ | (refine gB (And.intro @iaS @hwc) ?_;intro bb hbb;cases bb<;>(try simp only [hbs,if_false,reduceCtorEq] at hbb)) | fail)
     refine q_storeF (i:=1) (v:=x) (n:=n) (y:=T.cnt+1) (f:=T.idx) (f':=(T.enter x).idx) ef ef hS.g1 hvn (fun j=>rfl) (fun s1 n1 h1 o1=>?_)
     repeat' (first | refine gA (And.intro @iaS @hwc) ?_ | (refine gB (And.intro @iaS @hwc) ?_;intro bb hbb;cases bb<;>(try simp only [hbs,if_false,reduceCtorEq] at hbb)) | fail)
     refine q_storeF (i:=2) (v:=x) (n:=n) (y:=T.cnt+1) (f:=T.low) (f':=(T.enter x).low) ef ef (by rw [o1 2 (by omega)];exact hS.g2) hvn (fun j=>rfl) (fun s2 n2 h2 o2=>?_)
     have hS2:PS n ⟨(T.enter x).idx,(T.enter x).low,T.part,T.done,T.cnt+1,T.stack,T.path⟩ s2 v7 (.sref j8 0 (l.length+1) 1) (l++[x]) :=
      hS.row (by rw [n2,n1]) (by rw [o2 0 (by omega),o1 0 (by omega)];exact hS.g0) (by rw [o2 1 (by omega)];exact h1) h2 (by rw [o2 3 (by omega),o1 3 (by omega)];exact hS.g3) (fun id hid=>by rw [o2 id (by omega),o1 id (by omega)]) rfl
     repeat' (first | refine gA trivial ?_ | (refine gB trivial ?_;intro bb hbb;cases bb<;>(try simp only [hbs,if_false,reduceCtorEq] at hbb)) | fail)
     have hsl7:T.stack.length≤n:=by
      have hnd:T.stack.Nodup:=by
       rw [List.nodup_iff_pairwise_ne]
       exact hI.srt.imp fun h e=>by rw [e] at h;exact Nat.lt_irrefl _ h
      exact Go.Aut.pig n T.stack hnd fun x hx=>(hI.rng x ((hI.mem x).1 hx).1).1
     refine q_app1 (v:=x) (ls:=T.stack) ef ef hS2.sk7 (by omega) (fun s3 j3 k1 k2 k3 k4=>?_)
     repeat' (first | refine gA trivial ?_ | (refine gB trivial ?_;intro bb hbb;cases bb<;>(try simp only [hbs,if_false,reduceCtorEq] at hbb)) | fail)
     refine ⟨T.enter x,x::ent, .sref j3 0 (T.stack.length+1) 1,by rw [← hpl1];rfl,hI.enter hvn hv0 hx3,hE.enter hvn hv0,hS2.app7 k1 k2 k3 k4 rfl rfl rfl rfl rfl,by rw [hpl1];simp;omega,?_,fun w hw=>?_,ef,by simp only [EF,lk,sv1,sv2,sv3,Nat.reduceEqDiff,Nat.reduceAdd,Nat.reduceLeDiff,reduceIte,if_false,if_true,mkVal,unLV,List.map,optTmps,hwc,e0,e3,e4,e5,e6,e7,e8,e9,e10,e27,e28,S.enter,and_self]⟩
     ·by_cases e:r=x
      ·subst e;simp [S.enter]
      ·simp only [S.enter,upd_other _ _ e]
       rcases hroot with h | h
       ·exact h
       ·exact absurd (List.mem_singleton.1 h) e
     ·by_cases e:w=x
      ·subst e;simp [S.enter]
      ·simp only [S.enter,upd_other _ _ e]
       exact hall w hw
   generalize hM:2*(n - ent.length - fr.length)+(T.path++fr).length=M
   clear hI hE hS hEle hfr hroot hall hpl hvm hg8 hj8 hgt hl8 hw hlt8 e0 e3 e4 e5 e6 e7 e8 e9 e10 e27 e28 hM
   clear c8 fr ent T v7 s e
   rintro e s ⟨T,ent,v7,hpt,hI,hE,hS,hms,hroot,hall,e11,e0,e3,e4,e5,e6,e7,e8,e9,e10,e27,e28⟩
   have hrow:=hN.row v (by omega)
   have hrl:slLen (vN.getD v .top)=some (N.getD v []).length:=hrow.sl.len
   have hiaN:∀ s:St,iaLV 1 nx (.int .i64 (v:Int)) s=some (.pimm vN v,s):=fun s=>by
    have:=iaN (esz:=1) (k:=.i64) (s:=s) hsl (i:=v) (by omega)
    simpa using this
   have hgN:vN[v]? = some (vN.getD v .top):=hN.getI (by omega)
   repeat' (first | refine gA trivial ?_ | (refine gB trivial ?_;intro bb hbb;cases bb<;>(try simp only [hbs,if_false,reduceCtorEq] at hbb)) | fail)
   refine qc_loop (fun m e s=>∃ T:S,m=(nxf N v).length - T.done v∧T.path=l++[v]∧Inv n (nxf N) T∧En n T ent∧PS n T s v7 (.sref j8 0 (l.length+1) 1) (l++[v])∧T.idx r≠0∧(∀ v,v<r→T.idx v≠0)∧e.at 11 = .int .i64 (v:Int)∧EF nx n r T.cnt v7 (.sref j8 0 (l.length+1) 1) e) _ ⟨T,rfl,hpt,hI,hE,hS,hroot,hall,e11,e0,e3,e4,e5,e6,e7,e8,e9,e10,e27,e28⟩ ?_
   clear hpt hI hE hS hroot hall e11 e0 e3 e4 e5 e6 e7 e8 e9 e10 e27 e28
   clear T s e
   rintro m e s ⟨T,rfl,hpt,hI,hE,hS,hroot,hall,e11,e0,e3,e4,e5,e6,e7,e8,e9,e10,e27,e28⟩
   have hvp:v∈T.path:=by rw [hpt];simp
   have hvi:=((hI.mem v).1 (hI.psub v hvp)).1
   have gd:(fcells n T.done)[v]? = some (.int .i64 (T.done v:Int)):=fcells_get hvn
   have g3:=hS.g3
   have hnl:=nxf_len N v
   have hdle:=hI.dle v
   have hEle:=hE.le
   have hvI2:(v:Int)<(n:Int):=by omega
   by_cases hd:T.done v<(N.getD v []).length
   · -- a next one
    obtain ⟨hu0,hu1⟩:=hr v (by omega) _ hd
    have hgu:=nxf_get hd
    have hiaR:∀ s:St,iaLV 1 (vN.getD v .top) (.int .i64 (T.done v:Int)) s=some (.pimm (ints (N.getD v [])) (T.done v),s):=fun s=>by
     have:=iaN (esz:=1) (k:=.i64) (s:=s) hrow.sl (i:=T.done v) (by omega)
     simpa using this
    have hgR:(ints (N.getD v []))[T.done v]? = some (.int .i64 (((N.getD v []).getD (T.done v) 0).toNat:Int)):=by
     rw [Int.toNat_of_nonneg hu0]
     exact ints_get (by omega)
    obtain ⟨u,hu⟩:∃ u,u=((N.getD v []).getD (T.done v) 0).toNat:=⟨_,rfl⟩
    rw [← hu] at hgu hgR
    have hun:u<n:=by omega
    have huI:(u:Int)<(n:Int):=by omega
    have gi:(fcells n T.idx)[u]? = some (.int .i64 (T.idx u:Int)):=fcells_get hun
    have g1:=hS.g1
    clear hu hu0 hu1
    repeat' (first | refine gA (And.intro @iaS (And.intro @hiaN (And.intro @hgN (And.intro @hrl (And.intro @gd (And.intro @hiaR (And.intro @hgR @gi))))))) ?_ | (refine gB (And.intro @iaS (And.intro @hiaN (And.intro @hgN (And.intro @hrl (And.intro @gd (And.intro @hiaR (And.intro @hgR @gi))))))) ?_;intro bb hbb;cases bb<;>(try simp only [hbs,if_false,reduceCtorEq] at hbb)) | fail)
    ·exfalso;omega
    · -- known
     have hui:T.idx u≠0:=by omega
     have hps:=hS.sk8
     refine qc_mid (fun e s=>PS n ⟨T.idx,(T.edge v u).low,T.part,T.done,T.cnt,T.stack,T.path⟩ s v7 (.sref j8 0 (l.length+1) 1) (l++[v])∧e.at 11 = .int .i64 (v:Int)∧EF nx n r T.cnt v7 (.sref j8 0 (l.length+1) 1) e) ?_ ?_
     ·have gp:(fcells n T.part)[u]? = some (.int .i64 (T.part u:Int)):=fcells_get hun
      have gl:(fcells n T.low)[v]? = some (.int .i64 (T.low v:Int)):=fcells_get hvn
      have gm:(fcells n T.low)[u]? = some (.int .i64 (T.low u:Int)):=fcells_get hun
      have g0:=hS.g0
      have g2:=hS.g2
      repeat' (first | refine gA (And.intro @iaS (And.intro @gp (And.intro @gl @gm))) ?_ | (refine gB (And.intro @iaS (And.intro @gp (And.intro @gl @gm))) ?_;intro bb hbb;cases bb<;>(try simp only [hbs,if_false,reduceCtorEq] at hbb)) | fail)
      ·have hz:T.part u≠0:=by omega
       refine ⟨hS.congr rfl rfl (by simp [S.edge,hz]) rfl rfl,ef,by simp only [EF,lk,sv1,sv2,sv3,Nat.reduceEqDiff,Nat.reduceAdd,Nat.reduceLeDiff,reduceIte,if_false,if_true,mkVal,unLV,List.map,optTmps,e0,e3,e4,e5,e6,e7,e8,e9,e10,e27,e28,and_self]⟩
      ·have hz:T.part u=0:=by omega
       have hmin:min (T.low v:Int) (T.low u:Int)=((min (T.low v) (T.low u):Nat):Int):=by omega
       refine q_storeF (i:=2) (v:=v) (n:=n) (y:=min (T.low v) (T.low u)) (f:=T.low) (f':=(T.edge v u).low) ef ef hS.g2 hvn (fun j=>by simp [S.edge,hz,upd]) (fun s1 n1 h1 o1=>?_)
       repeat' (first | refine gA trivial ?_ | (refine gB trivial ?_;intro bb hbb;cases bb<;>(try simp only [hbs,if_false,reduceCtorEq] at hbb)) | fail)
       refine ⟨hS.row n1 (by rw [o1 0 (by omega)];exact hS.g0) (by rw [o1 1 (by omega)];exact hS.g1) h1 (by rw [o1 3 (by omega)];exact hS.g3) (fun id hid=>o1 id (by omega)) rfl,ef,by simp only [EF,lk,sv1,sv2,sv3,Nat.reduceEqDiff,Nat.reduceAdd,Nat.reduceLeDiff,reduceIte,if_false,if_true,mkVal,unLV,List.map,optTmps,e0,e3,e4,e5,e6,e7,e8,e9,e10,e27,e28,and_self]⟩
     clear g3 g1 hps e0 e3 e4 e5 e6 e7 e8 e9 e10 e11 e27 e28
     clear hS s e
     rintro e s ⟨hS,e11,e0,e3,e4,e5,e6,e7,e8,e9,e10,e27,e28⟩
     have g3:=hS.g3
     have hwd:IntKind.i64.wrap ((T.done v:Int)+1)=((T.done v+1:Nat):Int):=by
      have:=hrow.len
      rw [wrap_i64 _ (by omega) (by omega)];rfl
     repeat' (first | refine gA (And.intro @iaS (And.intro @gd @hwd)) ?_ | (refine gB (And.intro @iaS (And.intro @gd @hwd)) ?_;intro bb hbb;cases bb<;>(try simp only [hbs,if_false,reduceCtorEq] at hbb)) | fail)
     refine q_storeF (i:=3) (v:=v) (n:=n) (y:=T.done v+1) (f:=T.done) (f':=(T.edge v u).done) ef ef hS.g3 hvn (fun j=>rfl) (fun s1 n1 h1 o1=>?_)
     repeat' (first | refine gA trivial ?_ | (refine gB trivial ?_;intro bb hbb;cases bb<;>(try simp only [hbs,if_false,reduceCtorEq] at hbb)) | fail)
     refine ⟨(nxf N v).length - (T.done v+1),by omega,T.edge v u,by simp [S.edge],hpt,hI.edge hpt hgu hui,hE.same rfl rfl,hS.row n1 (by rw [o1 0 (by omega)];exact hS.g0) (by rw [o1 1 (by omega)];exact hS.g1) (by rw [o1 2 (by omega)];exact hS.g2) h1 (fun id hid=>o1 id (by omega)) rfl,hroot,hall,ef,by simp only [EF,lk,sv1,sv2,sv3,Nat.reduceEqDiff,Nat.reduceAdd,Nat.reduceLeDiff,reduceIte,if_false,if_true,mkVal,unLV,List.map,optTmps,e0,e3,e4,e5,e6,e7,e8,e9,e10,e27,e28,S.edge,and_self]⟩
    · -- fresh
     have hu0:T.idx u=0:=by omega
     have hlss:=hE.less hun hu0
     have hlen8:(l++[v]).length=l.length+1:=by simp
     have hll:l.length+1≤n:=by
      have hnd:T.path.Nodup:=by
       rw [List.nodup_iff_pairwise_ne]
       exact hI.psrt.imp fun h e=>by rw [e] at h;exact Nat.lt_irrefl _ h
      have h1:=Go.Aut.pig n T.path hnd fun x hx=>(hI.rng x ((hI.mem x).1 (hI.psub x hx)).1).1
      rw [hpt,hlen8] at h1
      exact h1
     refine q_app1 (v:=u) (ls:=l++[v]) ef ef hS.sk8 (by omega) (fun s' j k1 k2 k3 k4=>?_)
     repeat' (first | refine gA trivial ?_ | (refine gB trivial ?_;intro bb hbb;cases bb<;>(try simp only [hbs,if_false,reduceCtorEq] at hbb)) | fail)
     refine ⟨2*(n - ent.length - 1)+(l.length+2),by omega,T,ent,[u],v7, .sref j 0 ((l++[v]).length+1) 1,by rw [hpt];simp, .inr ⟨u,rfl,by omega,hu0, .inr ⟨l,v,hpt,hgu⟩⟩, .inl hroot,hall,hI,hE,by rw [hpt];exact hS.app8 k1 k2 k3 k4,by simp only [EF,lk,sv1,sv2,sv3,Nat.reduceEqDiff,Nat.reduceAdd,Nat.reduceLeDiff,reduceIte,if_false,if_true,mkVal,unLV,List.map,optTmps,e0,e3,e4,e5,e6,e7,e8,e9,e10,e27,e28,and_self]⟩
   · -- none left
    have hdv:T.done v=(nxf N v).length:=by omega
    have hw:IntKind.i64.wrap (((l.length+1:Nat):Int) - 1)=(l.length:Int):=by
     have hll:l.length+1≤n:=by
      have hnd:T.path.Nodup:=by
       rw [List.nodup_iff_pairwise_ne]
       exact hI.psrt.imp fun h e=>by rw [e] at h;exact Nat.lt_irrefl _ h
      have h1:=Go.Aut.pig n T.path hnd fun x hx=>(hI.rng x ((hI.mem x).1 (hI.psub x hx)).1).1
      rw [hpt] at h1
      simpa using h1
     rw [wrap_i64 _ (by omega) (by omega)];omega
    have hl8:slLen (.sref j8 0 (l.length+1) 1)=some (l.length+1):=rfl
    have gl:(fcells n T.low)[v]? = some (.int .i64 (T.low v:Int)):=fcells_get hvn
    have gi:(fcells n T.idx)[v]? = some (.int .i64 (T.idx v:Int)):=fcells_get hvn
    have g1:=hS.g1
    have g2:=hS.g2
    repeat' (first | refine gA (And.intro @iaS (And.intro @hiaN (And.intro @hgN (And.intro @hrl (And.intro @gd @hl8))))) ?_ | (refine gB (And.intro @iaS (And.intro @hiaN (And.intro @hgN (And.intro @hrl (And.intro @gd @hl8))))) ?_;intro bb hbb;cases bb<;>(try simp only [hbs,if_false,reduceCtorEq] at hbb)) | fail)
    rotate_left
    ·exfalso;omega
    refine q_sliceS wN (j:=j8) (n:=l.length+1) (m:=l.length) ef ef (by omega) ?_
    repeat' (first | refine gA (And.intro @iaS (And.intro @gl @gi)) ?_ | (refine gB (And.intro @iaS (And.intro @gl @gi)) ?_;intro bb hbb;cases bb<;>(try simp only [hbs,if_false,reduceCtorEq] at hbb)) | fail)
    · -- a part is whole
     have hnl':¬ T.low v<T.idx v:=by omega
     have hIR:=hI.popR hpt hdv hnl'
     have hexit:∀ (st r':List Nat) (v7:LV) (e:Env) (s:St),st++v::r'=T.stack→PS n ⟨T.idx,T.low,pps T.part (v::r') (T.idx v),T.done,T.cnt,st,l⟩ s v7 (.sref j8 0 l.length 1) l→EF nx n r T.cnt v7 (.sref j8 0 l.length 1) e →
       ∃ m,m<M∧∃ (T:S) (ent fr:List Nat) (v7 v8:LV),m=2*(n - ent.length - fr.length)+(T.path++fr).length∧Frs N T fr∧(T.idx r≠0∨r∈fr)∧(∀ v,v<r→T.idx v≠0)∧Inv n (nxf N) T∧En n T ent∧PS n T s v7 v8 (T.path++fr)∧EF nx n r T.cnt v7 v8 e:=by
      intro st r' v7 e s hst hPS hEF
      have hsrt:=hI.srt
      rw [← hst] at hsrt
      obtain ⟨c1,c2⟩:=sorted_cut hsrt
      have hpath:(T.popR v).path=l:=by simp [S.popR,hpt]
      refine ⟨2*(n - ent.length)+l.length,by omega,T.popR v,ent,[],v7, .sref j8 0 l.length 1,by rw [hpath];simp, .inl rfl, .inl hroot,hall,hIR,hE.same rfl rfl,?_,hEF⟩
      rw [hpath,List.append_nil]
      refine hPS.congr ?_ rfl rfl rfl ?_
      ·funext w
       simp only [S.popR,pps]
       rw [← hst]
       by_cases h:w∈v::r'
       ·rw [if_pos h,if_pos ((c1 w).1 h)]
       ·rw [if_neg h,if_neg fun hh=>h ((c1 w).2 hh)]
      ·simp only [S.popR]
       rw [← hst,c2]
     refine qc_loop (fun m e s=>∃ (st pd:List Nat) (v7:LV) (x:Int),m=st.length∧st++pd=T.stack∧(pd=[]∧x = -1∨∃ y r',pd=y::r'∧x=(y:Int))∧(v∈st∨∃ r',pd=v::r')∧PS n ⟨T.idx,T.low,pps T.part pd (T.idx v),T.done,T.cnt,st,l⟩ s v7 (.sref j8 0 l.length 1) l∧e.at 11 = .int .i64 (v:Int)∧e.at 13 = .int .i64 x∧EF nx n r T.cnt v7 (.sref j8 0 l.length 1) e) _
      ⟨T.stack,[],v7,-1,rfl,by simp, .inl ⟨rfl,rfl⟩, .inl (hI.psub v hvp),hS.pop8.congr (by funext w;simp [pps]) rfl rfl rfl rfl,ef,ef,by simp only [EF,lk,sv1,sv2,sv3,Nat.reduceEqDiff,Nat.reduceAdd,Nat.reduceLeDiff,reduceIte,if_false,if_true,mkVal,unLV,List.map,optTmps,e0,e3,e4,e5,e6,e7,e8,e9,e10,e27,e28,and_self]⟩ ?_
     clear g3 g1 g2 e0 e3 e4 e5 e6 e7 e8 e9 e10 e11 e27 e28
     clear hS s e
     rintro m e s ⟨st,pd,v7,x,rfl,hst,hx,hv,hS,e11,e13,e0,e3,e4,e5,e6,e7,e8,e9,e10,e27,e28⟩
     rcases List.eq_nil_or_concat st with hst0 | ⟨st',y,hst0⟩
     ·subst hst0
      repeat' (first | refine gA trivial ?_ | (refine gB trivial ?_;intro bb hbb;cases bb<;>(try simp only [hbs,if_false,reduceCtorEq] at hbb)) | fail)
      ·rcases hv with hv | ⟨r',rfl⟩
       ·cases hv
       ·exact hexit [] r' v7 _ _ hst hS (by simp only [EF,lk,sv1,sv2,sv3,Nat.reduceEqDiff,Nat.reduceAdd,Nat.reduceLeDiff,reduceIte,if_false,if_true,mkVal,unLV,List.map,optTmps,e0,e3,e4,e5,e6,e7,e8,e9,e10,e27,e28,and_self])
      all_goals
       exfalso
       rcases hv with hv | ⟨r',rfl⟩
       ·cases hv
       ·rcases hx with ⟨h,_⟩ | ⟨y,r2,h,hxy⟩
        ·cases h
        ·cases h;omega
     ·rw [List.concat_eq_append] at hst0
      subst hst0
      have h7:=hS.sk7
      obtain ⟨j7,c7,hv7,hj7,hg7⟩:=h7.pos
      subst hv7
      have hl7:slLen (.sref j7 0 (st'.length+1) 1)=some (st'.length+1):=rfl
      have hys:y∈T.stack:=by rw [← hst];simp
      have hyn:y<n:=(hI.rng y ((hI.mem y).1 hys).1).1
      have hyI:(y:Int)<(n:Int):=by omega
      have hsl7:st'.length+1≤n:=by
       have hnd:T.stack.Nodup:=by
        rw [List.nodup_iff_pairwise_ne]
        exact hI.srt.imp fun h e=>by rw [e] at h;exact Nat.lt_irrefl _ h
       have:=Go.Aut.pig n T.stack hnd fun x hx=>(hI.rng x ((hI.mem x).1 hx).1).1
       rw [← hst] at this
       simp only [List.length_append,List.length_cons,List.length_nil] at this
       omega
      have hw7:IntKind.i64.wrap (((st'.length+1:Nat):Int) - 1)=(st'.length:Int):=by rw [wrap_i64 _ (by omega) (by omega)];omega
      have hlt7:(st'.length:Int)<((st'.length+1:Nat):Int):=by omega
      have hgt:=nints_top st' y c7
      have g1:=hS.g1
      repeat' (first | refine gA (And.intro @iaS (And.intro @hl7 (And.intro @hw7 @hgt))) ?_ | (refine gB (And.intro @iaS (And.intro @hl7 (And.intro @hw7 @hgt))) ?_;intro bb hbb;cases bb<;>(try simp only [hbs,if_false,reduceCtorEq] at hbb)) | fail)
      ·rcases hx with ⟨_,h⟩ | ⟨y',r',rfl,h⟩
       ·exfalso;omega
       ·obtain rfl:y'=v:=by omega
        exact hexit _ r' _ _ _ hst hS (by simp only [EF,lk,sv1,sv2,sv3,Nat.reduceEqDiff,Nat.reduceAdd,Nat.reduceLeDiff,reduceIte,if_false,if_true,mkVal,unLV,List.map,optTmps,e0,e3,e4,e5,e6,e7,e8,e9,e10,e27,e28,and_self])
      ·refine q_sliceS wN (j:=j7) (n:=st'.length+1) (m:=st'.length) ef ef (by omega) ?_
       repeat' (first | refine gA (And.intro @iaS @gi) ?_ | (refine gB (And.intro @iaS @gi) ?_;intro bb hbb;cases bb<;>(try simp only [hbs,if_false,reduceCtorEq] at hbb)) | fail)
       refine q_storeF (i:=0) (v:=y) (n:=n) (y:=T.idx v) (f:=pps T.part pd (T.idx v)) (f':=pps T.part (y::pd) (T.idx v)) ef ef hS.g0 hyn (fun j=>by
        by_cases h:j=y
        ·simp [pps,h]
        ·simp [pps,h]) (fun s1 n1 h1 o1=>?_)
       repeat' (first | refine gA trivial ?_ | (refine gB trivial ?_;intro bb hbb;cases bb<;>(try simp only [hbs,if_false,reduceCtorEq] at hbb)) | fail)
       refine ⟨st'.length,by simp,st',y::pd, .sref j7 0 st'.length 1,(y:Int),rfl,by rw [← hst];simp, .inr ⟨y,pd,rfl,rfl⟩,?_,(hS.pop7 rfl).row n1 h1 (by rw [o1 1 (by omega)];exact hS.g1) (by rw [o1 2 (by omega)];exact hS.g2) (by rw [o1 3 (by omega)];exact hS.g3) (fun id hid=>o1 id (by omega)) rfl,ef,ef,by simp only [EF,lk,sv1,sv2,sv3,Nat.reduceEqDiff,Nat.reduceAdd,Nat.reduceLeDiff,reduceIte,if_false,if_true,mkVal,unLV,List.map,optTmps,e0,e3,e4,e5,e6,e7,e8,e9,e10,e27,e28,and_self]⟩
       rcases hv with hv | ⟨r',rfl⟩
       ·rcases List.mem_append.1 hv with hv | hv
        ·exact .inl hv
        ·exact .inr ⟨pd,by rw [List.mem_singleton.1 hv]⟩
       ·exfalso
        rcases hx with ⟨h,_⟩ | ⟨y2,r2,h,hxy⟩
        ·cases h
        ·cases h;omega
    · -- not yet
     have hlv:T.low v<T.idx v:=by omega
     have hpath:T.popN.path=l:=by simp [S.popN,hpt]
     exact ⟨2*(n - ent.length)+l.length,by omega,T.popN,ent,[],v7, .sref j8 0 l.length 1,by rw [hpath];simp, .inl rfl, .inl hroot,hall,hI.popN hpt hdv hlv,hE.same rfl rfl,by rw [hpath,List.append_nil];exact hS.pop8.congr rfl rfl rfl rfl rfl,by simp only [EF,lk,sv1,sv2,sv3,Nat.reduceEqDiff,Nat.reduceAdd,Nat.reduceLeDiff,reduceIte,if_false,if_true,mkVal,unLV,List.map,optTmps,e0,e3,e4,e5,e6,e7,e8,e9,e10,e27,e28,S.popN,and_self]⟩
end Go.Proofs.YthcllhhldknkmaaGreatDoor
