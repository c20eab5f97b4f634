/- accept's small functions. -/
import Derived.Test.YtmblpcidfjemhaaDoorSnum
import Derived.Test.YtmblpcidfjemhaaDoorValid
import Derived.Test.YtmblpcidfjemhaaDoorBase
import Derived.Test.YtmblpcidfjemhaaDoorTarjan
set_option linter.unusedSimpArgs false
set_option linter.unusedVariables false
section
set_option linter.unusedSimpArgs false
set_option linter.unusedVariables false
namespace Go.Proofs.YtmblpcidfjemhaaDoor
open Go Go.Pv Go.Aut Go.Bfs
open Classical
def zints (l:List Nat):List Int:=l.map fun (i:Nat)=>(i:Int)
@[simp] theorem zints_length (l:List Nat):(zints l).length=l.length:=by simp [zints]
structure IsTk (v:LV) (B:Bu) (ls:List Nat) (bk:Nat) (sv nv lv:LV):Prop where
  eq:v = .agg [.int .i64 B.L,sv,nv,lv, .int .i64 (bk:Int)]
  st:IsInts sv B.start
  nx:IsNext nv B.next
  lt:IsInts lv (zints ls)
  ok:Vb B
  pos:0<ls.length
  bk:bk<ls.length
  big:ls.length≤200
  let':∀ i,i<ls.length→(ls.getD i 0:Int)<B.L
theorem IsTk.closed {v:LV} {B:Bu} {ls:List Nat} {bk:Nat} {sv nv lv:LV} (h:IsTk v B ls bk sv nv lv):v.closed=true:=by
  rw [h.eq];simp [LV.closed,LV.closed.closedAll,h.st.closed,h.nx.closed,h.lt.closed]
def bmv (B:Bu):Mv:=fun q a=>((B.next.getD q []).getD a []).map fun m=>(m.1.toNat,m.2)
end Go.Proofs.YtmblpcidfjemhaaDoor
end
section
set_option linter.unusedSimpArgs false
set_option linter.unusedVariables false
namespace Go.Proofs.YtmblpcidfjemhaaDoor
open Go Go.Pv Go.Aut Go.Bfs
open Classical
structure IsPls (v:LV) (ps:List Pl):Prop where
  sl:Sl v (pcells ps) ps.length
  len:ps.length≤1000000
structure FO (s:St) (M:Nat) (pv bv:LV) (acc:Ac Pl):Prop where
  m1:M<s.n
  gM:s.get M=some (.map (pent (acc.map (·.1)) 0))
  sp:SkC s pv 2 (pcells (acc.map (·.1))) acc.length
  sb:SkC s bv 1 (ints (acc.map (·.2))) acc.length
theorem take_snoc {α:Type} {l:List α} {i:Nat} {x:α} (h:l[i]? = some x):l.take (i+1)=l.take i++[x]:=by
  rw [List.take_add_one,h];rfl
end Go.Proofs.YtmblpcidfjemhaaDoor
end
section
set_option linter.unusedSimpArgs false
set_option linter.unusedVariables false
namespace Go.Proofs.YtmblpcidfjemhaaDoor
open Go Go.Pv Go.Aut Go.Bfs
open Classical
theorem nints_zints (l:List Nat):nints l=ints (zints l):=by simp [nints,ints,zints]
theorem nints_closed (l:List Nat):LV.closed.closedAll (nints l)=true:=by rw [nints_zints];exact ints_closed _
def RowH (s:St) (v:LV) (l:List Nat):Prop:=(v = .nils∧l=[])∨∃ j m,v = .sref j 0 l.length 1∧s.get j=some (.cells m (nints l))
theorem zints_is {l:List Nat} (hl:l.length≤1000000) (hr:∀ x∈l,x≤1000000):∀ v,Sl v (nints l) l.length→IsInts v (zints l):=fun v h=>by
  have hmx:maxLen=9223372036854775807:=by decide
  refine ⟨by rw [← nints_zints];simpa using h,by simp;omega,fun x hx=>?_⟩
  obtain ⟨i,hi,rfl⟩:=List.mem_map.1 hx
  have:=hr i hi
  constructor<;>omega
theorem frz_rowH {s:St} {v:LV} {l:List Nat} (n:Nat) (h:RowH s v l) (hl:l.length≤1000000) (hr:∀ x∈l,x≤1000000):∃ v' s',frz (n+2) v s=some (v',s')∧IsInts v' (zints l)∧s'.n=s.n∧(∀ id,¬ uses v id→s'.get id=s.get id)∧∀ id,uses v id→∃ m,s'.get id=some (.cells m (nints l)):=by
  rcases h with ⟨rfl,rfl⟩ | ⟨j,m,rfl,hg⟩
  · exact ⟨.nils,s,frz_closed rfl,zints_is hl hr _ .nil,rfl,fun _ _=>rfl,fun id hu=>absurd hu (uses_nils id)⟩
  · refine ⟨.simm (nints l) l.length,s.put j (.cells (if m = .mut then .app else m) (nints l)),?_,zints_is hl hr _ (.simm _ _),rfl,fun id hu=>by rw [St.get_put,if_neg fun e=>hu (uses_sref.2 e)],fun id hu=>by
      obtain rfl:=uses_sref.1 hu
      exact ⟨_,by rw [St.get_put,if_pos rfl]⟩⟩
    unfold frz
    simp only [LV.closed,Bool.false_eq_true,if_false,hg,Nat.zero_add,Nat.mul_one,nints_length,Nat.le_refl,if_true,frzAll_closed (nints_closed l),Option.bind_eq_bind,Option.bind_some,List.drop_zero]
    rw [List.take_of_length_le (by simp)]
theorem frz_rowsH (n:Nat):∀ (rv:List LV) (rows:List (List Nat)) (s:St),rv.length=rows.length→(∀ i,i<rows.length→RowH s (rv.getD i .top) (rows.getD i [])∧(rows.getD i []).length≤1000000∧∀ x∈rows.getD i [],x≤1000000) →
    (∀ i k,i<rows.length→k<rows.length→i≠k→∀ id,uses (rv.getD i .top) id→¬ uses (rv.getD k .top) id) →
    ∃ vs s',frz.frzAll (frz (n+2)) rv s=some (vs,s')∧vs.length=rows.length∧(∀ i,i<rows.length→IsInts (vs.getD i .top) (zints (rows.getD i [])))∧s'.n=s.n∧∀ id,(∀ i,i<rows.length→¬ uses (rv.getD i .top) id)→s'.get id=s.get id:=by
  intro rv
  induction rv with
  | nil=>
    intro rows s hl _ _
    have:rows=[]:=List.length_eq_zero_iff.1 hl.symm
    subst this
    exact ⟨[],s,rfl,rfl,fun i hi=>absurd hi (Nat.not_lt_zero _),rfl,fun _ _=>rfl⟩
  | cons v rv ih=>
    intro rows s hl h hd
    match rows,hl with
    | r :: rows, hl =>
      obtain ⟨h0,h1,h2⟩:=h 0 (by simp)
      simp only [List.getD_cons_zero] at h0 h1 h2
      obtain ⟨v',s1,a1,a2,a3,a4,a5⟩:=frz_rowH n h0 h1 h2
      obtain ⟨vs,s2,b1,b2,b3,b4,b5⟩:=ih rows s1 (by simpa using hl) (fun i hi=>by
        obtain ⟨c0,c1,c2⟩:=h (i+1) (by simpa using hi)
        simp only [List.getD_cons_succ] at c0 c1 c2
        refine ⟨?_,c1,c2⟩
        rcases c0 with c0 | ⟨j,m,c0,c3⟩
        · exact .inl c0
        · exact .inr ⟨j,m,c0,by rw [a4 j fun hu=>hd 0 (i+1) (by simp) (by simpa using hi) (by omega) j (by simpa using hu) (by simp only [List.getD_cons_succ];exact ⟨0,_,1,c0⟩)];exact c3⟩) (fun i k hi hk hne id hu=>by
        have:=hd (i+1) (k+1) (by simpa using hi) (by simpa using hk) (by omega) id (by simpa using hu)
        simpa using this)
      refine ⟨v'::vs,s2,by simp [frz.frzAll,a1,b1],by simp [b2],fun i hi=>?_,by rw [b4,a3],fun id hid=>?_⟩
      · cases i with
        | zero=>simpa using a2
        | succ i=>simpa using b3 i (by simpa using hi)
      · rw [b5 id fun i hi=>by simpa using hid (i+1) (by simpa using hi),a4 id (by simpa using hid 0 (by simp))]
end Go.Proofs.YtmblpcidfjemhaaDoor
end
section
set_option linter.unusedSimpArgs false
set_option linter.unusedVariables false
namespace Go.Proofs.YtmblpcidfjemhaaDoor
open Go Go.Pv Go.Tarjan
open Classical
structure PS (n:Nat) (T:S) (s:St) (v7 v8:LV) (pl:List Nat):Prop where
  n4:4≤s.n
  g0:s.get 0=some (.cells .mut (fcells n T.part))
  g1:s.get 1=some (.cells .mut (fcells n T.idx))
  g2:s.get 2=some (.cells .mut (fcells n T.low))
  g3:s.get 3=some (.cells .mut (fcells n T.done))
  sk7:Sk s v7 T.stack
  sk8:Sk s v8 pl
  d7:∀ id,uses v7 id→4≤id
  d8:∀ id,uses v8 id→4≤id
  dj:∀ id,uses v7 id→¬ uses v8 id
theorem PS.row {n:Nat} {T T':S} {s s':St} {v7 v8:LV} {pl:List Nat} (h:PS n T s v7 v8 pl) (hn:s'.n=s.n) (h0:s'.get 0=some (.cells .mut (fcells n T'.part))) (h1:s'.get 1=some (.cells .mut (fcells n T'.idx))) (h2:s'.get 2=some (.cells .mut (fcells n T'.low))) (h3:s'.get 3=some (.cells .mut (fcells n T'.done)))
    (ho:∀ id,4≤id→s'.get id=s.get id) (hs:T'.stack=T.stack):PS n T' s' v7 v8 pl:=
  ⟨by rw [hn];exact h.n4,h0,h1,h2,h3,by rw [hs];exact h.sk7.mono (by omega) fun id hu=>ho id (h.d7 id hu),h.sk8.mono (by omega) fun id hu=>ho id (h.d8 id hu),h.d7,h.d8,h.dj⟩
structure En (n:Nat) (T:S) (ent:List Nat):Prop where
  nd:ent.Nodup
  len:ent.length=T.cnt
  mem:∀ v,v∈ent↔T.idx v≠0
  lt:∀ v∈ent,v<n
theorem En.le {n:Nat} {T:S} {ent:List Nat} (h:En n T ent):ent.length≤n:=Go.Aut.pig n ent h.nd h.lt
theorem En.less {n:Nat} {T:S} {ent:List Nat} (h:En n T ent) {v:Nat} (hv:v<n) (h0:T.idx v=0):ent.length+1≤n:=by
  have:=Go.Aut.pig n (v::ent) (List.nodup_cons.2 ⟨fun hm=>(h.mem v).1 hm h0,h.nd⟩) fun x hx=>by
    rcases List.mem_cons.1 hx with rfl | hx
    · exact hv
    · exact h.lt x hx
  simpa using this
theorem En.enter {n:Nat} {T:S} {ent:List Nat} (h:En n T ent) {v:Nat} (hv:v<n) (h0:T.idx v=0):En n (T.enter v) (v::ent):=by
  refine ⟨List.nodup_cons.2 ⟨fun hm=>(h.mem v).1 hm h0,h.nd⟩,by simp [S.enter,h.len],fun u=>?_,fun x hx=>?_⟩
  · by_cases e:u=v
    · subst e;simp [S.enter]
    · simp only [S.enter,List.mem_cons,e,false_or,upd_other _ _ e,h.mem]
  · rcases List.mem_cons.1 hx with rfl | hx
    · exact hv
    · exact h.lt x hx
theorem En.same {n:Nat} {T T':S} {ent:List Nat} (h:En n T ent) (h1:T'.cnt=T.cnt) (h2:T'.idx=T.idx):En n T' ent:=⟨h.nd,by rw [h1];exact h.len,by rw [h2];exact h.mem,h.lt⟩
theorem sorted_cut {f:Nat→Nat} {a b:List Nat} {v:Nat} (h:(a++v::b).Pairwise fun x y=>f x<f y):(∀ w,w∈v::b↔w∈a++v::b∧f v≤f w)∧(a++v::b).filter (fun w=>decide (f w<f v))=a:=by
  obtain ⟨h1,h2,h3⟩:=List.pairwise_append.1 h
  obtain ⟨h4,h5⟩:=List.pairwise_cons.1 h2
  have ha:∀ w∈a,f w<f v:=fun w hw=>h3 w hw v (by simp)
  have hb:∀ w∈v::b,f v≤f w:=fun w hw=>by
    rcases List.mem_cons.1 hw with rfl | hw
    · exact Nat.le_refl _
    · exact Nat.le_of_lt (h4 w hw)
  refine ⟨fun w=>⟨fun hw=>⟨List.mem_append_right _ hw,hb w hw⟩,fun ⟨hw,hle⟩=>?_⟩,?_⟩
  · rcases List.mem_append.1 hw with hw | hw
    · have:=ha w hw;omega
    · exact hw
  · rw [List.filter_append,List.filter_eq_self.2 fun w hw=>by simpa using ha w hw,List.filter_eq_nil_iff.2 fun w hw=>by have:=hb w hw;simp;omega,List.append_nil]
theorem PS.congr {n:Nat} {T T':S} {s:St} {v7 v8:LV} {pl:List Nat} (h:PS n T s v7 v8 pl) (ha:T'.part=T.part) (hb:T'.idx=T.idx) (hc:T'.low=T.low) (hd:T'.done=T.done) (he:T'.stack=T.stack):PS n T' s v7 v8 pl:=
  h.row rfl (by rw [ha];exact h.g0) (by rw [hb];exact h.g1) (by rw [hc];exact h.g2) (by rw [hd];exact h.g3) (fun _ _=>rfl) he
def pps (f:Nat→Nat) (pd:List Nat) (x:Nat):Nat→Nat:=fun w=>if w∈pd then x else f w
end Go.Proofs.YtmblpcidfjemhaaDoor
end
section
set_option linter.unusedSimpArgs false
set_option linter.unusedVariables false
namespace Go.Proofs.YtmblpcidfjemhaaDoor
open Go Go.Pv Go.Aut Go.Bfs Go.Tarjan
open Classical
structure NR (n0:Nat) (s:St) (j7 n:Nat) (rows:Nat→List Nat) (rv:List LV):Prop where
  len:rv.length=n
  g:s.get j7=some (.cells .mut rv)
  lt:j7<s.n
  row:∀ i,i<n→SkC s (rv.getD i .top) 1 (nints (rows i)) (rows i).length
  low:∀ i,i<n→∀ id,uses (rv.getD i .top) id→n0≤id∧id≠j7
  dj:∀ i k,i<n→k<n→i≠k→∀ id,uses (rv.getD i .top) id→¬ uses (rv.getD k .top) id
theorem NR.keep {n0:Nat} {s s':St} {j7 n:Nat} {rows:Nat→List Nat} {rv:List LV} (h:NR n0 s j7 n rows rv) (hn:s.n≤s'.n) (hs:∀ id,id<s.n→s'.get id=s.get id):NR n0 s' j7 n rows rv:=
  ⟨h.len,by rw [hs _ h.lt];exact h.g,by have:=h.lt;omega,fun i hi=>(h.row i hi).mono hn fun id hu=>hs id ((h.row i hi).lt hu),h.low,h.dj⟩
theorem NR.congr {n0:Nat} {s:St} {j7 n:Nat} {rows rows':Nat→List Nat} {rv:List LV} (h:NR n0 s j7 n rows rv) (hr:∀ i,i<n→rows' i=rows i):NR n0 s j7 n rows' rv:=
  ⟨h.len,h.g,h.lt,fun i hi=>by rw [hr i hi];exact h.row i hi,h.low,h.dj⟩
theorem getD_set {α:Type} {l:List α} {i k:Nat} {x d:α} (h:i<l.length):(l.set i x).getD k d=if k=i then x else l.getD k d:=by
  by_cases e:k=i
  · subst e;simp [List.getD_eq_getElem?_getD,h]
  · have e':i≠k:=fun h=>e h.symm
    simp [List.getD_eq_getElem?_getD,e,e']
theorem NR.put {n0:Nat} {s s2 s3:St} {j7 n:Nat} {rows:Nat→List Nat} {rv:List LV} (h:NR n0 s j7 n rows rv) (hj0:j7<n0) (hsn:n0≤s.n) {i j:Nat} (hi:i<n) {r:List Nat} (h1:s.n≤j) (h2:SkC s2 (.sref j 0 r.length 1) 1 (nints r) r.length) (hn:s.n≤s2.n) (hs:∀ id,id<s.n→¬ uses (rv.getD i .top) id→s2.get id=s.get id)
    (hn3:s3.n=s2.n) (h3:s3.get j7=some (.cells .mut (rv.set i (.sref j 0 r.length 1)))) (ho:∀ id,id≠j7→s3.get id=s2.get id):NR n0 s3 j7 n (fun k=>if k=i then r else rows k) (rv.set i (.sref j 0 r.length 1)):=by
  have hl:=h.len
  have hlt:=h.lt
  have hg:∀ k,(rv.set i (.sref j 0 r.length 1)).getD k .top=if k=i then .sref j 0 r.length 1 else rv.getD k .top:=fun k=>getD_set (by rw [hl];exact hi)
  refine ⟨by simp [hl],h3,by omega,fun k hk=>?_,fun k hk id hu=>?_,fun k k' hk hk' hne id hu hu'=>?_⟩
  · rw [hg]
    by_cases e:k=i
    · rw [if_pos e,if_pos e]
      exact h2.mono (by omega) fun id hu=>ho id (by rw [uses_sref.1 hu];omega)
    · rw [if_neg e,if_neg e]
      exact (h.row k hk).mono (by omega) fun id hu=>by
        rw [ho id (h.low k hk id hu).2]
        exact hs id ((h.row k hk).lt hu) fun hu'=>h.dj k i hk hi e id hu hu'
  · rw [hg] at hu
    by_cases e:k=i
    · rw [if_pos e] at hu
      rw [uses_sref.1 hu]
      exact ⟨by omega,by omega⟩
    · rw [if_neg e] at hu
      exact h.low k hk id hu
  · rw [hg] at hu hu'
    by_cases e:k=i
    · rw [if_pos e] at hu
      rw [if_neg (by omega)] at hu'
      have:=(h.row k' hk').lt hu'
      rw [uses_sref.1 hu] at this
      omega
    · rw [if_neg e] at hu
      by_cases e':k'=i
      · rw [if_pos e'] at hu'
        have:=(h.row k hk).lt hu
        rw [uses_sref.1 hu'] at this
        omega
      · rw [if_neg e'] at hu'
        exact h.dj k k' hk hk' hne id hu hu'
end Go.Proofs.YtmblpcidfjemhaaDoor
end
section
set_option linter.unusedSimpArgs false
set_option linter.unusedVariables false
namespace Go.Proofs.YtmblpcidfjemhaaDoor
open Go Go.Pv Go.Aut Go.Bfs
open Classical
def firsts (B:Bu):List Pl:=B.start.map fun q=>(0,q.toNat)
theorem start_nat {B:Bu} (hok:Vb B) {z:Int} (hz:z∈B.start):(z.toNat:Int)=z∧z.toNat<B.next.length:=by
  obtain ⟨i,hi⟩:=List.mem_iff_getElem?.1 hz
  obtain ⟨h1,h2⟩:=List.getElem?_eq_some_iff.1 hi
  have:=hok.2.2.2.1 i h1
  have hg:B.start.getD i 0=z:=by rw [List.getD_eq_getElem?_getD,hi];rfl
  rw [hg] at this
  omega
theorem bmv_lt {B:Bu} (hok:Vb B) (q a:Nat) (hq:q<B.next.length):∀ m∈bmv B q a,m.1<B.next.length:=by
  intro m hm
  simp only [bmv] at hm
  obtain ⟨m',hm',rfl⟩:=List.mem_map.1 hm
  have hrow:=hok.2.2.2.2 q hq
  obtain ⟨k,hk⟩:=List.mem_iff_getElem?.1 hm'
  obtain ⟨hk1,hk2⟩:=List.getElem?_eq_some_iff.1 hk
  have ha:a<(B.next.getD q []).length:=by
    apply Classical.byContradiction
    intro hn
    have:(B.next.getD q []).getD a []=[]:=by rw [List.getD_eq_getElem?_getD,List.getElem?_eq_none (by omega)];rfl
    rw [this] at hk1
    exact absurd hk1 (Nat.not_lt_zero k)
  have:=hrow.2 a ha k hk1
  have hgd:((B.next.getD q []).getD a []).getD k (0,false)=m':=by
    rw [List.getD_eq_getElem?_getD,hk];rfl
  rw [hgd] at this
  show m'.1.toNat<_
  omega
end Go.Proofs.YtmblpcidfjemhaaDoor
end
