/- What is live, and that trimming keeps it: plain. -/
import Derived.Test.YtmblpcidfjemhaaDoorTsort
import Derived.Test.YtmblpcidfjemhaaDoorSpart
import Derived.Test.YtmblpcidfjemhaaDoorTarjan
import Derived.Test.YtmblpcidfjemhaaDoorBinsert
set_option linter.unusedSimpArgs false
set_option linter.unusedVariables false
section
set_option linter.unusedSimpArgs false
set_option linter.unusedVariables false
namespace Go.Proofs.YtmblpcidfjemhaaDoor
open Go Go.Pv Go.Aut Go.Tarjan
open Classical
theorem nd_inj {α:Type} {l:List α} (h:l.Nodup) {i j:Nat} (hi:i<l.length) (hj:j<l.length) (e:l[i]=l[j]):i=j:=by
  rw [List.nodup_iff_pairwise_ne,List.pairwise_iff_getElem] at h
  rcases Nat.lt_trichotomy i j with h1 | h1 | h1
  · exact absurd e (h i j hi hj h1)
  · exact h1
  · exact absurd e.symm (h j i hj hi h1)
theorem getD_lt' {α:Type} {l:List α} {k:Nat} {d:α} (h:k<l.length):l.getD k d=l[k]:=by simp [List.getD_eq_getElem?_getD,h]
theorem mem_nxB {B:Bu} (hok:Vb B) {q p:Nat} : p∈nxB B q↔∃ a g,(p,g)∈bmv B q a:=by
  constructor
  · intro h
    obtain ⟨x,hx,rfl⟩:=List.mem_map.1 h
    obtain ⟨_,_,g,hg⟩:=Fnd.mem_sucs.1 hx
    exact ⟨_,g,hg⟩
  · rintro ⟨a,g,h⟩
    exact List.mem_map.2 ⟨(p,(q:Int),a),Fnd.mem_sucs.2 ⟨blet hok _ _ _ h,rfl,g,h⟩,rfl⟩
theorem rch_lw {B:Bu} (hok:Vb B) {q p:Nat} (h:Rch (nxB B) q p):∃ l,Fnd.LW (bmv B) q l p:=by
  induction h with
  | refl u=>exact ⟨[], .nil u⟩
  | head e _ ih=>
    obtain ⟨l,hl⟩:=ih
    obtain ⟨a,g,hm⟩:=(mem_nxB hok).1 e
    exact ⟨a::l, .cons hm hl⟩
theorem lw_rch' {B:Bu} (hok:Vb B) {q p:Nat} {l:List Nat} (h:Fnd.LW (bmv B) q l p):Rch (nxB B) q p:=by
  induction h with
  | nil=>exact .refl _
  | cons e _ ih=>exact .head ((mem_nxB hok).2 ⟨_,_,e⟩) ih
def Ht (B:Bu) (u:Nat):Prop:=∃ a v,(v,true)∈bmv B u a∧Rch (nxB B) v u
def Lvs (B:Bu) (q:Nat):Prop:=∃ u,Rch (nxB B) q u∧Ht B u
theorem sok_lt {n:Nat} {st:List Int} (h:SOK n st):∀ i j,i<j→j<st.length→st.getD i 0<st.getD j 0:=by
  intro i j hij
  induction j with
  | zero=>omega
  | succ j ih=>
    intro hj
    have h1:=(h (j+1) hj).2.2 (by omega)
    rw [Nat.add_sub_cancel] at h1
    by_cases he:i=j
    · rw [he];exact h1
    · have:=ih (by omega) (by omega)
      omega
end Go.Proofs.YtmblpcidfjemhaaDoor
end
section
set_option linter.unusedSimpArgs false
set_option linter.unusedVariables false
namespace Go.Proofs.YtmblpcidfjemhaaDoor
open Go Go.Pv Go.Aut Go.Tarjan
open Classical
def NoHitF (B:Bu) (fr:List Nat) (k a c:Nat):Prop:=∀ k' a' c' (x:Fnd.En) m,(k'<k∨k'=k∧(a'<a∨a'=a∧c'<c))→(sall B fr)[k']? = some x→(rowAt B x.1 a')[c']? = some m→¬ SHit B x.1 m
def FindF (B:Bu) (fr:List Nat) (S L:List Nat) (ok:Bool):Prop:=
  (ok=true∧∃ (k a c:Nat) (x:Fnd.En) (m:Int × Bool) (l:List Nat),(sall B fr)[k]? = some x∧(rowAt B x.1 a)[c]? = some m∧SHit B x.1 m∧NoHitF B fr k a c∧Fnd.Wy (sall B fr) k S∧(∃ t y,(sall B [m.1.toNat])[t]? = some y∧y.1=x.1∧Fnd.Wy (sall B [m.1.toNat]) t l)∧L=a::l) ∨
  (ok=false∧S=[]∧L=[]∧NoHitF B fr (sall B fr).length 0 0)
theorem findF_of {B:Bu} {S L:List Nat} {ok:Bool} (h:FindR B S L ok):FindF B (stN B) S L ok:=h
theorem FindF.no {B:Bu} {fr S L:List Nat} (h:FindF B fr S L true):¬ NoHitF B fr (sall B fr).length 0 0:=by
  rcases h with ⟨_,k,a,c,x,m,l,h1,h2,h3,h4,h5,h6,h7⟩ | ⟨h,_⟩
  · intro hn
    exact hn k a c x m (.inl (List.getElem?_eq_some_iff.1 h1).1) h1 h2 h3
  · cases h
theorem FindF.uniq {B:Bu} (hok:Vb B) {fr S L S' L':List Nat} {ok ok':Bool} (hfr:∀ p∈fr,p<B.next.length) (h:FindF B fr S L ok) (h':FindF B fr S' L' ok'):ok=ok'∧S=S'∧L=L':=by
  have hh:=h
  have hh':=h'
  rcases h with ⟨rfl,k,a,c,x,m,l,h1,h2,h3,h4,h5,⟨t,y,h6,h7,h8⟩,rfl⟩ | ⟨rfl,rfl,rfl,hn⟩
  · rcases h' with ⟨rfl,k',a',c',x',m',l',k1,k2,k3,k4,k5,⟨t',y',k6,k7,k8⟩,rfl⟩ | ⟨rfl,rfl,rfl,hn'⟩
    · have e1:¬ (k<k'∨k=k'∧(a<a'∨a=a'∧c<c')):=fun hl=>k4 k a c x m hl h1 h2 h3
      have e2:¬ (k'<k∨k'=k∧(a'<a∨a'=a∧c'<c)):=fun hl=>h4 k' a' c' x' m' hl k1 k2 k3
      obtain rfl:k=k':=by omega
      obtain rfl:a=a':=by omega
      obtain rfl:c=c':=by omega
      rw [h1] at k1
      obtain rfl:=Option.some.inj k1
      rw [h2] at k2
      obtain rfl:=Option.some.inj k2
      obtain ⟨hRok,_,_⟩:=sall_ok hok hfr
      have hxn:x.1<B.next.length:=hRok.rng x (List.mem_of_getElem? h1)
      have hmm:(m.1.toNat,m.2)∈bmv B x.1 a:=by
        simp only [bmv]
        exact List.mem_map_of_mem (List.mem_of_getElem? h2)
      have hmn:m.1.toNat<B.next.length:=bmv_lt hok _ _ hxn _ hmm
      obtain ⟨h9,_,_⟩:=sall_ok hok (from_:=[m.1.toNat]) (fun p hp=>by rw [List.mem_singleton.1 hp];exact hmn)
      obtain rfl:=Fnd.nodup_at h9.nd h6 k6 (h7.trans k7.symm)
      exact ⟨rfl,Fnd.Wy.uniq hRok h5 k5,by rw [Fnd.Wy.uniq h9 h8 k8]⟩
    · exact absurd hn' hh.no
  · rcases h' with ⟨rfl,_⟩ | ⟨rfl,rfl,rfl,hn'⟩
    · exact absurd hn hh'.no
    · exact ⟨rfl,rfl,rfl⟩
theorem findF_iff {B:Bu} (hok:Vb B) {fr S L:List Nat} {ok:Bool} (hfr:∀ p∈fr,p<B.next.length) (h:FindF B fr S L ok):ok=true↔∃ q∈fr,Lvs B q:=by
  obtain ⟨hRok,hRcl,hRfr⟩:=sall_ok hok hfr
  constructor
  · intro hk
    rcases h with ⟨_,k,a,c,x,m,l,h1,h2,h3,h4,h5,h6,h7⟩ | ⟨h,_⟩
    · obtain ⟨_,q,hq,hw⟩:=h5.walk hRok h1
      have hmm:(m.1.toNat,m.2)∈bmv B x.1 a:=by
        simp only [bmv]
        exact List.mem_map_of_mem (List.mem_of_getElem? h2)
      rw [h3.1] at hmm
      exact ⟨q,hq,x.1,lw_rch' hok hw,a,_,hmm,h3.2.1⟩
    · rw [h] at hk;cases hk
  · rintro ⟨q,hq,u,h1,a,v,h2,h3⟩
    rcases h with ⟨h,_⟩ | ⟨_,_,_,hno⟩
    · exact h
    · exfalso
      obtain ⟨l,hl⟩:=rch_lw hok h1
      have hx:=Fnd.reach_all (n:=0) (from_:=[]) (blet hok) hRcl hl (hRfr q hq)
      obtain ⟨e,he,hex⟩:=List.mem_map.1 hx
      obtain ⟨k,hk⟩:=List.mem_iff_getElem?.1 he
      have h2':=h2
      simp only [bmv] at h2
      obtain ⟨m,hm,hme⟩:=List.mem_map.1 h2
      obtain ⟨c,hc⟩:=List.mem_iff_getElem?.1 hm
      have h5:m.1.toNat=v∧m.2=true:=by simpa using hme
      refine hno k a c e m (.inl (List.getElem?_eq_some_iff.1 hk).1) hk (by rw [hex];exact hc) ⟨h5.2,?_,?_⟩
      · rw [h5.1,hex];exact h3
      · rw [h5.1,hex];exact .one ((mem_nxB hok).2 ⟨a,true,h2'⟩)
theorem NoHitF.next_move {B:Bu} {fr:List Nat} {k a c:Nat} (h:NoHitF B fr k a c) {x:Fnd.En} {m:Int × Bool} (hx:(sall B fr)[k]? = some x) (hm:(rowAt B x.1 a)[c]? = some m) (hn:¬ SHit B x.1 m):NoHitF B fr k a (c+1):=by
  intro k' a' c' x' m' hlt hx' hm'
  by_cases he:k'=k∧a'=a∧c'=c
  · obtain ⟨rfl,rfl,rfl⟩:=he
    rw [hx] at hx';cases hx'
    rw [hm] at hm';cases hm'
    exact hn
  · exact h k' a' c' x' m' (by omega) hx' hm'
theorem NoHitF.next_letter {B:Bu} {fr:List Nat} {k a c:Nat} (h:NoHitF B fr k a c) {x:Fnd.En} (hx:(sall B fr)[k]? = some x) (hc:c=(rowAt B x.1 a).length):NoHitF B fr k (a+1) 0:=by
  intro k' a' c' x' m' hlt hx' hm'
  by_cases he:k'=k∧a'=a
  · obtain ⟨rfl,rfl⟩:=he
    rw [hx] at hx';cases hx'
    have:=(List.getElem?_eq_some_iff.1 hm').1
    exact h k' a' c' x m' (by omega) hx hm'
  · exact h k' a' c' x' m' (by omega) hx' hm'
theorem NoHitF.next_state {B:Bu} {fr:List Nat} {k a:Nat} (h:NoHitF B fr k a 0) {x:Fnd.En} (hx:(sall B fr)[k]? = some x) (ha:a=(B.next.getD x.1 []).length):NoHitF B fr (k+1) 0 0:=by
  intro k' a' c' x' m' hlt hx' hm'
  by_cases he:k'=k
  · subst he
    rw [hx] at hx';cases hx'
    have ha':a'<a:=by
      apply Classical.byContradiction
      intro hn
      have:rowAt B x.1 a'=[]:=by unfold rowAt;rw [List.getD_eq_getElem?_getD,List.getElem?_eq_none (by omega)];rfl
      rw [this] at hm';cases hm'
    exact h k' a' c' x m' (by omega) hx hm'
  · exact h k' a' c' x' m' (by omega) hx' hm'
theorem hit_has {B:Bu} (hok:Vb B) {q a c:Nat} {m:Int × Bool} (hq:q<B.next.length) (hm:(rowAt B q a)[c]? = some m) (hg:m.2=true):SHit B q m↔q∈(sall B [m.1.toNat]).map (·.1):=by
  have hmm:(m.1.toNat,m.2)∈bmv B q a:=by
    simp only [bmv]
    exact List.mem_map_of_mem (List.mem_of_getElem? hm)
  have hmn:m.1.toNat<B.next.length:=bmv_lt hok _ _ hq _ hmm
  obtain ⟨h9,h10,h11⟩:=sall_ok hok (from_:=[m.1.toNat]) (fun p hp=>by rw [List.mem_singleton.1 hp];exact hmn)
  constructor
  · rintro ⟨_,h1,_⟩
    obtain ⟨l,hl⟩:=rch_lw hok h1
    exact Fnd.reach_all (n:=0) (from_:=[]) (blet hok) h10 hl (h11 _ (by simp))
  · intro h
    obtain ⟨e,he,hex⟩:=List.mem_map.1 h
    obtain ⟨t,ht⟩:=List.mem_iff_getElem?.1 he
    obtain ⟨l,hl⟩:=h9.wy t (List.getElem?_eq_some_iff.1 ht).1
    obtain ⟨_,q2,hq2,hw2⟩:=hl.walk h9 ht
    rw [List.mem_singleton.1 hq2,hex] at hw2
    exact ⟨hg,lw_rch' hok hw2, .one ((mem_nxB hok).2 ⟨a,m.2,hmm⟩)⟩
end Go.Proofs.YtmblpcidfjemhaaDoor
end
section
set_option linter.unusedSimpArgs false
set_option linter.unusedVariables false
namespace Go.Proofs.YtmblpcidfjemhaaDoor
open Go Go.Pv
open Classical
abbrev WE:=Nat × LV × List Nat
def wcells:List WE→List LV
  | []=>[]
  | x::r=>.int .i64 (x.1:Int)::x.2.1::wcells r
theorem wcells_append:∀ a b:List WE,wcells (a++b)=wcells a++wcells b
  | [],b=>rfl
  | x::r,b=>by simp [wcells,wcells_append r b]
theorem wcells_length:∀ a:List WE,(wcells a).length=a.length*2
  | []=>rfl
  | x::r=>by simp [wcells,wcells_length r];omega
theorem wcells_take:∀ {l:List WE} {k:Nat} {x:WE},l[k]? = some x→((wcells l).drop (k*2)).take 2=[.int .i64 (x.1:Int),x.2.1]:=by
  intro l
  induction l with
  | nil=>intro k x h;simp at h
  | cons y r ih=>
    intro k x h
    cases k with
    | zero=>
      have:y=x:=by simpa using h
      subst this
      simp [wcells]
    | succ k=>
      have h':r[k]? = some x:=by simpa using h
      have e:(k+1)*2=k*2+1+1:=by omega
      rw [e,wcells,List.drop_succ_cons,List.drop_succ_cons]
      exact ih h'
theorem wcells_0 {l:List WE} {k:Nat} {x:WE} (h:l[k]? = some x):(wcells l)[k*2]? = some (.int .i64 (x.1:Int)):=by
  have h1:=wcells_take h
  have h2:(((wcells l).drop (k*2)).take 2)[0]? = some (.int .i64 (x.1:Int)):=by rw [h1];rfl
  rw [List.getElem?_take,if_pos (by decide),List.getElem?_drop,Nat.add_zero] at h2
  exact h2
theorem wcells_1 {l:List WE} {k:Nat} {x:WE} (h:l[k]? = some x):(wcells l)[k*2+1]? = some x.2.1:=by
  have h1:=wcells_take h
  have h2:(((wcells l).drop (k*2)).take 2)[1]? = some x.2.1:=by rw [h1];rfl
  rw [List.getElem?_take,if_pos (by decide),List.getElem?_drop] at h2
  exact h2
def WOK (l:List WE):Prop:=∀ x∈l,IsInts x.2.1 (zints x.2.2)
theorem wcells_cl:∀ {l:List WE},WOK l→LV.closed.closedAll (wcells l)=true
  | [],_=>rfl
  | x::r,h=>by
    have h1:=(h x (by simp)).closed
    have h2:=wcells_cl (l:=r) fun y hy=>h y (List.mem_cons_of_mem _ hy)
    simp [wcells,LV.closed.closedAll,h1,h2,LV.closed]
theorem WOK.app {l:List WE} {x:WE} (h:WOK l) (hx:IsInts x.2.1 (zints x.2.2)):WOK (l++[x]):=fun y hy=>by
  rcases List.mem_append.1 hy with hy | hy
  · exact h y hy
  · rw [List.mem_singleton.1 hy];exact hx
def wsOf (l:List WE):List (Nat × List Nat):=l.map fun x=>(x.1,x.2.2)
def plW:List WE→Nat→Nat→Option Nat
  | [],_,_=>none
  | x::r,q,i=>if x.1=q then some i else plW r q (i+1)
theorem plW_first {q:Nat} : ∀ {l:List WE} {i b:Nat} {x:WE},(∀ (k:Nat) (y:WE),k<i→l[k]? = some y→y.1≠q)→l[i]? = some x→x.1=q→plW l q b=some (b+i):=by
  intro l
  induction l with
  | nil=>intro i b x _ h;simp at h
  | cons y r ih=>
    intro i b x hno h hx
    cases i with
    | zero=>
      have:y=x:=by simpa using h
      subst this
      simp [plW,hx]
    | succ i=>
      have hq:¬ y.1=q:=hno 0 y (by omega) rfl
      simp only [plW,hq,if_false]
      rw [ih (i:=i) (b:=b+1) (x:=x) (fun k z hk hz=>hno (k+1) z (by omega) (by simpa using hz)) (by simpa using h) hx]
      congr 1;omega
theorem plW_none {q:Nat} : ∀ {l:List WE} {b:Nat},(∀ (k:Nat) (y:WE),l[k]? = some y→y.1≠q)→plW l q b=none:=by
  intro l
  induction l with
  | nil=>intro b _;rfl
  | cons y r ih=>
    intro b hno
    have hq:¬ y.1=q:=hno 0 y rfl
    simp only [plW,hq,if_false]
    exact ih fun k z hz=>hno (k+1) z (by simpa using hz)
theorem plW_some {q:Nat} : ∀ {l:List WE} {b i:Nat},plW l q b=some i→∃ (k:Nat) (x:WE),i=b+k∧l[k]? = some x∧x.1=q:=by
  intro l
  induction l with
  | nil=>intro b i h;cases h
  | cons y r ih=>
    intro b i h
    by_cases hq:y.1=q
    · simp only [plW,hq,if_true] at h
      exact ⟨0,y,by simpa using h.symm,rfl,hq⟩
    · simp only [plW,hq,if_false] at h
      obtain ⟨k,x,h1,h2,h3⟩:=ih h
      exact ⟨k+1,x,by omega,by simpa using h2,h3⟩
theorem plW_mem {q:Nat} {l:List WE} {b:Nat} : plW l q b=none↔q ∉ l.map (·.1):=by
  constructor
  · intro h hm
    obtain ⟨x,hx,he⟩:=List.mem_map.1 hm
    revert h
    induction l generalizing b with
    | nil=>cases hx
    | cons y r ih=>
      intro h
      by_cases hq:y.1=q
      · simp [plW,hq] at h
      · simp only [plW,hq,if_false] at h
        rcases List.mem_cons.1 hx with rfl | hx
        · exact hq he
        · exact ih (List.mem_map.2 ⟨x,hx,he⟩) hx h
  · intro h
    exact plW_none fun k y hk hy=>h (List.mem_map.2 ⟨y,List.mem_of_getElem? hk,hy⟩)
def hasW (l:List WE) (q:Nat):Int:=match plW l q 0 with | some i=>(i:Int) | none=>-1
theorem q_appW {P:Program} {G:Globs} {K:Env→St→Prop} {l:List LOper} {e:Env} {s:St} {fl fl':Bool} {chk:List (Nat × Option (Nat × Bool) × LOp)} {a b bytes n:Nat} {x y:Opd} {z:List LV} {q:Int} {lv yv:LV} {cells:List LV} {T:Nat→Prop} {R:LV→Prop} (hx:x.ev e = .agg [.int .i64 q,lv]) (hcl:isCell lv=true) (hz:z.length=2) (hy:y.ev (Tr.set e a (.sref s.n 0 1 2))=yv) (hs:SkE s yv 2 cells n) (hF:FZ T R frzDepth lv s) (hT:∀ id,T id→id<s.n∧¬ uses yv id) (hck:Chks chk (Tr.set e a (.sref s.n 0 1 2)) (s.new (.cells .mut [.int .i64 q,lv]))) (hb:bytes≤2 ^ 10) (hl:n≤2 ^ 20)
    (h:∀ s' j v',s.n≤j→R v'→SkC s' (.sref j 0 (n+1) 2) 2 (cells++[.int .i64 q,v']) (n+1)→s.n≤s'.n→(∀ id,id<s.n→¬ uses yv id→¬ T id→s'.get id=s.get id)→W P G K l (Tr.set (Tr.set e a (.sref s.n 0 1 2)) b (.sref j 0 (n+1) 2)) s') :
    W P G K (⟨some a, .bslice 2 1 z [(0,(2,x))],none,chk,fl⟩::⟨some b, .append 2 bytes y (.t a),none,[],fl'⟩::l) e s:=by
  have hcx:cells? (.agg [.int .i64 q,lv])=some [.int .i64 q,lv]:=by
    rw [cells_agg,if_pos]
    show (true && (isCell lv && true))=true
    rw [hcl];rfl
  have hfill:fillParts (rep 1 z) (evParts e [(0,(2,x))])=some [.int .i64 q,lv]:=by
    have h1:splice z 0 [.int .i64 q,lv]=[.int .i64 q,lv]:=splice_all (vs:=[.int .i64 q,lv]) (z:=z) (by rw [hz];rfl)
    have hr1:rep 1 z=z:=by simp [rep]
    simp only [evParts,List.map,hr1,fillParts,hx,hcx]
    rw [if_pos ⟨rfl,by rw [hz];simp⟩,h1]
  refine q_gen (v:=.sref s.n 0 1 2) (s':=s.new (.cells .mut [.int .i64 q,lv])) rfl (by simp only [LOp.run,hfill,Option.bind_eq_bind,Option.bind_some]) (by cases fl<;>rfl) hck ?_
  simp only [Env.put_some]
  have hr:rowOf (s.new (.cells .mut [.int .i64 q,lv])) 2 1 (.sref s.n 0 1 2)=some [.int .i64 q,lv]:=by
    simp [rowOf,St.get_new]
  obtain ⟨v',s2,f1,f2,f3,f4⟩:=hF (s.new (.cells .mut [.int .i64 q,lv])) fun id hid=>by rw [St.get_new,if_neg (by have:=(hT id hid).1;omega)]
  have hft:frzTry [.int .i64 q,lv] (s.new (.cells .mut [.int .i64 q,lv]))=([.int .i64 q,v'],s2):=by
    have h2:∀ s,frz frzDepth (.int .i64 q) s=some (.int .i64 q,s):=fun s=>frzD_closed rfl
    simp [frzTry,frz.frzAll,f1,h2]
  have hk2:∀ id,id<s.n→¬ T id→s2.get id=s.get id:=fun id h1 h2=>by rw [f4 id h2,St.get_new,if_neg (by omega)]
  have hn2:s2.n=s.n+1:=by rw [f3,St.n_new]
  have hbig:(n+1)*bytes≤big:=by
    have:(n+1)*bytes≤(2 ^ 20+1)*2 ^ 10:=Nat.mul_le_mul (by omega) hb
    unfold big;omega
  obtain ⟨hcl0,hs⟩:=hs
  have hlen':(cells++[.int .i64 q,v']).length=(n+1)*2:=by rw [List.length_append,hcl0,Nat.add_mul];rfl
  rcases hs with ⟨rfl,rfl⟩ | ⟨j,rfl,h2,h3⟩
  · have hc0:cells=[]:=List.length_eq_zero_iff.1 (by rw [hcl0])
    subst hc0
    have hap:appendLV 2 bytes .nils [.int .i64 q,v'] 1 s2=some (.sref (s.n+1) 0 1 2,s2.new (.cells .mut [.int .i64 q,v'])):=by
      simp only [appendLV]
      rw [if_neg (by omega),if_pos ⟨by simpa using hbig,by simp⟩,hn2]
    refine q_append rfl hy (by simp) rfl hr hft hap ?_
    refine h _ (s.n+1) v' (by omega) f2 ⟨hlen', .inr ⟨s.n+1,rfl,by omega,by rw [St.n_new];omega,by rw [St.get_new,if_pos (by omega)];rfl⟩⟩ (by rw [St.n_new];omega) fun id hid _ ht=>?_
    rw [St.get_new,if_neg (by omega)]
    exact hk2 id hid ht
  · have hg:s2.get j=some (.cells .mut cells):=by rw [hk2 j h2 fun ht=>(hT j ht).2 (uses_sref.2 rfl)];exact h3
    have hap:appendLV 2 bytes (.sref j 0 n 2) [.int .i64 q,v'] 1 s2=some (.sref (s.n+1) 0 (n+1) 2,(s2.put j (.cells .ro [])).new (.cells .mut (cells++[.int .i64 q,v']))):=by
      simp only [appendLV,if_true,hg,Nat.zero_add,hcl0,Nat.le_refl,hbig,List.length_cons,List.length_nil,Nat.one_mul,and_self,List.drop_zero]
      rw [List.take_of_length_le (by omega),← hn2]
      rfl
    refine q_append rfl hy (by simp) rfl hr hft hap ?_
    refine h _ (s.n+1) v' (by omega) f2 ⟨hlen', .inr ⟨s.n+1,rfl,by omega,by rw [St.n_new,St.n_put];omega,by rw [St.get_new,St.n_put,if_pos (by omega)]⟩⟩ (by rw [St.n_new,St.n_put];omega) fun id hid hu ht=>?_
    have hne:id≠j:=fun e=>hu (uses_sref.2 e)
    rw [St.get_new,St.n_put,if_neg (by omega),St.get_put,if_neg hne]
    exact hk2 id hid ht
theorem q_appB {P:Program} {G:Globs} {K:Env→St→Prop} {l:List LOper} {e:Env} {s:St} {fl:Bool} {chk:List (Nat × Option (Nat × Bool) × LOp)} {d a i j bytes:Nat} {x y:Opd} {v:LV} {A:List LV} (hx:x.ev e = .sref j 0 a 1) (hg:s.get j=some (.cells .mut A)) (ha:A.length=a) (hy:y.ev e = .sref i 0 1 1) (hi:s.get i=some (.cells .mut [v])) (hc:v.closed=true) (hbt:bytes≤2 ^ 10) (hb:a+1≤2 ^ 20)
    (hck:∀ s':St,s'.n=s.n+1→(∀ id,id<s.n→id≠j→s'.get id=s.get id)→Chks chk (Tr.set e d (.sref s.n 0 (a+1) 1)) s')
    (h:∀ s':St,s'.n=s.n+1→s'.get s.n=some (.cells .mut (A++[v]))→(∀ id,id<s.n→id≠j→s'.get id=s.get id)→W P G K l (Tr.set e d (.sref s.n 0 (a+1) 1)) s'):W P G K (⟨some d, .append 1 bytes x y,none,chk,fl⟩::l) e s:=by
  have hlen:lenLV (.sref i 0 1 1)=some 1:=rfl
  have hrow:rowOf s 1 1 (.sref i 0 1 1)=some [v]:=by
    simp [rowOf,hi]
  have hcc:LV.closed.closedAll [v]=true:=by simp [LV.closed.closedAll,hc]
  have b1:((s.put j (.cells .ro [])).new (.cells .mut (A++[v]))).n=s.n+1:=rfl
  have b2:((s.put j (.cells .ro [])).new (.cells .mut (A++[v]))).get s.n=some (.cells .mut (A++[v])):=by rw [St.get_new,St.n_put,if_pos rfl]
  have b3:∀ id,id<s.n→id≠j→((s.put j (.cells .ro [])).new (.cells .mut (A++[v]))).get id=s.get id:=fun id h1 h2=>by rw [St.get_new,St.n_put,if_neg (by omega),St.get_put,if_neg h2]
  have hbig:(a+1)*bytes≤big:=by
    have:(a+1)*bytes≤2 ^ 20*2 ^ 10:=Nat.mul_le_mul hb hbt
    unfold big;omega
  have hap:appendLV 1 bytes (.sref j 0 a 1) [v] 1 s=some (.sref s.n 0 (a+1) 1,(s.put j (.cells .ro [])).new (.cells .mut (A++[v]))):=by
    simp only [appendLV,if_true,hg,Nat.zero_add,ha,Nat.mul_one,Nat.le_refl,hbig,List.length_singleton,and_self,List.drop_zero]
    rw [← ha,List.take_length]
    rfl
  exact q_gen (v:=.sref s.n 0 (a+1) 1) (s':=(s.put j (.cells .ro [])).new (.cells .mut (A++[v]))) rfl (by simp [LOp.run,hx,hy,hlen,hrow,frzTry_all hcc,hap]) (by cases fl<;>rfl) (hck _ b1 b3) (h _ b1 b2 b3)
theorem hasW_neg {l:List WE} {q:Nat} : hasW l q<0↔q ∉ l.map (·.1):=by
  rw [← plW_mem (b:=0)]
  unfold hasW
  cases plW l q 0 with
  | none=>simp
  | some i=>simp
end Go.Proofs.YtmblpcidfjemhaaDoor
end
section
set_option linter.unusedSimpArgs false
set_option linter.unusedVariables false
namespace Go.Proofs.YtmblpcidfjemhaaDoor
open Go Go.Pv
open Classical
theorem hasW_first {q i:Nat} {l:List WE} {x:WE} (hno:∀ (k:Nat) (y:WE),k<i→l[k]? = some y→y.1≠q) (h:l[i]? = some x) (hx:x.1=q):hasW l q=(i:Int):=by
  unfold hasW
  rw [plW_first hno h hx]
  simp
theorem sl_cl {v:LV} {cells:List LV} {n:Nat} (h:Sl v cells n) (hc:LV.closed.closedAll cells=true):v.closed=true:=by
  cases h<;>first | rfl | simpa [LV.closed] using hc
theorem ways_cl {v:LV} {es:List WE} (hS:Sl v (wcells es) es.length) (hw:WOK es):v.closed=true:=sl_cl hS (wcells_cl hw)
theorem hasW_none {q:Nat} {l:List WE} (hno:∀ (k:Nat) (y:WE),k<l.length→l[k]? = some y→y.1≠q):hasW l q = -1:=by
  unfold hasW
  rw [plW_none fun k y hk=>hno k y (List.getElem?_eq_some_iff.1 hk).1 hk]
set_option maxHeartbeats 8000000 in
theorem has_call {s0:St} {lv:LV} {es:List WE} (hS:SkE s0 lv 2 (wcells es) es.length) (hp:es.length≤100000) (q:Nat) :
    CallOk Tryd.prog GL (.fn (.func 42) [] []) [lv, .int .i64 (q:Int)] s0 (fun r s'=>r = .int .i64 (hasW es q)∧s'=s0):=by
  refine call_fn (first:=[]) (caps:=[]) Tryd.func42 (by decide +kernel) c42 (Nat.le_of_ble_eq_true rfl) (CodeOk.mono (Q:=fun o e s'=>(o = .normal∨o = .jmp .ret)∧e.at 4 = .int .i64 (hasW es q)∧s'=s0) ?_ fun o e s' hh=>by
    obtain ⟨h1,h2,h3⟩:=hh
    exact ⟨h1, .int .i64 (hasW es q),by simp [l42,resVal,resOne,h2],rfl,h3⟩)
  have e0:(envOf ([]++[lv,LV.int .i64 (q:Int)]++[])).at 0=lv:=by rw [envOf_at];rfl
  have e1:(envOf ([]++[lv,LV.int .i64 (q:Int)]++[])).at 1 = .int .i64 (q:Int):=by rw [envOf_at];rfl
  generalize envOf ([]++[lv,LV.int .i64 (q:Int)]++[])=e at *
  have hll:=hS.len
  refine Cd.out ?_
  unfold l42
  dsimp only [jA,qF,qS,qI,qA,qB,qC,qm,ql]
  repeat' (first | refine gA trivial ?_ | (refine gB trivial ?_;intro bb hbb;cases bb<;>(try simp only [hbs,if_false,reduceCtorEq] at hbb)) | apply qc_seq | fail)
  refine qc_loop (fun m e s=>∃ (i:Nat),m=es.length - i∧i≤es.length∧s=s0∧(∀ (k:Nat) (y:WE),k<i→es[k]? = some y→y.1≠q)∧e.at 0=lv∧e.at 1 = .int .i64 (q:Int)∧e.at 5 = .int .i64 (i:Int)) _
    ⟨0,rfl,by omega,rfl,fun k y hk=>absurd hk (Nat.not_lt_zero _),ef,ef,by simp only [lk,sv1,sv2,sv3,Nat.reduceEqDiff,Nat.reduceAdd,Nat.reduceLeDiff,reduceIte,if_false,if_true,mkVal,unLV,List.map,optTmps];rfl⟩ ?_
  clear e0 e1
  clear e
  rintro m e s ⟨i,rfl,hi,rfl,hno,e0,e1,e5⟩
  by_cases hil:i<es.length
  · have hiI:(i:Int)<(es.length:Int):=by omega
    have hwi:IntKind.i64.wrap ((i:Int)+1)=((i+1:Nat):Int):=by rw [wrap_i64 _ (by omega) (by omega)];rfl
    obtain ⟨x,hx⟩:∃ x,es[i]? = some x:=⟨_,List.getElem?_eq_getElem hil⟩
    obtain ⟨j,hlv,hj,hg⟩:=hS.pos (by omega)
    have hld:=load_ref hg (wcells_0 hx)
    subst hlv
    repeat' (first | refine gA (And.intro @hll (And.intro @iaS @hld)) ?_ | (refine gB (And.intro @hll (And.intro @iaS @hld)) ?_;intro bb hbb;cases bb<;>(try simp only [hbs,if_false,reduceCtorEq] at hbb)) | apply qc_seq | fail)
    · exfalso;omega
    · have hne:¬ (x.1:Int)=(q:Int):=by assumption
      refine ⟨es.length - (i+1),by omega,i+1,rfl,by omega,by first | trivial | rfl,fun k y hk hy=>?_,?_⟩
      · by_cases h:k<i
        · exact hno k y h hy
        · obtain rfl:k=i:=by omega
          rw [hx] at hy
          obtain rfl:=Option.some.inj hy
          omega
      · simp only [lk,sv1,sv2,sv3,Nat.reduceEqDiff,Nat.reduceAdd,Nat.reduceLeDiff,reduceIte,if_false,if_true,mkVal,unLV,List.map,optTmps,hwi,e0,e1,and_self]
    · have hxq:(x.1:Int)=(q:Int):=by assumption
      rw [hasW_first hno hx (by omega)]
      exact ⟨.inr trivial,ef,by first | trivial | rfl⟩
  · obtain rfl:i=es.length:=by omega
    rw [hasW_none hno]
    repeat' (first | refine gA @hll ?_ | (refine gB @hll ?_;intro bb hbb;cases bb<;>(try simp only [hbs,if_false,reduceCtorEq] at hbb)) | apply qc_seq | fail)
    · exact ⟨.inr trivial,ef,by first | trivial | rfl⟩
    · exfalso;omega
set_option maxHeartbeats 8000000 in
theorem has_ok {v:LV} {es:List WE} (hS:Sl v (wcells es) es.length) (hw:WOK es) (hp:es.length≤100000) (q:Nat) :
    PE 42 [v, .int .i64 (q:Int)] (fun r=>r = .int .i64 (hasW es q)):=by
  have hvc:=ways_cl hS hw
  have hll:=hS.len
  refine q_fnEx (t:=4) hm Tryd.func42 (by decide +kernel) c42 (Nat.le_of_ble_eq_true rfl) (by simp [LV.closed.closedAll,hvc,LV.closed]) rfl ?_
  have e0:(envOf [v,LV.int .i64 (q:Int)]).at 0=v:=by rw [envOf_at];rfl
  have e1:(envOf [v,LV.int .i64 (q:Int)]).at 1 = .int .i64 (q:Int):=by rw [envOf_at];rfl
  generalize envOf [v,LV.int .i64 (q:Int)]=e at *
  unfold l42
  dsimp only [jA,qF,qS,qI,qA,qB,qC,qm,ql]
  repeat' (first | refine gA trivial ?_ | (refine gB trivial ?_;intro bb hbb;cases bb<;>(try simp only [hbs,if_false,reduceCtorEq] at hbb)) | apply qc_seq | fail)
  refine qc_loop (fun m e s=>∃ (i:Nat),m=es.length - i∧i≤es.length∧(∀ (k:Nat) (y:WE),k<i→es[k]? = some y→y.1≠q)∧e.at 0=v∧e.at 1 = .int .i64 (q:Int)∧e.at 5 = .int .i64 (i:Int)) _
    ⟨0,rfl,by omega,fun k y hk=>absurd hk (Nat.not_lt_zero _),ef,ef,by simp only [lk,sv1,sv2,sv3,Nat.reduceEqDiff,Nat.reduceAdd,Nat.reduceLeDiff,reduceIte,if_false,if_true,mkVal,unLV,List.map,optTmps];rfl⟩ ?_
  clear e0 e1
  clear e
  rintro m e s ⟨i,rfl,hi,hno,e0,e1,e5⟩
  by_cases hil:i<es.length
  · have hiI:(i:Int)<(es.length:Int):=by omega
    have hwi:IntKind.i64.wrap ((i:Int)+1)=((i+1:Nat):Int):=by rw [wrap_i64 _ (by omega) (by omega)];rfl
    obtain ⟨x,hx⟩:∃ x,es[i]? = some x:=⟨_,List.getElem?_eq_getElem hil⟩
    have hld:=wcells_0 hx
    repeat' (first | refine gA (And.intro @hll (And.intro (@iaN _ _ _ hS) @hld)) ?_ | (refine gB (And.intro @hll (And.intro (@iaN _ _ _ hS) @hld)) ?_;intro bb hbb;cases bb<;>(try simp only [hbs,if_false,reduceCtorEq] at hbb)) | apply qc_seq | fail)
    · exfalso;omega
    · have hne:¬ (x.1:Int)=(q:Int):=by assumption
      refine ⟨es.length - (i+1),by omega,i+1,rfl,by omega,fun k y hk hy=>?_,?_⟩
      · by_cases h:k<i
        · exact hno k y h hy
        · obtain rfl:k=i:=by omega
          rw [hx] at hy
          obtain rfl:=Option.some.inj hy
          omega
      · simp only [lk,sv1,sv2,sv3,Nat.reduceEqDiff,Nat.reduceAdd,Nat.reduceLeDiff,reduceIte,if_false,if_true,mkVal,unLV,List.map,optTmps,hwi,e0,e1,and_self]
    · have hxq:(x.1:Int)=(q:Int):=by assumption
      rw [hasW_first hno hx (by omega)]
      exact ⟨.inr trivial, .int .i64 (i:Int),s,by simp only [lk,sv1,sv2,sv3,Nat.reduceEqDiff,Nat.reduceAdd,Nat.reduceLeDiff,reduceIte,if_false,if_true,mkVal,unLV,List.map,optTmps,e5];exact frzD_closed rfl,rfl,rfl⟩
  · obtain rfl:i=es.length:=by omega
    rw [hasW_none hno]
    repeat' (first | refine gA @hll ?_ | (refine gB @hll ?_;intro bb hbb;cases bb<;>(try simp only [hbs,if_false,reduceCtorEq] at hbb)) | apply qc_seq | fail)
    · exact ⟨.inr trivial, .int .i64 (-1),s,by simp only [lk,sv1,sv2,sv3,Nat.reduceEqDiff,Nat.reduceAdd,Nat.reduceLeDiff,reduceIte,if_false,if_true,mkVal,unLV,List.map,optTmps];exact frzD_closed rfl,rfl,rfl⟩
    · exfalso;omega
end Go.Proofs.YtmblpcidfjemhaaDoor
end
