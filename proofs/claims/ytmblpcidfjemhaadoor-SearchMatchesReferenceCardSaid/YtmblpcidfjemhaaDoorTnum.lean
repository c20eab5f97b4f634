/- buchi.automaton's number: states are numbered in the order in which they are met. -/
import Derived.Test.YtmblpcidfjemhaaDoorValid
import Derived.Test.YtmblpcidfjemhaaDoorLitr
import Derived.Test.YtmblpcidfjemhaaDoorTarjan
import Derived.Test.YtmblpcidfjemhaaDoorPvQ
set_option linter.unusedSimpArgs false
set_option linter.unusedVariables false
section
set_option linter.unusedSimpArgs false
set_option linter.unusedVariables false
namespace Go.Proofs.YtmblpcidfjemhaaDoor
open Go Go.Pv Go.Bfs
open Classical
def ient:List Nat→Nat→List (LV × LV)
  | [],_=>[]
  | p::r,i=>(.int .i64 (p:Int), .int .i64 (i:Int))::ient r (i+1)
def addN (ps:List Nat) (p:Nat):List Nat:=if p∈ps then ps else ps++[p]
def numN (ps:List Nat) (p:Nat):Nat:=(idx p ps 0).getD 0
structure NT (n0:Nat) (Kp:Nat→Prop) (s0 s:St) (ja jb M:Nat) (pv:LV) (ps:List Nat):Prop where
  le:n0≤s.n
  a0:n0≤ja
  a1:ja<s.n
  b0:n0≤jb
  b1:jb<s.n
  m0:n0≤M
  m1:M<s.n
  ab:ja≠jb
  ma:M≠ja
  mb:M≠jb
  ga:s.get ja=some (.cells .mut [.mref M])
  gb:s.get jb=some (.cells .mut [pv])
  gM:s.get M=some (.map (ient ps 0))
  sp:SkC s pv 1 (nints ps) ps.length
  dp:∀ id,uses pv id→n0≤id∧id≠ja∧id≠jb∧id≠M
  kp:∀ id,Kp id→id<s.n∧id≠ja∧id≠jb∧id≠M∧¬ uses pv id
  old:∀ id,Kp id→s.get id=s0.get id
theorem NT.keep {n0:Nat} {Kp:Nat→Prop} {s0 s s':St} {ja jb M:Nat} {pv:LV} {ps:List Nat} (h:NT n0 Kp s0 s ja jb M pv ps) (hn:s.n≤s'.n) (hs:∀ id,id<s.n→s'.get id=s.get id):NT n0 Kp s0 s' ja jb M pv ps:=by
  have h1:=h.a1
  have h2:=h.b1
  have h3:=h.m1
  have h4:=h.le
  exact ⟨by omega,h.a0,by omega,h.b0,by omega,h.m0,by omega,h.ab,h.ma,h.mb,by rw [hs _ h1];exact h.ga,by rw [hs _ h2];exact h.gb,by rw [hs _ h3];exact h.gM,h.sp.mono hn fun id hu=>hs id (h.sp.lt hu),h.dp,
    fun id hk=>by have:=h.kp id hk;exact ⟨by omega,this.2⟩,fun id hk=>by rw [hs id (h.kp id hk).1];exact h.old id hk⟩
theorem NT.rebase {n0:Nat} {Kp Kp':Nat→Prop} {s0 s0' s:St} {ja jb M:Nat} {pv:LV} {ps:List Nat} (h:NT n0 Kp s0 s ja jb M pv ps) (hk:∀ id,Kp' id→id<s.n∧id≠ja∧id≠jb∧id≠M∧¬ uses pv id) (ho:∀ id,Kp' id→s.get id=s0'.get id):NT n0 Kp' s0' s ja jb M pv ps:=
  ⟨h.le,h.a0,h.a1,h.b0,h.b1,h.m0,h.m1,h.ab,h.ma,h.mb,h.ga,h.gb,h.gM,h.sp,h.dp,hk,ho⟩
end Go.Proofs.YtmblpcidfjemhaaDoor
end
section
set_option linter.unusedSimpArgs false
set_option linter.unusedVariables false
namespace Go.Proofs.YtmblpcidfjemhaaDoor
open Go Go.Pv Go.Bfs
open Classical
def Pre (a b:List Nat):Prop:=∃ t,b=a++t
theorem Pre.refl (a:List Nat):Pre a a:=⟨[],by simp⟩
theorem Pre.trans {a b c:List Nat} (h:Pre a b) (k:Pre b c):Pre a c:=by
  obtain ⟨t,rfl⟩:=h
  obtain ⟨u,rfl⟩:=k
  exact ⟨t++u,by simp⟩
theorem Pre.mem {a b:List Nat} (h:Pre a b) {x:Nat} (hx:x∈a):x∈b:=by
  obtain ⟨t,rfl⟩:=h
  exact List.mem_append_left _ hx
theorem idx_pre {p:Nat} : ∀ {l:List Nat} (t:List Nat) {i:Nat},p∈l→idx p (l++t) i=idx p l i:=by
  intro l
  induction l with
  | nil=>intro t i h;cases h
  | cons q r ih=>
    intro t i h
    simp only [List.cons_append,idx]
    by_cases hq:p=q
    · simp [hq]
    · simp only [hq,if_false]
      exact ih t ((List.mem_cons.1 h).resolve_left hq)
theorem numN_pre {a b:List Nat} (h:Pre a b) {p:Nat} (hp:p∈a):numN b p=numN a p:=by
  obtain ⟨t,rfl⟩:=h
  rw [numN,numN,idx_pre t hp]
theorem addN_pre (a:List Nat) (p:Nat):Pre a (addN a p):=by
  unfold addN
  split
  · exact .refl a
  · exact ⟨[p],rfl⟩
theorem addN_mem (a:List Nat) (p:Nat):p∈addN a p:=by
  unfold addN
  split
  · assumption
  · simp
def addsN (ps l:List Nat):List Nat:=l.foldl addN ps
theorem addsN_snoc (ps l:List Nat) (p:Nat):addsN ps (l++[p])=addN (addsN ps l) p:=by simp [addsN]
theorem addsN_append (ps l r:List Nat):addsN ps (l++r)=addsN (addsN ps l) r:=by simp [addsN]
theorem addsN_pre:∀ (l ps:List Nat),Pre ps (addsN ps l)
  | [],ps=>.refl ps
  | p::l,ps=>(addN_pre ps p).trans (addsN_pre l (addN ps p))
theorem addsN_mem {l:List Nat} : ∀ {ps:List Nat} {p:Nat},p∈l→p∈addsN ps l:=by
  induction l with
  | nil=>intro ps p h;cases h
  | cons a l ih=>
    intro ps p h
    rcases List.mem_cons.1 h with rfl | h
    · exact (addsN_pre l (addN ps p)).mem (addN_mem ps p)
    · exact ih h
theorem addsN_in {R:Nat→Prop} {l:List Nat} : ∀ {ps:List Nat},(∀ p∈ps,R p)→(∀ p∈l,R p)→∀ p∈addsN ps l,R p:=by
  induction l with
  | nil=>intro ps h _;exact h
  | cons a l ih=>
    intro ps h hl
    refine ih (fun p hp=>?_) fun p hp=>hl p (List.mem_cons_of_mem _ hp)
    unfold addN at hp
    split at hp
    · exact h p hp
    · rcases List.mem_append.1 hp with hp | hp
      · exact h p hp
      · rw [List.mem_singleton.1 hp];exact hl a (by simp)
theorem addsN_nd {l:List Nat} : ∀ {ps:List Nat},ps.Nodup→(addsN ps l).Nodup:=by
  induction l with
  | nil=>intro ps h;exact h
  | cons a l ih=>
    intro ps h
    refine ih ?_
    unfold addN
    split
    · exact h
    · rename_i hn
      rw [List.nodup_append]
      exact ⟨h,by simp,fun x hx y hy e=>by
        rw [List.mem_singleton.1 hy] at e
        exact hn (e ▸ hx)⟩
def runN (succ:Nat→List Nat):Nat→Nat→List Nat→List Nat
  | 0,_,ps=>ps
  | f+1,k,ps=>match ps[k]? with
    | none=>ps
    | some p=>runN succ f (k+1) (addsN ps (succ p))
theorem runN_pre (succ:Nat→List Nat):∀ (f k:Nat) (ps:List Nat),Pre ps (runN succ f k ps):=by
  intro f
  induction f with
  | zero=>intro k ps;exact .refl ps
  | succ f ih=>
    intro k ps
    simp only [runN]
    split
    · exact .refl ps
    · exact (addsN_pre _ _).trans (ih _ _)
theorem runN_ok {succ:Nat→List Nat} {N:Nat} (hs:∀ p,p<N→∀ q∈succ p,q<N):∀ (f k:Nat) (ps:List Nat),ps.Nodup→(∀ p∈ps,p<N)→(∀ i p,i<k→ps[i]? = some p→∀ q∈succ p,q∈ps)→k+f=N+1 →
    (runN succ f k ps).Nodup∧(∀ p∈runN succ f k ps,p<N)∧∀ p∈runN succ f k ps,∀ q∈succ p,q∈runN succ f k ps:=by
  intro f
  induction f with
  | zero=>
    intro k ps hd hr hc hk
    refine ⟨hd,hr,fun p hp=>?_⟩
    have hp':p∈ps:=hp
    obtain ⟨i,hi⟩:=List.mem_iff_getElem?.1 hp'
    have hl:=Aut.pig N ps hd hr
    have:=(List.getElem?_eq_some_iff.1 hi).1
    exact hc i p (by omega) hi
  | succ f ih=>
    intro k ps hd hr hc hk
    simp only [runN]
    cases hx:ps[k]? with
    | none=>
      refine ⟨hd,hr,fun p hp=>?_⟩
      have hp':p∈ps:=hp
      obtain ⟨i,hi⟩:=List.mem_iff_getElem?.1 hp'
      have:=(List.getElem?_eq_some_iff.1 hi).1
      have:=List.getElem?_eq_none_iff.1 hx
      exact hc i p (by omega) hi
    | some p=>
      have hp:p<N:=hr p (List.mem_of_getElem? hx)
      have hkl:=(List.getElem?_eq_some_iff.1 hx).1
      refine ih (k+1) _ (addsN_nd hd) (addsN_in hr (hs p hp)) (fun i q hi hq r hrq=>?_) (by omega)
      obtain ⟨t,ht⟩:=addsN_pre (succ p) ps
      by_cases he:i=k
      · subst he
        rw [ht,List.getElem?_append_left hkl,hx] at hq
        cases hq
        exact addsN_mem hrq
      · rw [ht,List.getElem?_append_left (by omega)] at hq
        exact (addsN_pre _ _).mem (hc i q (by omega) hq r hrq)
theorem numN_get {ps:List Nat} {p:Nat} (h:p∈ps):ps[numN ps p]? = some p:=by
  cases hi:idx p ps 0 with
  | none=>exact absurd h (idx_none.1 hi)
  | some i=>
    have:=(idx_some hi).2
    rw [numN,hi]
    simpa using this
theorem numN_lt {ps:List Nat} {p:Nat} (h:p∈ps):numN ps p<ps.length:=(List.getElem?_eq_some_iff.1 (numN_get h)).1
def succA (B:Bu) (p a:Nat):List Nat:=((B.next.getD p []).getD a []).map fun m=>m.1.toNat
def succT (B:Bu) (p:Nat):List Nat:=(List.range B.L.toNat).flatMap (succA B p)
def stT (B:Bu):List Nat:=addsN [] (B.start.map Int.toNat)
def trimR (B:Bu):List Nat:=runN (succT B) (B.next.length+1) 0 (stT B)
def renM (R:List Nat) (ms:Moves):Moves:=ms.map fun m=>((numN R m.1.toNat:Int),m.2)
structure TrimR (B:Bu) (C:Bu):Prop where
  L:C.L=B.L
  st:C.start=B.start.map fun z=>(numN (trimR B) z.toNat:Int)
  len:C.next.length=(trimR B).length
  row:∀ n,n<(trimR B).length→((C.next.getD n []).length:Int)=B.L∧∀ a:Nat,(a:Int)<B.L→((C.next.getD n []).getD a []).Perm (renM (trimR B) ((B.next.getD ((trimR B).getD n 0) []).getD a []))∧∀ i j,i<j→j<((C.next.getD n []).getD a []).length→¬ mlt (((C.next.getD n []).getD a []).getD j (0,false)) (((C.next.getD n []).getD a []).getD i (0,false))
end Go.Proofs.YtmblpcidfjemhaaDoor
end
section
set_option linter.unusedSimpArgs false
set_option linter.unusedVariables false
namespace Go.Proofs.YtmblpcidfjemhaaDoor
open Go Go.Pv
open Classical
def FZ (T:Nat→Prop) (R:LV→Prop) (n:Nat) (v:LV) (s:St):Prop:=
  ∀ s1,(∀ id,T id→s1.get id=s.get id)→∃ v' s2,frz n v s1=some (v',s2)∧R v'∧s2.n=s1.n∧∀ id,¬ T id→s2.get id=s1.get id
theorem FZ.stable {T:Nat→Prop} {R:LV→Prop} {n:Nat} {v:LV} {s s':St} (h:FZ T R n v s) (hs:∀ id,T id→s'.get id=s.get id):FZ T R n v s' :=
  fun s1 h1=>h s1 fun id hid=>(h1 id hid).trans (hs id hid)
theorem FZ.mono {T:Nat→Prop} {R R':LV→Prop} {n:Nat} {v:LV} {s:St} (h:FZ T R n v s) (hr:∀ v,R v→R' v):FZ T R' n v s:=
  fun s1 h1=>by
    obtain ⟨v',s2,a,b,c,d⟩:=h s1 h1
    exact ⟨v',s2,a,hr _ b,c,d⟩
theorem FZ.closed {v:LV} (n:Nat) (h:v.closed=true) (s:St):FZ (fun _=>False) (fun v'=>v'=v) (n+1) v s:=
  fun s1 _=>⟨v,s1,frz_closed h,rfl,rfl,fun _ _=>rfl⟩
theorem fz_all (n:Nat) (s:St):∀ (rv:List LV) (T:Nat→Nat→Prop) (R:Nat→LV→Prop),(∀ i,i<rv.length→FZ (T i) (R i) n (rv.getD i .top) s)→(∀ i k id,i<rv.length→k<rv.length→i≠k→T i id→¬ T k id) →
    ∀ s1,(∀ i id,i<rv.length→T i id→s1.get id=s.get id)→∃ vs s2,frz.frzAll (frz n) rv s1=some (vs,s2)∧vs.length=rv.length∧(∀ i,i<rv.length→R i (vs.getD i .top))∧s2.n=s1.n∧∀ id,(∀ i,i<rv.length→¬ T i id)→s2.get id=s1.get id:=by
  intro rv
  induction rv with
  | nil=>
    intro T R _ _ s1 _
    exact ⟨[],s1,rfl,rfl,fun i hi=>absurd hi (Nat.not_lt_zero _),rfl,fun _ _=>rfl⟩
  | cons v rv ih=>
    intro T R h hd s1 h1
    obtain ⟨v',s2,a1,a2,a3,a4⟩:=h 0 (by simp) s1 fun id hid=>h1 0 id (by simp) hid
    have a1':frz n v s1=some (v',s2):=by simpa using a1
    obtain ⟨vs,s3,b1,b2,b3,b4,b5⟩:=ih (fun i=>T (i+1)) (fun i=>R (i+1)) (fun i hi=>by simpa using h (i+1) (by simpa using hi)) (fun i k id hi hk hne=>hd (i+1) (k+1) id (by simpa using hi) (by simpa using hk) (by omega)) s2 fun i id hi hid=>by
      have hi':i+1<(v::rv).length:=by simpa using hi
      rw [a4 id fun h0=>hd 0 (i+1) id (by simp) hi' (by omega) h0 hid]
      exact h1 (i+1) id hi' hid
    refine ⟨v'::vs,s3,by simp [frz.frzAll,a1',b1],by simp [b2],fun i hi=>?_,by rw [b4,a3],fun id hid=>?_⟩
    · cases i with
      | zero=>simpa using a2
      | succ i=>simpa using b3 i (by simpa using hi)
    · rw [b5 id fun i hi=>hid (i+1) (by simpa using hi),a4 id (hid 0 (by simp))]
theorem fz_sref {s:St} {j len esz:Nat} {m:Md} {rv:List LV} (n:Nat) (hg:s.get j=some (.cells m rv)) (hl:rv.length=len*esz) {T:Nat→Nat→Prop} {R:Nat→LV→Prop} (h:∀ i,i<rv.length→FZ (T i) (R i) n (rv.getD i .top) s)
    (hd:∀ i k id,i<rv.length→k<rv.length→i≠k→T i id→¬ T k id) (hj:∀ i,i<rv.length→¬ T i j) :
    FZ (fun id=>id=j∨∃ i,i<rv.length∧T i id) (fun v'=>∃ vs,v' = .simm vs len∧vs.length=rv.length∧∀ i,i<rv.length→R i (vs.getD i .top)) (n+1) (.sref j 0 len esz) s:=by
  intro s1 h1
  obtain ⟨vs,s2,a1,a2,a3,a4,a5⟩:=fz_all n s rv T R h hd s1 fun i id hi hid=>h1 id (.inr ⟨i,hi,hid⟩)
  have hg1:s1.get j=some (.cells m rv):=by rw [h1 j (.inl rfl)];exact hg
  refine ⟨.simm vs len,s2.put j (.cells (if m = .mut then .app else m) vs),?_,⟨vs,rfl,a2,a3⟩,a4,fun id hid=>?_⟩
  · unfold frz
    simp only [LV.closed,Bool.false_eq_true,if_false,hg1,Nat.zero_add,hl,Nat.le_refl,if_true,a1,Option.bind_eq_bind,Option.bind_some,List.drop_zero]
    rw [List.take_of_length_le (by omega)]
  · rw [St.get_put,if_neg fun e=>hid (.inl e)]
    exact a5 id fun i hi ht=>hid (.inr ⟨i,hi,ht⟩)
theorem fz_nomoves (n:Nat) (s:St):FZ (fun _=>False) (fun v'=>IsMoves v' []) (n+1) .nils s:=
  (FZ.closed n rfl s).mono fun v hv=>by rw [hv];exact ⟨.nil,by simp,fun x hx=>by cases hx⟩
theorem fz_row {s:St} {j:Nat} {m:Md} {rv:List LV} {row:List Moves} (n:Nat) (hg:s.get j=some (.cells m rv)) (hl:rv.length=row.length) (hb:row.length≤1048576) {T:Nat→Nat→Prop} (h:∀ i,i<row.length→FZ (T i) (fun v'=>IsMoves v' (row.getD i [])) n (rv.getD i .top) s)
    (hd:∀ i k id,i<row.length→k<row.length→i≠k→T i id→¬ T k id) (hj:∀ i,i<row.length→¬ T i j) :
    FZ (fun id=>id=j∨∃ i,i<row.length∧T i id) (fun v'=>IsRowM v' row) (n+1) (.sref j 0 row.length 1) s:=by
  have hmx:maxLen=9223372036854775807:=by decide
  rw [← hl] at h hd hj hb ⊢
  have:=fz_sref n hg (by rw [Nat.mul_one]) h hd hj
  refine this.mono fun v' hv=>?_
  obtain ⟨vs,rfl,h1,h2⟩:=hv
  rw [hl] at *
  exact ⟨vs, .simm _ _,h1,by omega,h2⟩
theorem fz_skc {s:St} {v:LV} {esz n:Nat} {cells:List LV} (k:Nat) (h:SkC s v esz cells n) (hc:LV.closed.closedAll cells=true):FZ (uses v) (fun v'=>Sl v' cells n) (k+2) v s:=by
  intro s1 h1
  obtain ⟨h0,⟨rfl,rfl⟩ | ⟨j,rfl,h2,h3,h4⟩⟩:=h
  · have:cells=[]:=List.length_eq_zero_iff.1 (by rw [h0,Nat.zero_mul])
    subst this
    exact ⟨.nils,s1,rfl, .nil,rfl,fun _ _=>rfl⟩
  · have hg1:s1.get j=some (.cells .mut cells):=by rw [h1 j (uses_sref.2 rfl)];exact h4
    refine ⟨.simm cells n,s1.put j (.cells .app cells),?_, .simm _ _,rfl,fun id hid=>by rw [St.get_put,if_neg fun e=>hid (uses_sref.2 e)]⟩
    unfold frz
    simp only [LV.closed,Bool.false_eq_true,if_false,hg1,Nat.zero_add,h0,Nat.le_refl,if_true,frzAll_closed hc,Option.bind_eq_bind,Option.bind_some,List.drop_zero]
    rw [List.take_of_length_le (by omega)]
theorem ints_cl' (l:List Int):LV.closed.closedAll (ints l)=true:=by
  induction l with
  | nil=>rfl
  | cons x l ih=>simpa [ints,LV.closed.closedAll,LV.closed] using ih
theorem q_appF {P:Program} {G:Globs} {K:Env→St→Prop} {l:List LOper} {e:Env} {s:St} {fl fl':Bool} {a b bytes n:Nat} {x y:Opd} {z xv yv:LV} {cells:List LV} {T:Nat→Prop} {R:LV→Prop} (hx:x.ev e=xv) (hxc:cells? xv=some [xv]) (hy:y.ev (Tr.set e a (.sref s.n 0 1 1))=yv) (hs:SkC s yv 1 cells n) (hF:FZ T R frzDepth xv s) (hT:∀ id,T id→id<s.n∧¬ uses yv id) (hb:bytes≤2 ^ 10) (hl:n≤2 ^ 20)
    (h:∀ s' j v',s.n≤j→R v'→SkC s' (.sref j 0 (n+1) 1) 1 (cells++[v']) (n+1)→s.n≤s'.n→(∀ id,id<s.n→¬ uses yv id→¬ T id→s'.get id=s.get id)→W P G K l (Tr.set (Tr.set e a (.sref s.n 0 1 1)) b (.sref j 0 (n+1) 1)) s') :
    W P G K (⟨some a, .bslice 1 1 [z] [(0,(1,x))],none,[],fl⟩::⟨some b, .append 1 bytes y (.t a),none,[],fl'⟩::l) e s:=by
  have hfill:fillParts (rep 1 [z]) (evParts e [(0,(1,x))])=some [xv]:=by
    have hr1:rep 1 [z]=[z]:=by simp [rep]
    simp only [evParts,List.map,hr1,fillParts,hx,hxc]
    rfl
  refine q_gen (v:=.sref s.n 0 1 1) (s':=s.new (.cells .mut [xv])) rfl (by simp only [LOp.run,hfill,Option.bind_eq_bind,Option.bind_some]) (by cases fl<;>rfl) trivial ?_
  simp only [Env.put_some]
  have hr:rowOf (s.new (.cells .mut [xv])) 1 1 (.sref s.n 0 1 1)=some [xv]:=by
    simp [rowOf,St.get_new]
  obtain ⟨v',s2,f1,f2,f3,f4⟩:=hF (s.new (.cells .mut [xv])) fun id hid=>by rw [St.get_new,if_neg (by have:=(hT id hid).1;omega)]
  have hft:frzTry [xv] (s.new (.cells .mut [xv]))=([v'],s2):=by
    simp [frzTry,frz.frzAll,f1]
  have hk2:∀ id,id<s.n→¬ T id→s2.get id=s.get id:=fun id h1 h2=>by rw [f4 id h2,St.get_new,if_neg (by omega)]
  have hn2:s2.n=s.n+1:=by rw [f3,St.n_new]
  have hbig:(n+1)*bytes≤big:=by
    have:(n+1)*bytes≤(2 ^ 20+1)*2 ^ 10:=Nat.mul_le_mul (by omega) hb
    unfold big;omega
  obtain ⟨hcl0,hs⟩:=hs
  have hlen':(cells++[v']).length=(n+1)*1:=by rw [List.length_append,hcl0];simp
  rcases hs with ⟨rfl,rfl⟩ | ⟨j,rfl,h1,h2,h3⟩
  · have hc0:cells=[]:=List.length_eq_zero_iff.1 (by rw [hcl0])
    subst hc0
    have hap:appendLV 1 bytes .nils [v'] 1 s2=some (.sref (s.n+1) 0 1 1,s2.new (.cells .mut [v'])):=by
      simp only [appendLV]
      rw [if_neg (by omega),if_pos ⟨by simpa using hbig,by simp⟩,hn2]
    refine q_append rfl hy (by simp) rfl hr hft hap ?_
    refine h _ (s.n+1) v' (by omega) f2 ⟨hlen', .inr ⟨s.n+1,rfl,by omega,by rw [St.n_new];omega,by rw [St.get_new,if_pos (by omega)];rfl⟩⟩ (by rw [St.n_new];omega) fun id hid _ ht=>?_
    rw [St.get_new,if_neg (by omega)]
    exact hk2 id hid ht
  · have hg:s2.get j=some (.cells .mut cells):=by rw [hk2 j h2 fun ht=>(hT j ht).2 (uses_sref.2 rfl)];exact h3
    have hap:appendLV 1 bytes (.sref j 0 n 1) [v'] 1 s2=some (.sref (s.n+1) 0 (n+1) 1,(s2.put j (.cells .ro [])).new (.cells .mut (cells++[v']))):=by
      simp only [appendLV,if_true,hg,Nat.zero_add,hcl0,Nat.le_refl,hbig,List.length_singleton,Nat.one_mul,Nat.mul_one,and_self,List.drop_zero]
      rw [List.take_of_length_le (by omega),← hn2]
      rfl
    refine q_append rfl hy (by simp) rfl hr hft hap ?_
    refine h _ (s.n+1) v' (by omega) f2 ⟨hlen', .inr ⟨s.n+1,rfl,by omega,by rw [St.n_new,St.n_put];omega,by rw [St.get_new,St.n_put,if_pos (by omega)]⟩⟩ (by rw [St.n_new,St.n_put];omega) fun id hid hu ht=>?_
    have hne:id≠j:=fun e=>hu (uses_sref.2 e)
    rw [St.get_new,St.n_put,if_neg (by omega),St.get_put,if_neg hne]
    exact hk2 id hid ht
end Go.Proofs.YtmblpcidfjemhaaDoor
end
section
set_option linter.unusedSimpArgs false
set_option linter.unusedVariables false
namespace Go.Proofs.YtmblpcidfjemhaaDoor
open Go Go.Pv Go.Bfs
open Classical
def rowM (B:Bu) (q a:Nat):Moves:=(B.next.getD q []).getD a []
end Go.Proofs.YtmblpcidfjemhaaDoor
end
