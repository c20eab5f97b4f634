/- buchi.automaton's number: states are numbered in the order in which they are met. -/
import Derived.Test.YthcllhhldknkmaaGreatDoorValid
import Derived.Test.YthcllhhldknkmaaGreatDoorLitt
import Derived.Test.YthcllhhldknkmaaGreatDoorTarjan
set_option linter.unusedSimpArgs false
set_option linter.unusedVariables false
section
set_option linter.unusedSimpArgs false
set_option linter.unusedVariables false
namespace Go.Proofs.YthcllhhldknkmaaGreatDoor
open Go Go.Pv Go.Bfs
open Classical
def ient:List Nat→Nat→List (LV × LV)
  | [],_=>[]
  | p::r,i=>(.int .i64 (p:Int), .int .i64 (i:Int))::ient r (i+1)
def addN (ps:List Nat) (p:Nat):List Nat:=if p∈ps then ps else ps++[p]
def numN (ps:List Nat) (p:Nat):Nat:=(idx p ps 0).getD 0
structure NT (n0:Nat) (Kp:Nat→Prop) (s0 s:St) (ja jb M:Nat) (pv:LV) (ps:List Nat):Prop where
  le:n0≤s.n
  a0:n0≤ja
  a1:ja<s.n
  b0:n0≤jb
  b1:jb<s.n
  m0:n0≤M
  m1:M<s.n
  ab:ja≠jb
  ma:M≠ja
  mb:M≠jb
  ga:s.get ja=some (.cells .mut [.mref M])
  gb:s.get jb=some (.cells .mut [pv])
  gM:s.get M=some (.map (ient ps 0))
  sp:SkC s pv 1 (nints ps) ps.length
  dp:∀ id,uses pv id→n0≤id∧id≠ja∧id≠jb∧id≠M
  kp:∀ id,Kp id→id<s.n∧id≠ja∧id≠jb∧id≠M∧¬ uses pv id
  old:∀ id,Kp id→s.get id=s0.get id
theorem NT.keep {n0:Nat} {Kp:Nat→Prop} {s0 s s':St} {ja jb M:Nat} {pv:LV} {ps:List Nat} (h:NT n0 Kp s0 s ja jb M pv ps) (hn:s.n≤s'.n) (hs:∀ id,id<s.n→s'.get id=s.get id):NT n0 Kp s0 s' ja jb M pv ps:=by
  have h1:=h.a1
  have h2:=h.b1
  have h3:=h.m1
  have h4:=h.le
  exact ⟨by omega,h.a0,by omega,h.b0,by omega,h.m0,by omega,h.ab,h.ma,h.mb,by rw [hs _ h1];exact h.ga,by rw [hs _ h2];exact h.gb,by rw [hs _ h3];exact h.gM,h.sp.mono hn fun id hu=>hs id (h.sp.lt hu),h.dp,
    fun id hk=>by have:=h.kp id hk;exact ⟨by omega,this.2⟩,fun id hk=>by rw [hs id (h.kp id hk).1];exact h.old id hk⟩
theorem NT.rebase {n0:Nat} {Kp Kp':Nat→Prop} {s0 s0' s:St} {ja jb M:Nat} {pv:LV} {ps:List Nat} (h:NT n0 Kp s0 s ja jb M pv ps) (hk:∀ id,Kp' id→id<s.n∧id≠ja∧id≠jb∧id≠M∧¬ uses pv id) (ho:∀ id,Kp' id→s.get id=s0'.get id):NT n0 Kp' s0' s ja jb M pv ps:=
  ⟨h.le,h.a0,h.a1,h.b0,h.b1,h.m0,h.m1,h.ab,h.ma,h.mb,h.ga,h.gb,h.gM,h.sp,h.dp,hk,ho⟩
end Go.Proofs.YthcllhhldknkmaaGreatDoor
end
section
set_option linter.unusedSimpArgs false
set_option linter.unusedVariables false
namespace Go.Proofs.YthcllhhldknkmaaGreatDoor
open Go Go.Pv Go.Bfs
open Classical
def Pre (a b:List Nat):Prop:=∃ t,b=a++t
theorem Pre.refl (a:List Nat):Pre a a:=⟨[],by simp⟩
theorem Pre.trans {a b c:List Nat} (h:Pre a b) (k:Pre b c):Pre a c:=by
  obtain ⟨t,rfl⟩:=h
  obtain ⟨u,rfl⟩:=k
  exact ⟨t++u,by simp⟩
theorem Pre.mem {a b:List Nat} (h:Pre a b) {x:Nat} (hx:x∈a):x∈b:=by
  obtain ⟨t,rfl⟩:=h
  exact List.mem_append_left _ hx
def addsN (ps l:List Nat):List Nat:=l.foldl addN ps
def runN (succ:Nat→List Nat):Nat→Nat→List Nat→List Nat
  | 0,_,ps=>ps
  | f+1,k,ps=>match ps[k]? with
    | none=>ps
    | some p=>runN succ f (k+1) (addsN ps (succ p))
def succA (B:Bu) (p a:Nat):List Nat:=((B.next.getD p []).getD a []).map fun m=>m.1.toNat
def succT (B:Bu) (p:Nat):List Nat:=(List.range B.L.toNat).flatMap (succA B p)
def stT (B:Bu):List Nat:=addsN [] (B.start.map Int.toNat)
def trimR (B:Bu):List Nat:=runN (succT B) (B.next.length+1) 0 (stT B)
def renM (R:List Nat) (ms:Moves):Moves:=ms.map fun m=>((numN R m.1.toNat:Int),m.2)
structure TrimR (B:Bu) (C:Bu):Prop where
  L:C.L=B.L
  st:C.start=B.start.map fun z=>(numN (trimR B) z.toNat:Int)
  len:C.next.length=(trimR B).length
  row:∀ n,n<(trimR B).length→((C.next.getD n []).length:Int)=B.L∧∀ a:Nat,(a:Int)<B.L→((C.next.getD n []).getD a []).Perm (renM (trimR B) ((B.next.getD ((trimR B).getD n 0) []).getD a []))∧∀ i j,i<j→j<((C.next.getD n []).getD a []).length→¬ mlt (((C.next.getD n []).getD a []).getD j (0,false)) (((C.next.getD n []).getD a []).getD i (0,false))
end Go.Proofs.YthcllhhldknkmaaGreatDoor
end
section
set_option linter.unusedSimpArgs false
set_option linter.unusedVariables false
namespace Go.Proofs.YthcllhhldknkmaaGreatDoor
open Go Go.Pv
open Classical
def FZ (T:Nat→Prop) (R:LV→Prop) (n:Nat) (v:LV) (s:St):Prop:=
  ∀ s1,(∀ id,T id→s1.get id=s.get id)→∃ v' s2,frz n v s1=some (v',s2)∧R v'∧s2.n=s1.n∧∀ id,¬ T id→s2.get id=s1.get id
theorem FZ.mono {T:Nat→Prop} {R R':LV→Prop} {n:Nat} {v:LV} {s:St} (h:FZ T R n v s) (hr:∀ v,R v→R' v):FZ T R' n v s:=
  fun s1 h1=>by
    obtain ⟨v',s2,a,b,c,d⟩:=h s1 h1
    exact ⟨v',s2,a,hr _ b,c,d⟩
theorem FZ.closed {v:LV} (n:Nat) (h:v.closed=true) (s:St):FZ (fun _=>False) (fun v'=>v'=v) (n+1) v s:=
  fun s1 _=>⟨v,s1,frz_closed h,rfl,rfl,fun _ _=>rfl⟩
theorem fz_all (n:Nat) (s:St):∀ (rv:List LV) (T:Nat→Nat→Prop) (R:Nat→LV→Prop),(∀ i,i<rv.length→FZ (T i) (R i) n (rv.getD i .top) s)→(∀ i k id,i<rv.length→k<rv.length→i≠k→T i id→¬ T k id) →
    ∀ s1,(∀ i id,i<rv.length→T i id→s1.get id=s.get id)→∃ vs s2,frz.frzAll (frz n) rv s1=some (vs,s2)∧vs.length=rv.length∧(∀ i,i<rv.length→R i (vs.getD i .top))∧s2.n=s1.n∧∀ id,(∀ i,i<rv.length→¬ T i id)→s2.get id=s1.get id:=by
  intro rv
  induction rv with
  | nil=>
    intro T R _ _ s1 _
    exact ⟨[],s1,rfl,rfl,fun i hi=>absurd hi (Nat.not_lt_zero _),rfl,fun _ _=>rfl⟩
  | cons v rv ih=>
    intro T R h hd s1 h1
    obtain ⟨v',s2,a1,a2,a3,a4⟩:=h 0 (by simp) s1 fun id hid=>h1 0 id (by simp) hid
    have a1':frz n v s1=some (v',s2):=by simpa using a1
    obtain ⟨vs,s3,b1,b2,b3,b4,b5⟩:=ih (fun i=>T (i+1)) (fun i=>R (i+1)) (fun i hi=>by simpa using h (i+1) (by simpa using hi)) (fun i k id hi hk hne=>hd (i+1) (k+1) id (by simpa using hi) (by simpa using hk) (by omega)) s2 fun i id hi hid=>by
      have hi':i+1<(v::rv).length:=by simpa using hi
      rw [a4 id fun h0=>hd 0 (i+1) id (by simp) hi' (by omega) h0 hid]
      exact h1 (i+1) id hi' hid
    refine ⟨v'::vs,s3,by simp [frz.frzAll,a1',b1],by simp [b2],fun i hi=>?_,by rw [b4,a3],fun id hid=>?_⟩
    · cases i with
      | zero=>simpa using a2
      | succ i=>simpa using b3 i (by simpa using hi)
    · rw [b5 id fun i hi=>hid (i+1) (by simpa using hi),a4 id (hid 0 (by simp))]
theorem fz_sref {s:St} {j len esz:Nat} {m:Md} {rv:List LV} (n:Nat) (hg:s.get j=some (.cells m rv)) (hl:rv.length=len*esz) {T:Nat→Nat→Prop} {R:Nat→LV→Prop} (h:∀ i,i<rv.length→FZ (T i) (R i) n (rv.getD i .top) s)
    (hd:∀ i k id,i<rv.length→k<rv.length→i≠k→T i id→¬ T k id) (hj:∀ i,i<rv.length→¬ T i j) :
    FZ (fun id=>id=j∨∃ i,i<rv.length∧T i id) (fun v'=>∃ vs,v' = .simm vs len∧vs.length=rv.length∧∀ i,i<rv.length→R i (vs.getD i .top)) (n+1) (.sref j 0 len esz) s:=by
  intro s1 h1
  obtain ⟨vs,s2,a1,a2,a3,a4,a5⟩:=fz_all n s rv T R h hd s1 fun i id hi hid=>h1 id (.inr ⟨i,hi,hid⟩)
  have hg1:s1.get j=some (.cells m rv):=by rw [h1 j (.inl rfl)];exact hg
  refine ⟨.simm vs len,s2.put j (.cells (if m = .mut then .app else m) vs),?_,⟨vs,rfl,a2,a3⟩,a4,fun id hid=>?_⟩
  · unfold frz
    simp only [LV.closed,Bool.false_eq_true,if_false,hg1,Nat.zero_add,hl,Nat.le_refl,if_true,a1,Option.bind_eq_bind,Option.bind_some,List.drop_zero]
    rw [List.take_of_length_le (by omega)]
  · rw [St.get_put,if_neg fun e=>hid (.inl e)]
    exact a5 id fun i hi ht=>hid (.inr ⟨i,hi,ht⟩)
theorem fz_next {s:St} {j:Nat} {m:Md} {rv:List LV} {nx:List (List Moves)} (n:Nat) (hg:s.get j=some (.cells m rv)) (hl:rv.length=nx.length) (hb:nx.length≤1048576) {T:Nat→Nat→Prop} (h:∀ i,i<nx.length→FZ (T i) (fun v'=>IsRowM v' (nx.getD i [])) n (rv.getD i .top) s)
    (hd:∀ i k id,i<nx.length→k<nx.length→i≠k→T i id→¬ T k id) (hj:∀ i,i<nx.length→¬ T i j) :
    FZ (fun id=>id=j∨∃ i,i<nx.length∧T i id) (fun v'=>IsNext v' nx) (n+1) (.sref j 0 nx.length 1) s:=by
  have hmx:maxLen=9223372036854775807:=by decide
  rw [← hl] at h hd hj hb ⊢
  have:=fz_sref n hg (by rw [Nat.mul_one]) h hd hj
  refine this.mono fun v' hv=>?_
  obtain ⟨vs,rfl,h1,h2⟩:=hv
  rw [hl] at *
  exact ⟨vs, .simm _ _,h1,by omega,h2⟩
theorem fz_skc {s:St} {v:LV} {esz n:Nat} {cells:List LV} (k:Nat) (h:SkC s v esz cells n) (hc:LV.closed.closedAll cells=true):FZ (uses v) (fun v'=>Sl v' cells n) (k+2) v s:=by
  intro s1 h1
  obtain ⟨h0,⟨rfl,rfl⟩ | ⟨j,rfl,h2,h3,h4⟩⟩:=h
  · have:cells=[]:=List.length_eq_zero_iff.1 (by rw [h0,Nat.zero_mul])
    subst this
    exact ⟨.nils,s1,rfl, .nil,rfl,fun _ _=>rfl⟩
  · have hg1:s1.get j=some (.cells .mut cells):=by rw [h1 j (uses_sref.2 rfl)];exact h4
    refine ⟨.simm cells n,s1.put j (.cells .app cells),?_, .simm _ _,rfl,fun id hid=>by rw [St.get_put,if_neg fun e=>hid (uses_sref.2 e)]⟩
    unfold frz
    simp only [LV.closed,Bool.false_eq_true,if_false,hg1,Nat.zero_add,h0,Nat.le_refl,if_true,frzAll_closed hc,Option.bind_eq_bind,Option.bind_some,List.drop_zero]
    rw [List.take_of_length_le (by omega)]
theorem ints_cl' (l:List Int):LV.closed.closedAll (ints l)=true:=by
  induction l with
  | nil=>rfl
  | cons x l ih=>simpa [ints,LV.closed.closedAll,LV.closed] using ih
end Go.Proofs.YthcllhhldknkmaaGreatDoor
end
