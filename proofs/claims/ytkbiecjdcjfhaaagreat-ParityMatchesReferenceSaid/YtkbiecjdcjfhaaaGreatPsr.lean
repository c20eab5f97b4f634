/- parity's search in memory; what is asked of its maps. -/
import Derived.Test.YtkbiecjdcjfhaaaGreatTstp
import Derived.Test.YtkbiecjdcjfhaaaGreatRecv
set_option linter.unusedSimpArgs false
set_option linter.unusedVariables false
set_option maxRecDepth 100000
set_option maxHeartbeats 16000000
section
namespace Go.Proofs.YtkbiecjdcjfhaaaGreat
open Go Go.Pv Go.pR
open Classical
theorem JA {s:St}{v:LV}{l:List Int}(h:Sx s v (ints l) l.length) (a:∀ x∈l,bU x) (hl:l.length<=100000):aM Tryz.prog GL (.fn (.func 74) [] []) [v] s (λr s'=>r = .str ⟨(G3 l).toArray⟩/\s'.n=s.n/\∀ id,¬ aQ v id->s'.get id=s.get id):=by
 have f:=lG;obtain⟨h0,⟨rfl,h1⟩ | ⟨j,rfl,h2,h3⟩⟩:=h
 ·have b:l=[]:=List.length_eq_zero_iff.1 h1;subst b;exact iD ff (JB ⟨.nil,by simp,λx hx=>by cases hx⟩ (by simp)) ⟨rfl,rfl,λ_ _=>rfl⟩
 ·have c:cY bp (.aE j 0 l.length 1) s=some (.aF (ints l) l.length,s.put j (.cells .app (ints l))):=gQ (len:=l.length) 38 h3 (by simp) (bI _);refine n9 (args':=[.aF (ints l) l.length]) (s':=s.put j (.cells .app (ints l))) (by simp only[cY.cM,c,Option.bind_eq_bind,Option.bind_some]) (iD ff (JB ⟨.aF _ _,by omega,a⟩ hl) ⟨rfl,rfl,λid d=>by rw[St.az,if_neg λe=>d (aI.2 e)]⟩)
section
variable {α:Type}
def kd (key:α->List UInt8):Nat->List α->List (List UInt8 × LV)
 | _,[]=>[]
 | i,x::l=>(key x, .int .i64 (i:Int))::kd key (i+1) l
noncomputable def dw (key:α->List UInt8) (l:List α) (k:List UInt8):Nat:=l.findIdx λx=>decide (key x=k)
theorem rN (key:α->List UInt8) (l:List α) (k:List UInt8):dw key l k<=l.length:=List.findIdx_le_length
theorem BJ (key:α->List UInt8):∀ (l m:List α) (i:Nat),kd key i (l++m)=kd key i l++kd key (i+l.length) m
 | [],m,i=>by simp[kd]
 | x::l,m,i=>by simp[kd,BJ key l m (i+1),Nat.add_assoc,Nat.add_comm 1]
theorem xy (key:α->List UInt8) (k:List UInt8):∀ (l:List α) (i:Nat),eE (kd key i l) k=if dw key l k<l.length then some (.int .i64 ((i+dw key l k:Nat):Int)) else none
 | [],i=>by simp[kd,eE]
 | x :: l, i => by
   have ih:=xy key k l (i+1);by_cases h:key x=k
   ·have e:dw key (x::l) k=0:=by unfold dw;rw[List.findIdx_cons];simp[h]
    rw[e];simp only[kd,eE];rw[if_pos h.symm,if_pos (by simp)];rfl
   ·have e:dw key (x::l) k=dw key l k+1:=by unfold dw;rw[List.findIdx_cons];simp[h]
    rw[e];simp only[kd,eE];rw[if_neg (λh2=>h h2.symm),ih,List.length_cons];by_cases h3:dw key l k<l.length
    ·rw[if_pos h3,if_pos (by omega)];congr 3;omega
    ·rw[if_neg h3,if_neg (by omega)]
theorem WD (key:α->List UInt8) (l:List α) (x:α) (h:¬ dw key l (key x)<l.length):vO (kd key 0 l) (key x) (.int .i64 (l.length:Int))=kd key 0 (l++[x]):=by
 rw[Oc (by rw[xy,if_neg h]),BJ];simp[kd]
noncomputable def gY (key:α->List UInt8) (l:List α) (x:α):List α:=if dw key l (key x)<l.length then l else l++[x]
theorem Qq (key:α->List UInt8) (l:List α) (x:α):dw key l (key x)<(gY key l x).length:=by
 unfold gY;have:=rN key l (key x);split
 ·assumption
 ·rw[List.length_append,List.length_singleton];omega
theorem uX (key:α->List UInt8) (l:List α) (x:α):∃ m,gY key l x=l++m/\m.length<=1:=by
 unfold gY;split
 ·exact⟨[],by simp,by simp⟩
 ·exact⟨[x],rfl,by simp⟩
theorem Ff (key:α->List UInt8) (l m:List α) (k:List UInt8) (h:dw key l k<l.length):dw key (l++m) k=dw key l k:=by
 unfold dw at *;rw[List.findIdx_append,if_pos h]
end
def eX (t:List Nd):List Int:=t.flatMap λn=>n.name::(n.par+1)::(n.set.length:Int)::n.set
def cq (t:List Nd):List UInt8:=G3 (eX t)
structure TrB (t:List Nd):Prop where
  len:t.length<=30
  set:∀ n∈t,n.set.length<=3000
  par:∀ n∈t,-1<=n.par/\n.par<=6000
theorem Bz {t:List Nd}(h:∀ n∈t,n.set.length<=3000):(eX t).length<=t.length*3003:=by
 induction t with
 | nil=>simp[eX]
 | cons n t ih=>
   have h1:=ih λm hm=>h m (by simp[hm]);have h2:=h n (by simp);have e:eX (n::t)=(n.name::(n.par+1)::(n.set.length:Int)::n.set)++eX t:=by simp[eX]
   rw[e,List.length_append,List.length_cons];simp only[List.length_cons];omega
def um (x:Int):Int:=IntKind.i64.wrap ((BitVec.ofInt 64 x &&& BitVec.ofInt 64 32767).toNat)
def sR (x:Nat × List Int):List Int:=(x.1:Int).fdiv 32768::um x.1::x.2
def dr (x:Nat × List Int):List UInt8:=G3 (sR x)
def pF (r:Nat × LV × LV):List LV:=[.int .i64 (r.1:Int),r.2.1,r.2.2]
theorem OB (r:Nat × LV × LV):(pF r).length=3:=rfl
def Dv (s:St) (B:Bu) (ts:List (List Nd)) (t:List Nd) (v:LV):Prop:=v = .aq∨∃ j b,v = .aE j 0 b.length 3/\s.get j=some (.cells .mut (dm pF b))/\(b.length:Int)=B.L /\
 ∀ a,a<b.length->(b.getD a default).1=dw cq ts (cq (kz B t a))/\(b.getD a default).1<ts.length/\aP (b.getD a default).2.1 (Ap B t a)/\aP (b.getD a default).2.2 (Aq B t a)
theorem Dv.keep {s s':St}{B:Bu}{ts:List (List Nd)}{t:List Nd}{v:LV}(h:Dv s B ts t v) (hs:∀ id,aQ v id->s'.get id=s.get id):Dv s' B ts t v:=by
 rcases h with h | ⟨j,a,rfl,h1,h2⟩
 ·exact .inl h
 ·exact .inr ⟨j,a,rfl,(hs j (aI.2 rfl)).trans h1,h2⟩
theorem Dv.more {s:St}{B:Bu}{ts m:List (List Nd)}{t:List Nd}{v:LV}(h:Dv s B ts t v):Dv s B (ts++m) t v:=by
 rcases h with h | ⟨j,b,rfl,h1,h2,h3⟩
 ·exact .inl h
 ·refine .inr ⟨j,b,rfl,h1,h2,λa d=>?_⟩;obtain⟨c,e,f⟩:=h3 a d;exact⟨by rw[Ff _ _ _ _ (c ▸ e)];exact c,by rw[List.length_append];omega,f⟩
def K7 (r:Nat × LV):List LV:=[.int .i64 (r.1:Int),r.2]
theorem DY (r:Nat × LV):(K7 r).length=2:=rfl
structure SX (s:St) (Z:Nat) (B:Bu) (sv nv:LV) (most:Int) (ts:List (List Nd)) (xs:List (Nat × List Int)) (O F:Nat->Prop) (tv pv xv:LV) (TN SN:Nat) (td mQ:List LV) (xr:List (Nat × LV)):Prop where
  dR:s.get Z=some (.cells .mut [.int .i64 B.L,sv,nv, .int .i64 most,tv,pv, .aR TN,xv, .aR SN])
  t:ek s tv 1 td ts.length
  p:ek s pv 1 mQ ts.length
  x:ek s xv 2 (dm K7 xr) xs.length
  tn:s.get TN=some (.map (mG nq (kd cq 0 ts)))
  sn:s.get SN=some (.map (mG nq (kd dr 0 xs)))
  tt:∀ i,i<ts.length->∃ rs,jK (td.getD i .top) (ts.getD i []) rs
  pm:∀ i,i<ts.length->Dv s B ts (ts.getD i []) (mQ.getD i .top)
  xl:xr.length=xs.length
  xx:∀ i,i<xs.length->(xr.getD i default).1=(xs.getD i default).1/\aP (xr.getD i default).2 (xs.getD i default).2
  oZ:O Z/\O TN/\O SN
  ou:∀ id,(aQ tv id∨aQ pv id∨aQ xv id)->O id/\id≠Z
  om:∀ i,i<ts.length->∀ id,aQ (mQ.getD i .top) id->F id
  fo:∀ id,F id->O id/\id≠Z/\id≠TN/\id≠SN/\¬ aQ tv id/\¬ aQ pv id/\¬ aQ xv id
  ol:∀ id,O id->id<s.n
  d1:∀ id,aQ tv id->¬ aQ pv id
  d2:∀ id,aQ tv id->¬ aQ xv id
  d3:∀ id,aQ pv id->¬ aQ xv id
  ne:TN≠SN
section
variable {s s':St}{Z:Nat}{B:Bu}{sv nv:LV}{most:Int}{ts:List (List Nd)}{xs:List (Nat × List Int)}{O F:Nat->Prop}{tv pv xv:LV}{TN SN:Nat}{td mQ:List LV}{xr:List (Nat × LV)}
theorem SX.keep (h:SX s Z B sv nv most ts xs O F tv pv xv TN SN td mQ xr) (b:s.n<=s'.n) (hs:∀ id,O id->s'.get id=s.get id):SX s' Z B sv nv most ts xs O F tv pv xv TN SN td mQ xr:=
 ⟨(hs Z h.oZ.1).trans h.dR,h.t.mono b λid a=>hs id (h.ou id (.inl a)).1,h.p.mono b λid a=>hs id (h.ou id (.inr (.inl a))).1,h.x.mono b λid a=>hs id (h.ou id (.inr (.inr a))).1,(hs TN h.oZ.2.1).trans h.tn,(hs SN h.oZ.2.2).trans h.sn,h.tt,λi c=>(h.pm i c).keep λid a=>hs id (h.fo id (h.om i c id a)).1,h.xl,h.xx,h.oZ,h.ou,h.om,h.fo,λid ho=>by have:=h.ol id ho;omega,h.d1,h.d2,h.d3,h.ne⟩
theorem SX.wide {a:Nat->Prop}(h:SX s Z B sv nv most ts xs O F tv pv xv TN SN td mQ xr) (ho:∀ id,O id->a id) (hl:∀ id,a id->id<s.n):SX s Z B sv nv most ts xs a F tv pv xv TN SN td mQ xr:=
 ⟨h.dR,h.t,h.p,h.x,h.tn,h.sn,h.tt,h.pm,h.xl,h.xx,⟨ho _ h.oZ.1,ho _ h.oZ.2.1,ho _ h.oZ.2.2⟩,λid b=>⟨ho _ (h.ou id b).1,(h.ou id b).2⟩,h.om,λid c=>⟨ho _ (h.fo id c).1,(h.fo id c).2⟩,hl,h.d1,h.d2,h.d3,h.ne⟩
theorem CM {a b:Nat}{es:List (LV × LV)}{m:Md}{cs:List LV}(d:s.get a=some (.map es)) (c:s.get b=some (.cells m cs)):a≠b:=by
 rintro rfl;rw[d]at c;cases c
theorem ek.iS {v:LV}{aZ n:Nat}{cells:List LV}{M:Nat}{es:List (LV × LV)}(h:ek s v aZ cells n) (hm:s.get M=some (.map es)):¬ aQ v M:=λa=>by
 obtain⟨_,⟨rfl,_⟩ | ⟨j,rfl,_,_,h3⟩⟩:=h
 ·exact bE M a
 ·have:=aI.1 a;subst this;rw[h3]at hm;cases hm
theorem SX.addT (h:SX s Z B sv nv most ts xs O F tv pv xv TN SN td mQ xr) {t:List Nd}{wS:LV}(v:∃ rs,jK wS t rs) {DB pv':LV}(w:s.n<=s'.n) (y:s'.get Z=some (.cells .mut [.int .i64 B.L,sv,nv, .int .i64 most,DB,pv', .aR TN,xv, .aR SN]))
 (z:s'.get TN=some (.map (mG nq (kd cq 0 (ts++[t]))))) (f:ek s' DB 1 (td++[wS]) (ts.length+1)) (o:∀ id,aQ DB id->s.n<=id) (r:ek s' pv' 1 (mQ++[.aq]) (ts.length+1)) (b:∀ id,aQ pv' id->s.n<=id) (A:∀ id,aQ DB id->¬ aQ pv' id)
 (ho:∀ id,id<s.n->id≠Z->id≠TN->¬ aQ tv id->¬ aQ pv id->s'.get id=s.get id):SX s' Z B sv nv most (ts++[t]) xs (λid=>O id∨s.n<=id/\id<s'.n) F DB pv' xv TN SN (td++[wS]) (mQ++[.aq]) xr:=by
 have hl:(ts++[t]).length=ts.length+1:=by simp
 have C:td.length=ts.length:=by have:=h.t.1;omega
 have u:mQ.length=ts.length:=by have:=h.p.1;omega
 have E:=h.ol Z h.oZ.1;have g:∀ {α:Type}(l:List α) (x d:α) (i:Nat),i<l.length->(l++[x]).getD i d=l.getD i d:=λl x d i c=>by simp[gD,List.getElem?_append_left c]
 have m:∀ {α:Type}(l:List α) (x d:α),(l++[x]).getD l.length d=x:=λl x d=>by simp[gD]
 have q:∀ id,aQ xv id->s'.get id=s.get id:=λid a=>ho id (h.x.lt a) (h.ou id (.inr (.inr a))).2 (λe=>ek.iS h.x (e ▸ h.tn) a) (λe=>h.d2 id e a) λe=>h.d3 id e a;refine⟨y,by rw[hl];exact f,by rw[hl];exact r,h.x.mono w q,z,?_,λi c=>?_,λi c=>?_,h.xl,h.xx,⟨.inl h.oZ.1, .inl h.oZ.2.1, .inl h.oZ.2.2⟩,λid a=>?_,λi c id a=>?_,λid D=>?_,λid j=>?_,A,λid h1 h2=>by have:=o id h1;have:=h.x.lt h2;omega,λid h1 h2=>by have:=b id h1;have:=h.x.lt h2;omega,h.ne⟩
 ·rw[ho SN (h.ol SN h.oZ.2.2) (CM h.sn h.dR) h.ne.symm (ek.iS h.t h.sn) (ek.iS h.p h.sn)];exact h.sn
 ·rw[hl]at c;by_cases e:i<ts.length
  ·rw[g ts t [] i e,g td wS .top i (by omega)];exact h.tt i e
  ·have k:i=ts.length:=by omega
   subst k;rw[m,<- C,m];exact v
 ·rw[hl]at c;by_cases e:i<ts.length
  ·rw[g ts t [] i e,g mQ .aq .top i (by omega)];refine ((h.pm i e).keep λid a=>?_).more;have hm:=h.fo id (h.om i e id a);exact ho id (h.ol id hm.1) hm.2.1 hm.2.2.1 hm.2.2.2.2.1 hm.2.2.2.2.2.1
  ·have k:i=ts.length:=by omega
   subst k;rw[<- u,m];exact .inl rfl
 ·rcases a with a | a | a
  ·have:=o id a;exact⟨.inr ⟨this,f.lt a⟩,by omega⟩
  ·have:=b id a;exact⟨.inr ⟨this,r.lt a⟩,by omega⟩
  ·have:=h.ou id (.inr (.inr a));exact⟨.inl this.1,this.2⟩
 ·rw[hl]at c;by_cases e:i<ts.length
  ·rw[g mQ .aq .top i (by omega)]at a;exact h.om i e id a
  ·have k:i=ts.length:=by omega
   subst k;rw[<- u,m]at a;exact absurd a (bE id)
 ·have hm:=h.fo id D;have G:=h.ol id hm.1;exact⟨.inl hm.1,hm.2.1,hm.2.2.1,hm.2.2.2.1,λh2=>by have:=o id h2;omega,λh2=>by have:=b id h2;omega,hm.2.2.2.2.2.2⟩
 ·rcases j with j | j
  ·have:=h.ol id j;omega
  ·exact j.2
theorem SX.addX (h:SX s Z B sv nv most ts xs O F tv pv xv TN SN td mQ xr) {x:Nat × List Int}{rv:LV}(m:aP rv x.2) {xv':LV}(k:s.n<=s'.n) (o:s'.get Z=some (.cells .mut [.int .i64 B.L,sv,nv, .int .i64 most,tv,pv, .aR TN,xv', .aR SN]))
 (q:s'.get SN=some (.map (mG nq (kd dr 0 (xs++[x]))))) (c:ek s' xv' 2 (dm K7 xr++K7 (x.1,rv)) (xs.length+1)) (b:∀ id,aQ xv' id->s.n<=id)
 (ho:∀ id,id<s.n->id≠Z->id≠SN->¬ aQ xv id->s'.get id=s.get id):SX s' Z B sv nv most ts (xs++[x]) (λid=>O id∨s.n<=id/\id<s'.n) F tv pv xv' TN SN td mQ (xr++[(x.1,rv)]):=by
 have hl:(xs++[x]).length=xs.length+1:=by simp
 have v:=h.ol Z h.oZ.1;have l:=h.xl;refine⟨o,h.t.mono k λid a=>ho id (h.t.lt a) (h.ou id (.inl a)).2 (λe=>ek.iS h.t (e ▸ h.sn) a) (h.d2 id a),h.p.mono k λid a=>ho id (h.p.lt a) (h.ou id (.inr (.inl a))).2 (λe=>ek.iS h.p (e ▸ h.sn) a) (h.d3 id a),by rw[hl,gh,oq];exact c,?_,q,h.tt,λi f=>(h.pm i f).keep λid a=>?_,by simp[l],λi f=>?_,⟨.inl h.oZ.1, .inl h.oZ.2.1, .inl h.oZ.2.2⟩,λid a=>?_,h.om,λid r=>?_,λid d=>?_,h.d1,λid h1 h2=>by have:=b id h2;have:=h.t.lt h1;omega,λid h1 h2=>by have:=b id h2;have:=h.p.lt h1;omega,h.ne⟩
 ·rw[ho TN (h.ol TN h.oZ.2.1) (CM h.tn h.dR) h.ne (ek.iS h.x h.tn)];exact h.tn
 ·have hm:=h.fo id (h.om i f id a);exact ho id (h.ol id hm.1) hm.2.1 hm.2.2.2.1 hm.2.2.2.2.2.2
 ·rw[hl]at f;by_cases e:i<xs.length
  ·have g:(xr++[(x.1,rv)]).getD i default=xr.getD i default:=by simp[gD,List.getElem?_append_left (show i<xr.length by omega)]
   have j:(xs++[x]).getD i default=xs.getD i default:=by simp[gD,List.getElem?_append_left e]
   rw[g,j];exact h.xx i e
  ·have u:i=xs.length:=by omega
   subst u;have g:(xr++[(x.1,rv)]).getD xs.length default=(x.1,rv):=by rw[<- l];simp[gD]
   have j:(xs++[x]).getD xs.length default=x:=by simp[gD]
   rw[g,j];exact⟨rfl,m⟩
 ·rcases a with a | a | a
  ·have:=h.ou id (.inl a);exact⟨.inl this.1,this.2⟩
  ·have:=h.ou id (.inr (.inl a));exact⟨.inl this.1,this.2⟩
  ·have:=b id a;exact⟨.inr ⟨this,c.lt a⟩,by omega⟩
 ·have hm:=h.fo id r;have w:=h.ol id hm.1;exact⟨.inl hm.1,hm.2.1,hm.2.2.1,hm.2.2.2.1,hm.2.2.2.2.1,hm.2.2.2.2.2.1,λh2=>by have:=b id h2;omega⟩
 ·rcases d with d | d
  ·have:=h.ol id d;omega
  ·exact d.2
end
def SR (s:St) (Z:Nat) (B:Bu) (sv nv:LV) (most:Int) (ts:List (List Nd)) (xs:List (Nat × List Int)) (O F:Nat->Prop):Prop:=∃ tv pv xv TN SN td mQ xr,SX s Z B sv nv most ts xs O F tv pv xv TN SN td mQ xr
theorem g6 {v:LV}{cs:List LV}{n:Nat}(h:Sl v cs n):cells? v=some [v]:=by cases h<;>rfl
theorem Jz {s:St}{Z:Nat}{B:Bu}{sv nv:LV}{most:Int}{ts:List (List Nd)}{xs:List (Nat × List Int)}{O F:Nat->Prop}(hS:SR s Z B sv nv most ts xs O F) {wS:LV}{t:List Nd}{rs:List (Int × Int × LV)}(v:jK wS t rs) (w:TrB t) (ia:ts.length<=100000) :
 aM Tryz.prog GL (.fn (.func 49) [] []) [.aO Z 0,wS] s (λr s'=>r = .int .i64 (dw cq ts (cq t):Int)/\SR s' Z B sv nv most (gY cq ts t) xs (λid=>O id∨s.n<=id/\id<s'.n) F/\s.n<=s'.n/\(∀ id,F id->s'.get id=s.get id)/\∀ id,id<s.n->¬ O id->s'.get id=s.get id):=by
 obtain⟨tv,pv,xv,TN,SN,td,mQ,xr,b⟩:=hS;have BL:=v.closed;have kn:=v.sl.len;have pI:=w.len;refine bM (first:=[]) (caps:=[]) Tryz.func49 br c49 bw (aX.mono (Q:=λo e s'=>(o = .normal∨o = .jmp .ret)/\e.at 4 = .int .i64 (dw cq ts (cq t):Int)/\SR s' Z B sv nv most (gY cq ts t) xs (λid=>O id∨s.n<=id/\id<s'.n) F/\s.n<=s'.n/\(∀ id,F id->s'.get id=s.get id)/\∀ id,id<s.n->¬ O id->s'.get id=s.get id) ?_ λo e s' hh=>by
  obtain⟨h1,h2,h3⟩:=hh;exact⟨h1,_,by simp[l49,aW,bD,h2],rfl,h3⟩)
 refine Cd.out (mH λe e0 e1=>?_);unfold l49;dsimp only[jA,jG,qN,qF,qS,qI,qA,qB,qC,qJ,qT,qD,qX,qY,qG,qm,ql,qR];repeat' (first|refine aG @kn ?_|(first|apply ah|apply af)<;>intro g)
 refine aN (λm e s1=>∃ (k:Nat) (P:LV),m=t.length - k/\k<=t.length/\s.n<=s1.n/\(∀ id,id<s.n->s1.get id=s.get id)/\Sx s1 P (ints (eX (t.take k))) (eX (t.take k)).length/\(∀ id,aQ P id->s.n<=id)/\e.at 0 = .aO Z 0/\e.at 1=wS/\e.at 5=P/\e.at 11=wS/\e.at 12 = .int .i64 (t.length:Int)/\e.at 13 = .int .i64 (k:Int)) _
  ⟨0, .aq,rfl,by omega,Nat.le_refl _,λ_ _=>rfl,Sx.nil _,λid a=>absurd a (bE id),ef,ef,ef,ef,ef,by simp only[lk,Nat.reduceEqDiff,if_false,if_true];rfl⟩ ?_
 clear e0 e1;clear e;rintro m e s1 ⟨k,P,rfl,hk,eu,ho,y,G,e0,e1,e5,n6,AW,VL⟩;by_cases cG:k<t.length
 ·have iN:(k:Int)<(t.length:Int):=by omega
  have cD:=@bQ k (by omega);have kG:=λs=>v.get cG s;have T:=v.nd k cG;have ep:=take_one t default cG;have gb:t.getD k default∈t:=cn cG;generalize t.getD k default=n at *;have cS:=T.set;have iK:=cS.sl.len;have m9:=cS.sl.cell;have hvcl:=cS.closed;generalize (rs.getD k default).2.2=yv at *;have DJ:=w.par n gb;have gV:=w.set n gb;have Qt:IntKind.i64.wrap (n.par+1)=n.par+1:=wrap_i64 _ (by omega) (by omega);have fH:=Bz (t:=t.take k) λm hm=>w.set m (List.mem_of_mem_take hm);rw[List.length_take]at fH;have lY:Bx (eX (t.take (k+1))=eX (t.take k)++[n.name,n.par+1,(n.set.length:Int)]++n.set):=⟨by rw[ep];simp[eX]⟩;generalize eX (t.take k)=A at *;have hAl:A.length<=100000:=by
   have:min k t.length*3003<=30*3003:=Nat.mul_le_mul_right _ (by omega);omega
  have fy:((s1.new (.cells .mut [.int .i64 0, .int .i64 0, .aq])).put s1.n (.cells .mut [.int .i64 n.name, .int .i64 n.par,yv])).get s1.n=some (.cells .mut [.int .i64 n.name, .int .i64 n.par,yv]):=by rw[St.az,if_pos rfl]
  have jk:((s1.new (.cells .mut [.int .i64 0, .int .i64 0, .aq])).put s1.n (.cells .mut [.int .i64 n.name, .int .i64 n.par,yv])).n=s1.n+1:=rfl;have ng:∀ id,id<s1.n->((s1.new (.cells .mut [.int .i64 0, .int .i64 0, .aq])).put s1.n (.cells .mut [.int .i64 n.name, .int .i64 n.par,yv])).get id=s1.get id:=λid d=>by rw[St.az,if_neg (by omega),St.aA,if_neg (by omega)]
  have U:=y.mono (s':=(s1.new (.cells .mut [.int .i64 0, .int .i64 0, .aq])).put s1.n (.cells .mut [.int .i64 n.name, .int .i64 n.par,yv])) (by omega) λid a=>ng id (y.lt a);have hNl:=λid=>y.lt (id:=id);have u:=Bx.mk (And.intro U (And.intro ho ng));clear y U ho ep ng;repeat' (first|refine aG (aj (@cU _ _ _ v.sl) @kG) ?_|(first|apply ah|apply af)<;>intro g)
  generalize (s1.new (.cells .mut [.int .i64 0, .int .i64 0, .aq])).put s1.n (.cells .mut [.int .i64 n.name, .int .i64 n.par,yv])=s2 at *;repeat' (first|refine aG (aj @fy (aj @Qt @iK)) ?_|(first|apply ah|apply af)<;>intro g)
  refine HG (k:=3) (n:=A.length) (vs:=ints [n.name,n.par+1,(n.set.length:Int)]) (cells:=ints A) (yv:=P) (by
   simp only[bt,List.map,lk,Nat.reduceEqDiff,if_false,if_true,List.map,Qt];have hc:∀ z:Int,cells? (.int .i64 z)=some [.int .i64 z]:=λ_=>rfl;simp[rep,aU,hc,splice,ints]) (by simp) (bI _) ef u.out.1 (by unfold big;omega) (λs3 r3 h1 h2 h3 h4=>?_)
  have xG:s3.get s1.n=some (.cells .mut [.int .i64 n.name, .int .i64 n.par,yv]):=by rw[h3 _ (by omega) λa=>by have:=hNl _ a;omega];exact fy
  have H:=Bx.mk (And.intro h1 (And.intro h3 h4));have h1l:=λid=>h1.lt (id:=id);clear h1 h3;repeat' (first|refine aG @xG ?_|(first|apply ah|apply af)<;>intro g)
  refine CB (k:=n.set.length) (n:=A.length+3) (xv:=yv) (yv:=r3) (vs:=ints n.set) (cells:=ints A++ints [n.name,n.par+1,(n.set.length:Int)]) wN ef cS.sl (by simp) (bI _) ef H.out.1 (by unfold big;omega) (λq r4 k1 k2 k3 k4=>?_);have hints:ints A++ints [n.name,n.par+1,(n.set.length:Int)]++ints n.set=ints (eX (t.take (k+1))):=by rw[lY.out];simp[ints]
  have C:A.length+3+n.set.length=(eX (t.take (k+1))).length:=by rw[lY.out];simp;omega
  rw[hints,C]at k1;have fD:∀ id,id<s.n->q.get id=s.get id:=λid d=>by
   rw[k3 id (by omega) λa=>by have:=h4 id a;omega,H.out.2.1 id (by omega) λa=>by have:=G id a;omega,u.out.2.2 id (by omega)];exact u.out.2.1 id d
  have NL:=Bx.mk (And.intro k1 (And.intro fD k4));clear k1 fD k3 u H xG fy kG hints C;repeat' (first|refine aG @cD ?_|(first|apply ah|apply af)<;>intro g)
  refine⟨t.length - (k+1),by omega,k+1,r4,rfl,by omega,by omega,NL.out.2.1,NL.out.1,λid a=>by have:=k4 id a;omega,?_⟩;simp only[lk,Nat.reduceEqDiff,if_false,if_true,cD,e0,e1,n6,AW,and_self]
 ·have rO:k=t.length:=by omega
  subst rO;rw[List.take_length]at y;have fH:=Bz w.set;have Zh:∀ x∈eX t,bU x:=λx hx=>by
   unfold eX at hx;obtain⟨n,hn,hx⟩:=List.mem_flatMap.1 hx;obtain⟨i,hi,rfl⟩:=List.getElem_of_mem hn;have T:=v.nd i hi;have kW:t.getD i default=t[i]:=by rw[gD,gE hi];rfl
   rw[kW]at T;have hp:=w.par _ hn;have hs:=w.set _ hn;rcases List.mem_cons.1 hx with rfl | hx
   ·exact T.nr
   rcases List.mem_cons.1 hx with rfl | hx
   ·unfold bU;omega
   rcases List.mem_cons.1 hx with rfl | hx
   ·unfold bU;omega
   ·exact T.set.tQ x hx
  have Fs:=JA y Zh (by
   have:t.length*3003<=30*3003:=Nat.mul_le_mul_right _ w.len;omega)
  have xH:=b.keep (s':=s1) eu λid d=>ho id (b.ol id d);have fJ:=Bx.mk xH;have hNc:=y.cell;clear xH y;repeat' (first|refine aG trivial ?_|(first|apply ah|apply af)<;>intro g)
  refine bK wN (fv:=.fn (.func 74) [] []) (vs:=[P]) ef ef (aM.mono Fs λx s2 hh=>⟨trivial,?_⟩);obtain⟨rfl,jk,iM⟩:=hh;simp only[Env.aB];have DP:=fJ.out.keep (s':=s2) (by omega) λid d=>iM id λa=>by have:=G id a;have:=b.ol id d;omega
  have D:∀ id,id<s.n->s2.get id=s.get id:=λid d=>(iM id λa=>by have:=G id a;omega).trans (ho id d);have V:=DP.dR;have I:=DP.tn;have yY:=xy cq (cq t) ts 0;rw[Nat.zero_add]at yY;have c:=Bx.mk (And.intro DP D);clear Fs fJ iM D ho DP;repeat' (first|refine aG @V ?_|(first|apply ah|apply af)<;>intro g)
  refine JS Uu (M:=TN) (k:=cq t) (L:=kd cq 0 ts) wN ef ef I ?_;rw[yY];clear yY;by_cases j:dw cq ts (cq t)<ts.length
  ·rw[if_pos j];simp only[Option.getD_some,Option.isSome_some];have Dg:Bx (gY cq ts t=ts):=⟨by unfold gY;rw[if_pos j]⟩;clear j V I;repeat' (first|refine aH trivial ?_|(first|apply ah|apply af)<;>intro g)
   refine⟨.inr trivial,ef,?_,by omega,λid j=>c.out.2 id (b.ol id (b.fo id j).1),λid d _=>c.out.2 id d⟩;rw[Dg.out];exact⟨_,_,_,_,_,_,_,_,c.out.1.wide (λid h=>.inl h) λid h=>by
    rcases h with h | h
    ·have:=b.ol id h;omega
    ·exact h.2⟩
  ·rw[if_neg j];simp only[Option.getD_none,Option.isSome_none];have ZF:dw cq ts (cq t)=ts.length:=by have:=rN cq ts (cq t);omega
   have Dg:Bx (gY cq ts t=ts++[t]):=⟨by unfold gY;rw[if_neg j]⟩;have Zy:=WD cq ts t j;have X:=c.out.1.t.len;have htvc:=c.out.1.t.cell;have hpvc:=c.out.1.p.cell;have hxvc:=c.out.1.x.cell;rw[ZF];have eg:=Bx.mk j;clear j;repeat' (first|refine aH (aj @V @X) ?_|(first|apply ah|apply af)<;>intro g)
   refine CA Uu (M:=TN) (k:=cq t) (vv:=.int .i64 (ts.length:Int)) (L:=kd cq 0 ts) ef ef ef I ?_;rw[Zy];have J:Z≠TN:=(CM I V).symm;have q6:(s2.put TN (.map (mG nq (kd cq 0 (ts++[t]))))).get Z=some (.cells .mut [.int .i64 B.L,sv,nv, .int .i64 most,tv,pv, .aR TN,xv, .aR SN]):=by rw[St.az,if_neg J];exact V
   have YT:(s2.put TN (.map (mG nq (kd cq 0 (ts++[t]))))).get TN=some (.map (mG nq (kd cq 0 (ts++[t])))):=by rw[St.az,if_pos rfl]
   have Y:∀ id,id≠TN->(s2.put TN (.map (mG nq (kd cq 0 (ts++[t]))))).get id=s2.get id:=λid d=>by rw[St.az,if_neg d]
   have o9:(s2.put TN (.map (mG nq (kd cq 0 (ts++[t]))))).n=s2.n:=rfl;have K:=c.out.1.t.mono (s':=s2.put TN (.map (mG nq (kd cq 0 (ts++[t]))))) (by omega) λid a=>Y id λe=>ek.iS c.out.1.t (e ▸ I) a;have NI:=c.out.1.p.mono (s':=s2.put TN (.map (mG nq (kd cq 0 (ts++[t]))))) (by omega) λid a=>Y id λe=>ek.iS c.out.1.p (e ▸ I) a;generalize s2.put TN (.map (mG nq (kd cq 0 (ts++[t]))))=s3 at *;have q5:cells? wS=some [wS]:=g6 v.sl;have hZs:=b.ol Z b.oZ.1;have hTs:=b.ol TN b.oZ.2.1;have N:=b.ou;repeat' (first|refine aH @q6 ?_|(first|apply ah|apply af)<;>intro g)
   refine qc (n:=ts.length) (aZ:=1) (xv:=wS) (yv:=tv) (vs:=[wS]) (cells:=td) ef q5 rfl rfl (by simp[LV.closed.au,BL]) ef K (by decide) (by omega) (λq l b1 b2 b3 b4=>?_);have FO:q.get Z=some (.cells .mut [.int .i64 B.L,sv,nv, .int .i64 most,tv,pv, .aR TN,xv, .aR SN]):=by rw[b4 Z (by omega) λa=>(N Z (.inl a)).2 rfl];exact q6
   have hp4:=NI.mono b3 λid a=>b4 id (NI.lt a) λh2=>c.out.1.d1 id h2 a;have E:=(b4 TN (by omega) (ek.iS K YT)).trans YT;have R:=Bx.mk (And.intro b2 (And.intro b4 E));have hp3l:=λid=>NI.lt (id:=id);clear b2 b4 E q6 YT K NI;repeat' (first|refine aH @FO ?_|(first|apply ah|apply af)<;>intro g)
   have zh:(q.put Z (.cells .mut [.int .i64 B.L,sv,nv, .int .i64 most, .aE l 0 (ts.length+1) 1,pv, .aR TN,xv, .aR SN])).get Z=some (.cells .mut [.int .i64 B.L,sv,nv, .int .i64 most, .aE l 0 (ts.length+1) 1,pv, .aR TN,xv, .aR SN]):=by rw[St.az,if_pos rfl]
   have S:∀ id,id≠Z->(q.put Z (.cells .mut [.int .i64 B.L,sv,nv, .int .i64 most, .aE l 0 (ts.length+1) 1,pv, .aR TN,xv, .aR SN])).get id=q.get id:=λid d=>by rw[St.az,if_neg d]
   have vI:(q.put Z (.cells .mut [.int .i64 B.L,sv,nv, .int .i64 most, .aE l 0 (ts.length+1) 1,pv, .aR TN,xv, .aR SN])).n=q.n:=rfl;have hp5:=hp4.mono (s':=q.put Z (.cells .mut [.int .i64 B.L,sv,nv, .int .i64 most, .aE l 0 (ts.length+1) 1,pv, .aR TN,xv, .aR SN])) (by omega) λid a=>S id (N id (.inr (.inl a))).2;generalize q.put Z (.cells .mut [.int .i64 B.L,sv,nv, .int .i64 most, .aE l 0 (ts.length+1) 1,pv, .aR TN,xv, .aR SN])=s5 at *;clear FO hp4;repeat' (first|refine aH @zh ?_|(first|apply ah|apply af)<;>intro g)
   refine qc (n:=ts.length) (aZ:=1) (xv:=.aq) (yv:=pv) (vs:=[.aq]) (cells:=mQ) ef rfl rfl rfl rfl ef hp5 (by decide) (by omega) (λs6 j6 c1 c2 c3 c4=>?_);have KO:s6.get Z=some (.cells .mut [.int .i64 B.L,sv,nv, .int .i64 most, .aE l 0 (ts.length+1) 1,pv, .aR TN,xv, .aR SN]):=by rw[c4 Z (by omega) λa=>(N Z (.inr (.inl a))).2 rfl];exact zh
   have f:=Bx.mk (And.intro c2 c4);have hp5l:=λid=>hp5.lt (id:=id);clear c2 c4 zh;repeat' (first|refine aH @KO ?_|(first|apply ah|apply af)<;>intro g)
   have hj4:=R.out.1.lt (aI.2 rfl:aQ (.aE l 0 (ts.length+1) 1) l);have Aj:=c.out.1;have hA:=Aj.addT (t:=t) (wS:=wS) ⟨rs,v⟩ (s':=s6.put Z (.cells .mut [.int .i64 B.L,sv,nv, .int .i64 most, .aE l 0 (ts.length+1) 1, .aE j6 0 (ts.length+1) 1, .aR TN,xv, .aR SN])) (DB:=.aE l 0 (ts.length+1) 1) (pv':=.aE j6 0 (ts.length+1) 1) (by simp;omega) (by rw[St.az,if_pos rfl])
    (by rw[St.az,if_neg J.symm,f.out.2 TN (by omega) (λa=>ek.iS Aj.p I a),S TN J.symm];exact R.out.2.2)
    (R.out.1.mono (by simp;omega) λid a=>by
     have:=aI.1 a;rw[St.az,if_neg (by omega),f.out.2 id (by omega) (λuz=>by have:=hp3l id uz;omega),S id (by omega)])
    (λid a=>by have:=aI.1 a;omega)
    (f.out.1.mono (by simp) λid a=>by
     have:=aI.1 a;rw[St.az,if_neg (by omega)])
    (λid a=>by have:=aI.1 a;omega) (λid h1 h2=>by have:=aI.1 h1;have:=aI.1 h2;omega)
    (λid h1 h2 h3 h4 h5=>by
     rw[St.az,if_neg h2,f.out.2 id (by omega) h5,S id h2,R.out.2.1 id (by omega) h4,Y id h3])
   refine⟨.inr trivial,ef,?_,by simp;omega,λid j=>?_,λid h1 h2=>?_⟩
   ·rw[Dg.out];exact⟨_,_,_,_,_,_,_,_,hA.wide (λid h=>by
     rcases h with h | h
     ·exact .inl h
     ·exact .inr ⟨by omega,h.2⟩) λid h=>by
     rcases h with h | h
     ·have:=b.ol id h;simp;omega
     ·exact h.2⟩
   ·have hm:=b.fo id j;have dH:=b.ol id hm.1;rw[St.az,if_neg hm.2.1,f.out.2 id (by omega) hm.2.2.2.2.2.1,S id hm.2.1,R.out.2.1 id (by omega) hm.2.2.2.2.1,Y id hm.2.2.1];exact c.out.2 id dH
   ·have hnZ:id≠Z:=λe=>h2 (e ▸ b.oZ.1);have hnT:id≠TN:=λe=>h2 (e ▸ b.oZ.2.1);rw[St.az,if_neg hnZ,f.out.2 id (by omega) (λa=>h2 (b.ou id (.inr (.inl a))).1),S id hnZ,R.out.2.1 id (by omega) (λa=>h2 (b.ou id (.inl a)).1),Y id hnT];exact c.out.2 id h1
theorem P0 (x:Int):bU (um x):=by
 have h1:(BitVec.ofInt 64 x &&& BitVec.ofInt 64 32767).toNat<=32767:=by
  rw[BitVec.toNat_and];exact Nat.le_trans Nat.and_le_right (by decide)
 unfold um;rw[wrap_i64 _ (by omega) (by omega)];unfold bU;omega
theorem Jo {s:St}{Z:Nat}{B:Bu}{sv nv:LV}{most:Int}{ts:List (List Nd)}{xs:List (Nat × List Int)}{O F:Nat->Prop}(hS:SR s Z B sv nv most ts xs O F) {rv:LV}{r:List Int}(w:aP rv r) (fX:r.length<=6000) {k:Nat}(hk:k<=1000000) (ia:xs.length<=100000) :
 aM Tryz.prog GL (.fn (.func 48) [] []) [.aO Z 0, .agg [.int .i64 (k:Int),rv]] s (λN s'=>N = .int .i64 (dw dr xs (dr (k,r)):Int)/\SR s' Z B sv nv most ts (gY dr xs (k,r)) (λid=>O id∨s.n<=id/\id<s'.n) F/\s.n<=s'.n/\(∀ id,F id->s'.get id=s.get id)/\∀ id,id<s.n->¬ O id->s'.get id=s.get id):=by
 obtain⟨tv,pv,xv,TN,SN,td,mQ,xr,a⟩:=hS;have qu:=w.closed;have y:=w.sl.cell;refine bM (first:=[]) (caps:=[]) Tryz.func48 br c48 bw (aX.mono (Q:=λo e s'=>(o = .normal∨o = .jmp .ret)/\e.at 4 = .int .i64 (dw dr xs (dr (k,r)):Int)/\SR s' Z B sv nv most ts (gY dr xs (k,r)) (λid=>O id∨s.n<=id/\id<s'.n) F/\s.n<=s'.n/\(∀ id,F id->s'.get id=s.get id)/\∀ id,id<s.n->¬ O id->s'.get id=s.get id) ?_ λo e s' P=>by
  obtain⟨h1,h2,h3⟩:=P;exact⟨h1,_,by simp[l48,aW,bD,h2],rfl,h3⟩)
 refine Cd.out (mH λe e0 e1=>?_);unfold l48;dsimp only[jA,jB,jH,qM,qL,qN,qF,qS,qC,qO,qJ,qT,qD,qY,qG,qm,ql,qR];have Fu:kr .shr (.int .i64 (k:Int)) (.int .u64 15)=some (.int .i64 ((k:Int).fdiv 32768)):=rfl;have j:kr .and (.int .i64 (k:Int)) (.int .i64 32767)=some (.int .i64 (um k)):=rfl;repeat' (first|refine aG (aj @Fu @j) ?_|(first|apply ah|apply af)<;>intro q)
 refine iw (v:=.aE s.n 0 2 1) (s':=s.new (.cells .mut (ints [(k:Int).fdiv 32768,um k]))) (by
  simp only[bq.run,bt,List.map,lk,rH,Nat.reduceEqDiff,if_false,if_true,List.map];have hc:∀ z:Int,cells? (.int .i64 z)=some [.int .i64 z]:=λ_=>rfl;simp[rep,aU,hc,splice,ints]) ?_
 have kU:Sx (s.new (.cells .mut (ints [(k:Int).fdiv 32768,um k]))) (.aE s.n 0 2 1) (ints [(k:Int).fdiv 32768,um k]) 2:=⟨rfl, .inr ⟨s.n,rfl,by simp,by rw[St.aA,if_pos rfl]⟩⟩;have ng:∀ id,id<s.n->(s.new (.cells .mut (ints [(k:Int).fdiv 32768,um k]))).get id=s.get id:=λid c=>by rw[St.aA,if_neg (by omega)]
 have eu:(s.new (.cells .mut (ints [(k:Int).fdiv 32768,um k]))).n=s.n+1:=rfl;generalize s.new (.cells .mut (ints [(k:Int).fdiv 32768,um k]))=s1 at *;repeat' (first|refine aG trivial ?_|(first|apply ah|apply af)<;>intro q)
 refine CB (k:=r.length) (n:=2) (xv:=rv) (yv:=.aE s.n 0 2 1) (vs:=ints r) (cells:=ints [(k:Int).fdiv 32768,um k]) wN ef w.sl (by simp) (bI _) ef kU (by unfold big;omega) (λs2 T7 h1 h2 h3 I=>?_);have hints:ints [(k:Int).fdiv 32768,um k]++ints r=ints (sR (k,r)):=by simp[ints,sR]
 have g:2+r.length=(sR (k,r)).length:=by simp[sR];omega
 rw[hints,g]at h1;have l:(k:Int).fdiv 32768=(k:Int) / 32768:=Int.fdiv_eq_ediv_of_nonneg _ (by omega);have Zh:∀ x∈sR (k,r),bU x:=λx hx=>by
  unfold sR at hx;rcases List.mem_cons.1 hx with rfl | hx
  ·show bU ((k:Int).fdiv 32768);rw[l];unfold bU;omega
  rcases List.mem_cons.1 hx with rfl | hx
  ·exact P0 _
  ·exact w.tQ x hx
 have Fs:=JA h1 Zh (by rw[<- g];omega);have R:∀ id,id<s.n->s2.get id=s.get id:=λid c=>(h3 id (by omega) λb=>by have:=aI.1 b;omega).trans (ng id c);have A:∀ id,aQ T7 id->s.n<=id:=λid b=>by have:=I id b;omega
 have xH:=a.keep (s':=s2) (by omega) λid c=>R id (a.ol id c);have S:=Bx.mk (And.intro xH R);have hNc:=h1.cell;clear xH h1 h3 I kU ng R Fu j;repeat' (first|refine aG trivial ?_|(first|apply ah|apply af)<;>intro q)
 refine bK wN (fv:=.fn (.func 74) [] []) (vs:=[T7]) ef ef (aM.mono Fs λx i P=>⟨trivial,?_⟩);obtain⟨rfl,o9,m⟩:=P;simp only[Env.aB];have u:=S.out.1.keep (s':=i) (by omega) λid c=>m id λb=>by have:=A id b;have:=a.ol id c;omega
 have QJ:∀ id,id<s.n->i.get id=s.get id:=λid c=>(m id λb=>by have:=A id b;omega).trans (S.out.2 id c);have C:=u.dR;have D:=u.sn;have T:=xy dr (dr (k,r)) xs 0;rw[Nat.zero_add]at T;have d:=Bx.mk (And.intro u QJ);clear Fs S m QJ u hints g l Zh;repeat' (first|refine aG @C ?_|(first|apply ah|apply af)<;>intro q)
 refine JS Uu (M:=SN) (k:=dr (k,r)) (L:=kd dr 0 xs) wN ef ef D ?_;rw[T];clear T;by_cases f:dw dr xs (dr (k,r))<xs.length
 ·rw[if_pos f];simp only[Option.getD_some,Option.isSome_some];have U:Bx (gY dr xs (k,r)=xs):=⟨by unfold gY;rw[if_pos f]⟩;clear f C D;repeat' (first|refine aH trivial ?_|(first|apply ah|apply af)<;>intro q)
  refine⟨.inr trivial,ef,?_,by omega,λid f=>d.out.2 id (a.ol id (a.fo id f).1),λid c _=>d.out.2 id c⟩;rw[U.out];exact⟨_,_,_,_,_,_,_,_,d.out.1.wide (λid h=>.inl h) λid h=>by
   rcases h with h | h
   ·have:=a.ol id h;omega
   ·exact h.2⟩
 ·rw[if_neg f];simp only[Option.getD_none,Option.isSome_none];have ZF:dw dr xs (dr (k,r))=xs.length:=by have:=rN dr xs (dr (k,r));omega
  have U:Bx (gY dr xs (k,r)=xs++[(k,r)]):=⟨by unfold gY;rw[if_neg f]⟩;have Zy:=WD dr xs (k,r) f;have UB:=d.out.1.x.len;have htvc:=d.out.1.t.cell;have hpvc:=d.out.1.p.cell;have hxvc:=d.out.1.x.cell;rw[ZF];have eg:=Bx.mk f;clear f;repeat' (first|refine aH (aj @C @UB) ?_|(first|apply ah|apply af)<;>intro q)
  refine CA Uu (M:=SN) (k:=dr (k,r)) (vv:=.int .i64 (xs.length:Int)) (L:=kd dr 0 xs) ef ef ef D ?_;rw[Zy];have E:Z≠SN:=(CM D C).symm;have J:(i.put SN (.map (mG nq (kd dr 0 (xs++[(k,r)]))))).get Z=some (.cells .mut [.int .i64 B.L,sv,nv, .int .i64 most,tv,pv, .aR TN,xv, .aR SN]):=by rw[St.az,if_neg E];exact C
  have sx:(i.put SN (.map (mG nq (kd dr 0 (xs++[(k,r)]))))).get SN=some (.map (mG nq (kd dr 0 (xs++[(k,r)])))):=by rw[St.az,if_pos rfl]
  have m:∀ id,id≠SN->(i.put SN (.map (mG nq (kd dr 0 (xs++[(k,r)]))))).get id=i.get id:=λid c=>by rw[St.az,if_neg c]
  have hn3':(i.put SN (.map (mG nq (kd dr 0 (xs++[(k,r)]))))).n=i.n:=rfl;have G:=d.out.1.x.mono (s':=i.put SN (.map (mG nq (kd dr 0 (xs++[(k,r)]))))) (by omega) λid b=>m id λe=>ek.iS d.out.1.x (e ▸ D) b;generalize i.put SN (.map (mG nq (kd dr 0 (xs++[(k,r)]))))=s4 at *;have q5:cells? (.agg [.int .i64 (k:Int),rv])=some [.int .i64 (k:Int),rv]:=by
   have:[LV.int .i64 (k:Int),rv].all bf=true:=by simp only[List.all_cons,List.all_nil,Bool.and_true,y];rfl
   simp only[cells?,this,if_true]
  have hZs:=a.ol Z a.oZ.1;have hTs:=a.ol SN a.oZ.2.2;have V:=a.ou;repeat' (first|refine aH @J ?_|(first|apply ah|apply af)<;>intro q)
  have FO:(s4.new (.cells .mut [.int .i64 (k:Int),rv])).get Z=some (.cells .mut [.int .i64 B.L,sv,nv, .int .i64 most,tv,pv, .aR TN,xv, .aR SN]):=by rw[St.aA,if_neg (by omega)];exact J
  refine HI (n:=xs.length) (aZ:=2) (xv:=.agg [.int .i64 (k:Int),rv]) (yv:=xv) (vs:=[.int .i64 (k:Int),rv]) (cells:=dm K7 xr) ef q5 rfl rfl (by simp[LV.closed.au,LV.closed,qu]) ef G ⟨.inr ⟨rfl,by simp[bq.run,rH,Nat.reduceEqDiff,Nat.reduceAdd,reduceIte,bG,FO,bG]⟩, .inr ⟨rfl,by simp[bq.run,rH,Nat.reduceEqDiff,Nat.reduceAdd,reduceIte,bG,bG]⟩,trivial⟩ (by decide) (by omega) (λs5 j5 b1 b2 b3 K=>?_);have zh:s5.get Z=some (.cells .mut [.int .i64 B.L,sv,nv, .int .i64 most,tv,pv, .aR TN,xv, .aR SN]):=by rw[K Z (by omega) λb=>(V Z (.inr (.inr b))).2 rfl];exact J
  have Y0:=(K SN (by omega) (ek.iS G sx)).trans sx;have H:=Bx.mk (And.intro b2 (And.intro K Y0));clear b2 K J FO Y0;repeat' (first|refine aH @zh ?_|(first|apply ah|apply af)<;>intro q)
  have u:=d.out.1;have hA:=u.addX (x:=(k,r)) (rv:=rv) w (s':=s5.put Z (.cells .mut [.int .i64 B.L,sv,nv, .int .i64 most,tv,pv, .aR TN, .aE j5 0 (xs.length+1) 2, .aR SN])) (xv':=.aE j5 0 (xs.length+1) 2) (by simp;omega) (by rw[St.az,if_pos rfl])
   (by rw[St.az,if_neg E.symm];exact H.out.2.2)
   (H.out.1.mono (by simp) λid b=>by
    have:=aI.1 b;rw[St.az,if_neg (by omega)])
   (λid b=>by have:=aI.1 b;omega)
   (λid h1 h2 h3 I=>by
    rw[St.az,if_neg h2,H.out.2.1 id (by omega) I,m id h3])
  refine⟨.inr trivial,ef,?_,by simp;omega,λid f=>?_,λid h1 h2=>?_⟩
  ·rw[U.out];exact⟨_,_,_,_,_,_,_,_,hA.wide (λid h=>by
    rcases h with h | h
    ·exact .inl h
    ·exact .inr ⟨by omega,h.2⟩) λid h=>by
    rcases h with h | h
    ·have:=a.ol id h;simp;omega
    ·exact h.2⟩
  ·have hm:=a.fo id f;have dH:=a.ol id hm.1;rw[St.az,if_neg hm.2.1,H.out.2.1 id (by omega) hm.2.2.2.2.2.2,m id hm.2.2.2.1];exact d.out.2 id dH
  ·have X:id≠Z:=λe=>h2 (e ▸ a.oZ.1);have Y:id≠SN:=λe=>h2 (e ▸ a.oZ.2.2);rw[St.az,if_neg X,H.out.2.1 id (by omega) (λb=>h2 (a.ou id (.inr (.inr b))).1),m id Y];exact d.out.2 id h1
theorem uY {α:Type}(key:α->List UInt8) (x:α):gY key [] x=[x]/\dw key ([]:List α) (key x)=0:=by
 unfold gY dw;simp
theorem Ua {A:LV}{B:Bu}{sv nv:LV}(hB:vo A B sv nv) (C:Vb B) (hN:B.next.length<=10) (hl:B.start.length<=64) (most:Int) (s:St) :
 aM Tryz.prog GL (.fn (.func 23) [] []) [A, .int .i64 most] s (λr s'=>∃ Z O,r = .aO Z 0/\SR s' Z B sv nv most [xj B] [(0,lN (2*B.next.length))] O (λ_=>False)/\s.n<=s'.n/\(∀ id,O id->s.n<=id)/\∀ id,id<s.n->s'.get id=s.get id):=by
 have bV:=hB.closed;have P:=La hB C hl;have R:=Lb hB C;have S:=Ek (n:=2*B.next.length) (by omega);obtain⟨rfl,hs,b⟩:=hB;have m9:=hs.closed;have mD:=b.closed;obtain⟨vs,T⟩:=b;have D:=hs.sl.cell;have E:=T.sl.cell;refine bM (first:=[]) (caps:=[]) Tryz.func23 br c23 bw (aX.mono (Q:=λo e s'=>(o = .normal∨o = .jmp .ret)/\∃ Z O,e.at 4 = .aO Z 0/\SR s' Z B sv nv most [xj B] [(0,lN (2*B.next.length))] O (λ_=>False)/\s.n<=s'.n/\(∀ id,O id->s.n<=id)/\∀ id,id<s.n->s'.get id=s.get id) ?_ λo e s' f=>by
  obtain⟨h1,Z,O,h2,h3⟩:=f;exact⟨h1,_,by simp[l23,aW,bD,h2],Z,O,rfl,h3⟩)
 refine Cd.out (mH λe e0 e1=>?_);unfold l23;dsimp only[jA,jB,qM,qN,qO,qG,qm,qR];repeat' (first|refine aG trivial ?_|(first|apply ah|apply af)<;>intro q)
 refine jM (n:=s.n) wN rfl ?_;refine jM (n:=s.n+1) wN rfl ?_;have U:cells? (.agg [.int .i64 B.L,sv,nv])=some [.int .i64 B.L,sv,nv]:=by
  have:[LV.int .i64 B.L,sv,nv].all bf=true:=by simp only[List.all_cons,List.all_nil,Bool.and_true,D,E];rfl
  simp only[cells?,this,if_true]
 have g:cells? (.agg [.int .i64 B.L,sv,nv, .int .i64 most, .aq, .aq, .aR s.n, .aq, .aR (s.n+1)])=some [.int .i64 B.L,sv,nv, .int .i64 most, .aq, .aq, .aR s.n, .aq, .aR (s.n+1)]:=by
  have:[LV.int .i64 B.L,sv,nv, .int .i64 most, .aq, .aq, .aR s.n, .aq, .aR (s.n+1)].all bf=true:=by simp only[List.all_cons,List.all_nil,Bool.and_true,D,E];rfl
  simp only[cells?,this,if_true]
 refine cC (vs:=[.int .i64 B.L,sv,nv, .int .i64 most, .aq, .aq, .aR s.n, .aq, .aR (s.n+1)]) wN (by
  simp only[bt,List.map,lk,Nat.reduceEqDiff,if_false,if_true,List.map];simp[aU,U,zM,fq,splice]) ?_
 refine iw (v:=.aO (s.n+2) 0) (s':=((s.new (.map [])).new (.map [])).new (.cells .mut [.int .i64 B.L,sv,nv, .int .i64 most, .aq, .aq, .aR s.n, .aq, .aR (s.n+1)])) (by
  simp only[bq.run,lk,rH,Nat.reduceEqDiff,if_false,if_true,g];simp) ?_
 have G:SX (((s.new (.map [])).new (.map [])).new (.cells .mut [.int .i64 B.L,sv,nv, .int .i64 most, .aq, .aq, .aR s.n, .aq, .aR (s.n+1)])) (s.n+2) B sv nv most [] [] (λid=>s.n<=id/\id<s.n+3) (λ_=>False) .aq .aq .aq s.n (s.n+1) [] [] []:={
  dR:=by rw[St.aA,if_pos (by simp)]
  t:=ek.nil _ _
  p:=ek.nil _ _
  x:=ek.nil _ _
  tn:=by rw[St.aA,if_neg (by simp;omega),St.aA,if_neg (by simp),St.aA,if_pos rfl];rfl
  sn:=by rw[St.aA,if_neg (by simp),St.aA,if_pos (by simp)];rfl
  tt:=λi c=>absurd c (by simp)
  pm:=λi c=>absurd c (by simp)
  xl:=rfl
  xx:=λi c=>absurd c (by simp)
  oZ:=by omega
  ou:=λid a=>by
   rcases a with a | a | a<;>exact absurd a (bE id)
  om:=λi c=>absurd c (by simp)
  fo:=λid h=>h.elim
  ol:=λid h=>by simp;omega
  d1:=λid a=>absurd a (bE id)
  d2:=λid a=>absurd a (bE id)
  d3:=λid a=>absurd a (bE id)
  ne:=by omega }
 have eu:(((s.new (.map [])).new (.map [])).new (.cells .mut [.int .i64 B.L,sv,nv, .int .i64 most, .aq, .aq, .aR s.n, .aq, .aR (s.n+1)])).n=s.n+3:=rfl;have V:∀ id,id<s.n->(((s.new (.map [])).new (.map [])).new (.cells .mut [.int .i64 B.L,sv,nv, .int .i64 most, .aq, .aq, .aR s.n, .aq, .aR (s.n+1)])).get id=s.get id:=λid H=>by rw[St.aA,if_neg (by simp;omega),St.aA,if_neg (by simp;omega),St.aA,if_neg (by omega)]
 generalize ((s.new (.map [])).new (.map [])).new (.cells .mut [.int .i64 B.L,sv,nv, .int .i64 most, .aq, .aq, .aR s.n, .aq, .aR (s.n+1)])=s1 at *;have X:=Bx.mk G;clear G g;repeat' (first|refine aG trivial ?_|(first|apply ah|apply af)<;>intro q)
 refine cK ff P wN ef λY w BL=>⟨⟨.inr ⟨rfl,by simp[bq.run,rH,Nat.reduceEqDiff,Nat.reduceAdd,reduceIte,bG,bG,Env.aB]⟩,trivial⟩,?_⟩;simp only[Env.aB];obtain⟨rs,w⟩:=w;have j:TrB (xj B):=by
  unfold xj;split
  ·exact⟨by simp,λn b=>absurd b (by simp),λn b=>absurd b (by simp)⟩
  ·exact⟨by simp,λn b=>by rw[List.mem_singleton.1 b];show B.start.length<=3000;omega,λn b=>by rw[List.mem_singleton.1 b];show (-1:Int)<=-1/\(-1:Int)<=6000;omega⟩
 have y:=Jz (s:=s1) ⟨_,_,_,_,_,_,_,_,X.out⟩ w j (by simp);rw[(uY cq (xj B)).1,(uY cq (xj B)).2]at y;repeat' (first|refine aG trivial ?_|(first|apply ah|apply af)<;>intro q)
 refine bK wN (fv:=.fn (.func 49) [] []) (vs:=[.aO (s.n+2) 0,Y]) ef ef (aM.mono y λx s2 f=>⟨⟨.inr ⟨rfl,by simp[bq.run,rH,Nat.reduceEqDiff,Nat.reduceAdd,reduceIte,bG,bG,Env.aB]⟩,trivial⟩,?_⟩);simp only[Env.aB];obtain⟨rfl,I,jk,-,J⟩:=f;have l:=Bx.mk (And.intro I J);clear y I J;repeat' (first|refine aG trivial ?_|(first|apply ah|apply af)<;>intro q)
 refine tq ff R wN ef trivial ?_;simp only[Env.aB];refine cK ff S wN ef λu d qu=>⟨trivial,?_⟩;simp only[Env.aB];have K:=d.sl.cell;have q5:cells? u=some [u]:=g6 d.sl;refine cC (vs:=[.int .i64 ((0:Nat):Int),u]) wN (by
  simp only[bt,List.map,lk,Nat.reduceEqDiff,if_false,if_true,List.map];simp[aU,q5,fq,splice]) ?_
 have z:=Jo (k:=0) l.out.1 d (by rw[g8];omega) (by omega) (by simp);rw[(uY dr (0,lN (2*B.next.length))).1,(uY dr (0,lN (2*B.next.length))).2]at z;refine bK wN (fv:=.fn (.func 48) [] []) (vs:=[.aO (s.n+2) 0, .agg [.int .i64 ((0:Nat):Int),u]]) ef ef (aM.mono z λx s3 f=>⟨trivial,?_⟩);simp only[Env.aB];obtain⟨rfl,M,o9,-,N⟩:=f;have m:=Bx.mk (And.intro M N);clear z M N;repeat' (first|refine aG trivial ?_|(first|apply ah|apply af)<;>intro q)
 refine⟨.inr trivial,s.n+2,_,ef,m.out.1,by omega,λid h=>?_,λid H=>?_⟩
 ·rcases h with (h | h) | h<;>omega
 ·rw[m.out.2 id (by omega) (λh=>by rcases h with h | h<;>omega),l.out.2 id (by omega) (λh=>by omega)];exact V id H
end Go.Proofs.YtkbiecjdcjfhaaaGreat
end
