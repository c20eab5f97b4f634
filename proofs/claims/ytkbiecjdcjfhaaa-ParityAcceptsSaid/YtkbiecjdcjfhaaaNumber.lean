/- accept's search: a place is numbered. -/
import Derived.Test.YtkbiecjdcjfhaaaBase
import Derived.Test.YtkbiecjdcjfhaaaPvQ
import Derived.Test.YtkbiecjdcjfhaaaTarjan
set_option linter.unusedSimpArgs false
set_option linter.unusedVariables false
set_option maxRecDepth 100000
set_option maxHeartbeats 16000000
namespace Go.Proofs.Ytkbiecjdcjfhaaa
open Go Go.Pv Go.C2 Go.Bn
open Classical
def bJ (p:Pl):List LV:=[.int .i64 (p.1:Int), .int .i64 (p.2:Int)]
theorem cO (p:Pl):(bJ p).take 2=bJ p:=rfl
def dm:List Pl->List LV
 | []=>[]
 | p::r=>.int .i64 (p.1:Int)::.int .i64 (p.2:Int)::dm r
theorem mH:∀ l:List Pl,(dm l).length=l.length*2
 | []=>rfl
 | m::r=>by simp only[dm,List.length_cons,mH r];omega
theorem mI:∀ (a b:List Pl),dm (a++b)=dm a++dm b
 | [],b=>rfl
 | m::r,b=>by simp only[List.cons_append,dm,mI r b]
theorem rE:∀ l:List Pl,LV.closed.aq (dm l)=true
 | []=>rfl
 | m::r=>by simp[dm,LV.closed.aq,LV.closed,rE r]
theorem pO:∀ {l:List Pl}{i:Nat}{p:Pl},l[i]? = some p->((dm l).drop (i*2)).take 2=bJ p
 | m::r,0,p,h=>by cases h;rfl
 | m::r,i+1,p,h=>by
   rw[show (i+1)*2=i*2+1+1 by omega];simpa[dm] using pO (l:=r) (by simpa using h)
def lN:List Pl->Nat->List (LV × LV)
 | [],_=>[]
 | p::r,i=>(.agg (bJ p), .int .i64 (i:Int))::lN r (i+1)
theorem vr:∀ (a b:List Pl) (i:Nat),lN (a++b) i=lN a i++lN b (i+a.length)
 | [],b,i=>rfl
 | p::r,b,i=>by simp only[List.cons_append,lN,vr r b,List.length_cons];congr 3;omega
abbrev PK:zj:=.st [(0,(1, .int)),(1,(1, .int))]
theorem Z0 (p q:Pl):iM PK (.agg (bJ p)) (.agg (bJ q))=some (decide (p=q)):=by
 obtain⟨a,b⟩:=p;obtain⟨c,d⟩:=q;have e:∀ x y:Nat,((x:Int) == (y:Int))=decide (x=y):=λx y=>by
  by_cases h:x=y
  ·simp[h]
  ·have:¬ ((x:Int)=y):=by omega
   simp[h,this]
 by_cases h1:a=c
 ·by_cases h2:b=d
  ·simp[iM,jP.eqFields,bJ,wh,jI,h1,h2]
  ·simp[iM,jP.eqFields,bJ,wh,e,h1,h2]
 ·simp[iM,jP.eqFields,bJ,wh,e,h1]
theorem Ny (p:Pl):∀ (l:List Pl) (i:Nat),fu PK (.agg (bJ p)) (lN l i) i=some ((idx p l i).map λj=>(j, .int .i64 (j:Int)))
 | [],_=>rfl
 | q::r,i=>by
   simp only[lN,fu,Z0,idx];by_cases h:p=q
   ·simp[h]
   ·simp[h,Ny p r (i+1)]
structure FS (n0:Nat) (Kp:Nat->Prop) (s0:St) (s:St) (jf M:Nat) (pv bv:LV) (acc:Ac Pl):Prop where
  le:n0<=s.n
  j0:n0<=jf
  j1:jf<s.n
  m0:n0<=M
  m1:M<s.n
  ne:M≠jf
  gj:s.get jf=some (.cells .mut [.aI M,pv,bv])
  gM:s.get M=some (.map (lN (acc.map (·.1)) 0))
  sp:dQ s pv 2 (dm (acc.map (·.1))) acc.length
  sb:dQ s bv 1 (ints (acc.map (·.2))) acc.length
  dp:∀ id,aP pv id->n0<=id/\id≠jf/\id≠M
  db:∀ id,aP bv id->n0<=id/\id≠jf/\id≠M
  dd:∀ id,aP pv id->¬ aP bv id
  kp:∀ id,Kp id->id<s.n/\id≠jf/\id≠M/\¬ aP pv id/\¬ aP bv id
  old:∀ id,Kp id->s.get id=s0.get id
theorem FS.keep {c:Nat}{d:Nat->Prop}{e s s':St}{f M:Nat}{g i:LV}{acc:Ac Pl}(h:FS c d e s f M g i acc) (j:s.n<=s'.n) (hs:∀ id,id<s.n->s'.get id=s.get id):FS c d e s' f M g i acc:=by
 have h1:=h.j1;have h2:=h.m1;have h3:=h.le;exact⟨by omega,h.j0,by omega,h.m0,by omega,h.ne,by rw[hs _ h1];exact h.gj,by rw[hs _ h2];exact h.gM,h.sp.mono j λid b=>hs id (h.sp.lt b),h.sb.mono j λid b=>hs id (h.sb.lt b),h.dp,h.db,h.dd,
  λid a=>by have:=h.kp id a;exact⟨by omega,this.2⟩,λid a=>by rw[hs id (h.kp id a).1];exact h.old id a⟩
theorem FS.M3 {f:Nat}{g a:Nat->Prop}{i b s:St}{c M:Nat}{d e:LV}{acc:Ac Pl}(h:FS f g i s c M d e acc) (j:∀ id,a id->id<s.n/\id≠c/\id≠M/\¬ aP d id/\¬ aP e id) (ho:∀ id,a id->s.get id=b.get id):FS f a b s c M d e acc:=
 ⟨h.le,h.j0,h.j1,h.m0,h.m1,h.ne,h.gj,h.gM,h.sp,h.sb,h.dp,h.db,h.dd,j,ho⟩
theorem AH {I:Nat}{B:Nat->Prop}{C s:St}{d M:Nat}{q f:LV}{acc:Ac Pl}(c:FS I B C s d M q f acc) (hl:acc.length<=1000000) (p:Pl) (b:Int):aJ Try.prog GL (.fn (.func 47) [] [.aH d 0]) [.agg (bJ p), .int .i64 b] s
 (λ_ s'=>∃ Ip J,FS I B C s' d M Ip J (Bn.add acc p b)):=by
 refine bL (first:=[]) (caps:=[.aH d 0]) Try.func47 (by decide +kernel) c47 (Nat.le_of_ble_eq_true rfl) (aQ.mono (Q:=λo e s'=>(o = .normal∨o = .jmp .ret)/\∃ Ip J,FS I B C s' d M Ip J (Bn.add acc p b)) ?_ λo e s' X=>by
  exact⟨X.1, .cy [],by simp[l47,br],X.2⟩)
 refine Cd.out (ev3 λe e0 e1 e2=>?_);unfold l47;dsimp only[jA,jG,qN,qF,qS,qO,qm,ql];have gj:=c.gj;have r:=Ny p (acc.map (·.1)) 0;have QV:(LV.agg (bJ p)).closed=true:=rfl;have hpc:cells? (.agg (bJ p))=some (bJ p):=rfl;have hky:iu PK (.agg (bJ p))=true:=rfl;have D:=c.sp.len;have Y:=c.sp.cell;have Z:=c.sb.cell;cases E:idx p (acc.map (·.1)) 0 with
 | some i=>
   rw[E]at r;repeat' (first | refine gA @cO ?_ | (refine gB @cO ?_;rintro (_|_) g<;>try simp only[aG,reduceCtorEq]at g) | fail)
   refine Ng wN (M:=M) (i:=i) (v:=.int .i64 (i:Int)) (kv:=.agg (bJ p)) ef ef rfl c.gM r ?_;repeat' (first | refine gA @cO ?_ | (refine gB @cO ?_;rintro (_|_) g<;>try simp only[aG,reduceCtorEq]at g) | fail)
   refine⟨.inl trivial,q,f,?_⟩;have K:p∈acc.map (·.1):=List.mem_of_getElem? (nC E).2;rw[Bn.add,if_pos K];exact c
 | none=>
   have K:p ∉ acc.map (·.1):=nD.1 E;rw[E]at r;simp only[Option.map_none]at r;have zN:Bn.add acc p b=acc++[(p,b)]:=by rw[Bn.add,if_neg K]
   rw[zN];repeat' (first | refine gA (And.intro @cO @D) ?_ | (refine gB (And.intro @cO @D) ?_;rintro (_|_) g<;>try simp only[aG,reduceCtorEq]at g) | fail)
   refine Nh wN (M:=M) (kv:=.agg (bJ p)) ef ef rfl c.gM r ?_;repeat' (first | refine gA (And.intro @cO @D) ?_ | (refine gB (And.intro @cO @D) ?_;rintro (_|_) g<;>try simp only[aG,reduceCtorEq]at g) | fail)
   refine Ih (M:=M) (kv:=.agg (bJ p)) (vv:=.int .i64 (acc.length:Int)) ef ef ef rfl c.gM r ?_;have l:=c.ne;have nU:(s.put M (.map (lN (acc.map (·.1)) 0++[(.agg (bJ p), .int .i64 (acc.length:Int))]))).get d=some (.cells .mut [.aI M,q,f]):=by rw[St.ah,if_neg (Ne.symm l)];exact gj
   have u:(s.put M (.map (lN (acc.map (·.1)) 0++[(.agg (bJ p), .int .i64 (acc.length:Int))]))).get M=some (.map (lN (acc.map (·.1)++[p]) 0)):=by
    rw[St.ah,if_pos rfl,vr];simp[lN]
   have gH:(s.put M (.map (lN (acc.map (·.1)) 0++[(.agg (bJ p), .int .i64 (acc.length:Int))]))).n=s.n:=rfl;have F:∀ id,id≠M->(s.put M (.map (lN (acc.map (·.1)) 0++[(.agg (bJ p), .int .i64 (acc.length:Int))]))).get id=s.get id:=λid h=>by rw[St.ah,if_neg h]
   generalize s.put M (.map (lN (acc.map (·.1)) 0++[(.agg (bJ p), .int .i64 (acc.length:Int))]))=L at nU u gH F;have L0:dQ L q 2 (dm (acc.map (·.1))) acc.length:=c.sp.mono om λid a=>F id (c.dp id a).2.2;have w:dQ L f 1 (ints (acc.map (·.2))) acc.length:=c.sb.mono om λid a=>F id (c.db id a).2.2;clear gj;repeat' (first | refine gA @cO ?_ | (refine gB @cO ?_;rintro (_|_) g<;>try simp only[aG,reduceCtorEq]at g) | fail)
   refine mF (n:=acc.length) (aU:=2) (xv:=.agg (bJ p)) (yv:=q) (vs:=bJ p) ef rfl rfl rfl rfl ef L0 (by decide) om (λj k a1 a2 a3 a4=>?_);have rN:=c.j1;have mP:=c.m1;have G0:j.get d=some (.cells .mut [.aI M,q,f]):=by rw[a4 d om λa=>(c.dp _ a).2.1 rfl];exact nU
   repeat' (first | refine gA @cO ?_ | (refine gB @cO ?_;rintro (_|_) g<;>try simp only[aG,reduceCtorEq]at g) | fail)
   have Xv:∀ id,aP f id->id<L.n:=λid a=>w.lt a;have pX:k<j.n:=a2.lt (aC.2 rfl);have Vx:j.get M=some (.map (lN (acc.map (·.1)++[p]) 0)):=by rw[a4 M om λa=>(c.dp _ a).2.2 rfl];exact u
   have fL:∀ id,B id->j.get id=C.get id:=λid m=>by
    obtain⟨k1,G,H,N,O⟩:=c.kp id m;rw[a4 id om N,F id H];exact c.old id m
   have x:dQ j f 1 (ints (acc.map (·.2))) acc.length:=w.mono a3 λid a=>a4 id (Xv id a) λy=>c.dd id y a;have wz:(j.put d (.cells .mut [.aI M, .aD k 0 (acc.length+1) 2,f])).get d=some (.cells .mut [.aI M, .aD k 0 (acc.length+1) 2,f]):=by rw[St.ah,if_pos rfl]
   have nG:(j.put d (.cells .mut [.aI M, .aD k 0 (acc.length+1) 2,f])).n=j.n:=rfl;have P:∀ id,id≠d->(j.put d (.cells .mut [.aI M, .aD k 0 (acc.length+1) 2,f])).get id=j.get id:=λid h=>by rw[St.ah,if_neg h]
   generalize j.put d (.cells .mut [.aI M, .aD k 0 (acc.length+1) 2,f])=s3 at wz nG P;have z:dQ s3 f 1 (ints (acc.map (·.2))) acc.length:=x.mono om λid a=>P id (c.db id a).2.1;refine mF (n:=acc.length) (aU:=1) (xv:=.int .i64 b) (yv:=f) (vs:=[.int .i64 b]) ef rfl rfl rfl rfl ef z (by decide) om (λA t b1 b2 b3 b4=>?_);have ri:A.get d=some (.cells .mut [.aI M, .aD k 0 (acc.length+1) 2,f]):=by rw[b4 d om λa=>(c.db _ a).2.1 rfl];exact wz
   repeat' (first | refine gA @cO ?_ | (refine gB @cO ?_;rintro (_|_) g<;>try simp only[aG,reduceCtorEq]at g) | fail)
   have hj4:t<A.n:=b2.lt (aC.2 rfl);refine⟨.inl trivial, .aD k 0 (acc.length+1) 2, .aD t 0 (acc.length+1) 1,?_⟩;have R:∀ id,id<j.n->id≠d->¬ aP f id->(A.put d (.cells .mut [.aI M, .aD k 0 (acc.length+1) 2, .aD t 0 (acc.length+1) 1])).get id=j.get id:=λid h1 h2 h3=>by
    rw[St.ah,if_neg h2,b4 id om h3,P id h2]
   have hle:=c.le;have T:=c.m0;have U:=c.j0;refine⟨by rw[St.dP];omega,U,by rw[St.dP];omega,T,by rw[St.dP];omega,l,by rw[St.ah,if_pos rfl],?_,?_,?_,λid a=>?_,λid a=>?_,λid a y=>?_,λid m=>?_,λid m=>?_⟩
   ·rw[R M om l λa=>(c.db _ a).2.2 rfl,Vx];simp
   ·have V:dQ (A.put d (.cells .mut [.aI M, .aD k 0 (acc.length+1) 2, .aD t 0 (acc.length+1) 1])) (.aD k 0 (acc.length+1) 2) 2 (dm (acc.map (·.1))++bJ p) (acc.length+1):=a2.mono (by rw[St.dP];omega) λid a=>by
     obtain rfl:=aC.1 a;exact R id pX om λy=>by have:=Xv _ y;omega
    have h6:dm ((acc++[(p,b)]).map (·.1))=dm (acc.map (·.1))++bJ p:=by simp[mI,dm,bJ]
    rw[h6];simpa using V
   ·have V:dQ (A.put d (.cells .mut [.aI M, .aD k 0 (acc.length+1) 2, .aD t 0 (acc.length+1) 1])) (.aD t 0 (acc.length+1) 1) 1 (ints (acc.map (·.2))++[.int .i64 b]) (acc.length+1):=b2.mono (by rw[St.dP];omega) λid a=>by
     obtain rfl:=aC.1 a;rw[St.ah,if_neg om]
    have h6:ints ((acc++[(p,b)]).map (·.2))=ints (acc.map (·.2))++[.int .i64 b]:=by simp[ints]
    rw[h6];simpa using V
   ·obtain rfl:=aC.1 a;exact⟨by omega,by omega,by omega⟩
   ·obtain rfl:=aC.1 a;exact⟨by omega,by omega,by omega⟩
   ·obtain rfl:=aC.1 a;have:=aC.1 y;omega
   ·obtain⟨k1,G,H,N,O⟩:=c.kp id m;exact⟨by rw[St.dP];omega,G,H,λa=>by have:=aC.1 a;omega,λa=>by have:=aC.1 a;omega⟩
   ·obtain⟨k1,G,H,N,O⟩:=c.kp id m;rw[R id om G O];exact fL id m
end Go.Proofs.Ytkbiecjdcjfhaaa
