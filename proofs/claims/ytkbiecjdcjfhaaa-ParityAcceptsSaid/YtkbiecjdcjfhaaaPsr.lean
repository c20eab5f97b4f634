/- parity's search in memory; what is asked of its maps. -/
import Derived.Test.YtkbiecjdcjfhaaaTstp
import Derived.Test.YtkbiecjdcjfhaaaRecv
set_option linter.unusedSimpArgs false
set_option linter.unusedVariables false
set_option maxRecDepth 100000
set_option maxHeartbeats 16000000
section
namespace Go.Proofs.Ytkbiecjdcjfhaaa
open Go Go.Pv Go.Jo
open Classical
theorem HR {s:St}{v:LV}{l:List Int}(h:Sx s v (ints l) l.length) (a:∀ x∈l,cF x) (hl:l.length<=100000):aJ Try.prog GL (.fn (.func 50) [] []) [v] s (λr s'=>r = .str ⟨(FF l).toArray⟩/\s'.n=s.n/\∀ id,¬ aP v id->s'.get id=s.get id):=by
 have f:maxLen=9223372036854775807:=by decide
 obtain⟨h0,⟨rfl,h1⟩ | ⟨j,rfl,h2,h3⟩⟩:=h
 ·have b:l=[]:=List.length_eq_zero_iff.1 h1;subst b;exact ij ez (HS ⟨.nil,by simp,λx hx=>by cases hx⟩ (by simp)) ⟨rfl,rfl,λ_ _=>rfl⟩
 ·have c:cK aY (.aD j 0 l.length 1) s=some (.aB (ints l) l.length,s.put j (.cells .app (ints l))):=kU (len:=l.length) 38 h3 (by simp) (bD _);refine nM (args':=[.aB (ints l) l.length]) (s':=s.put j (.cells .app (ints l))) (by simp only[cK.cu,c,Option.bind_eq_bind,Option.bind_some]) (ij ez (HS ⟨.aB _ _,by omega,a⟩ hl) ⟨rfl,rfl,λid d=>by rw[St.ah,if_neg λe=>d (aC.2 e)]⟩)
section
variable {α:Type}
def kd (key:α->List UInt8):Nat->List α->List (List UInt8 × LV)
 | _,[]=>[]
 | i,x::l=>(key x, .int .i64 (i:Int))::kd key (i+1) l
noncomputable def cZ (key:α->List UInt8) (l:List α) (k:List UInt8):Nat:=l.findIdx λx=>decide (key x=k)
theorem tH (key:α->List UInt8) (l:List α) (k:List UInt8):cZ key l k<=l.length:=List.findIdx_le_length
theorem AU (key:α->List UInt8):∀ (l m:List α) (i:Nat),kd key i (l++m)=kd key i l++kd key (i+l.length) m
 | [],m,i=>by simp[kd]
 | x::l,m,i=>by simp[kd,AU key l m (i+1),Nat.add_assoc,Nat.add_comm 1]
theorem wS (key:α->List UInt8) (k:List UInt8):∀ (l:List α) (i:Nat),ec (kd key i l) k=if cZ key l k<l.length then some (.int .i64 ((i+cZ key l k:Nat):Int)) else none
 | [],i=>by simp[kd,ec]
 | x :: l, i => by
   have ih:=wS key k l (i+1);by_cases h:key x=k
   ·have e:cZ key (x::l) k=0:=by unfold cZ;rw[List.findIdx_cons];simp[h]
    rw[e];simp only[kd,ec];rw[if_pos h.symm,if_pos (by simp)];rfl
   ·have e:cZ key (x::l) k=cZ key l k+1:=by unfold cZ;rw[List.findIdx_cons];simp[h]
    rw[e];simp only[kd,ec];rw[if_neg (λh2=>h h2.symm),ih,List.length_cons];by_cases h3:cZ key l k<l.length
    ·rw[if_pos h3,if_pos (by omega)];congr 3;omega
    ·rw[if_neg h3,if_neg (by omega)]
theorem UP (key:α->List UInt8) (l:List α) (x:α) (h:¬ cZ key l (key x)<l.length):vj (kd key 0 l) (key x) (.int .i64 (l.length:Int))=kd key 0 (l++[x]):=by
 rw[Mt (by rw[wS,if_neg h]),AU];simp[kd]
noncomputable def iR (key:α->List UInt8) (l:List α) (x:α):List α:=if cZ key l (key x)<l.length then l else l++[x]
theorem Ed (key:α->List UInt8) (l:List α) (x:α):cZ key l (key x)<(iR key l x).length:=by
 unfold iR;have:=tH key l (key x);split
 ·assumption
 ·rw[List.length_append,List.length_singleton];omega
theorem ur (key:α->List UInt8) (l:List α) (x:α):∃ m,iR key l x=l++m/\m.length<=1:=by
 unfold iR;split
 ·exact⟨[],by simp,by simp⟩
 ·exact⟨[x],rfl,by simp⟩
theorem Eb (key:α->List UInt8) (l m:List α) (k:List UInt8) (h:cZ key l k<l.length):cZ key (l++m) k=cZ key l k:=by
 unfold cZ at *;rw[List.findIdx_append,if_pos h]
end
def eC (t:List Nd):List Int:=t.flatMap λn=>n.name::(n.par+1)::(n.set.length:Int)::n.set
def bZ (t:List Nd):List UInt8:=FF (eC t)
structure TrB (t:List Nd):Prop where
  len:t.length<=30
  set:∀ n∈t,n.set.length<=3000
  par:∀ n∈t,-1<=n.par/\n.par<=6000
theorem AF {t:List Nd}(h:∀ n∈t,n.set.length<=3000):(eC t).length<=t.length*3003:=by
 induction t with
 | nil=>simp[eC]
 | cons n t ih=>
   have h1:=ih λm hm=>h m (by simp[hm]);have h2:=h n (by simp);have e:eC (n::t)=(n.name::(n.par+1)::(n.set.length:Int)::n.set)++eC t:=by simp[eC]
   rw[e,List.length_append,List.length_cons];simp only[List.length_cons];omega
def tw (x:Int):Int:=IntKind.i64.wrap ((BitVec.ofInt 64 x &&& BitVec.ofInt 64 32767).toNat)
def rF (x:Nat × List Int):List Int:=(x.1:Int).fdiv 32768::tw x.1::x.2
def dr (x:Nat × List Int):List UInt8:=FF (rF x)
def oW (r:Nat × LV × LV):List LV:=[.int .i64 (r.1:Int),r.2.1,r.2.2]
theorem MR (r:Nat × LV × LV):(oW r).length=3:=rfl
def CG (s:St) (B:Bu) (ts:List (List Nd)) (t:List Nd) (v:LV):Prop:=v = .aj∨∃ j b,v = .aD j 0 b.length 3/\s.get j=some (.cells .mut (eG oW b))/\(b.length:Int)=B.L /\
 ∀ a,a<b.length->(b.getD a default).1=cZ bZ ts (bZ (mC B t a))/\(b.getD a default).1<ts.length/\aM (b.getD a default).2.1 (Ae B t a)/\aM (b.getD a default).2.2 (Af B t a)
theorem CG.keep {s s':St}{B:Bu}{ts:List (List Nd)}{t:List Nd}{v:LV}(h:CG s B ts t v) (hs:∀ id,aP v id->s'.get id=s.get id):CG s' B ts t v:=by
 rcases h with h | ⟨j,a,rfl,h1,h2⟩
 ·exact .inl h
 ·exact .inr ⟨j,a,rfl,(hs j (aC.2 rfl)).trans h1,h2⟩
theorem CG.more {s:St}{B:Bu}{ts m:List (List Nd)}{t:List Nd}{v:LV}(h:CG s B ts t v):CG s B (ts++m) t v:=by
 rcases h with h | ⟨j,b,rfl,h1,h2,h3⟩
 ·exact .inl h
 ·refine .inr ⟨j,b,rfl,h1,h2,λa d=>?_⟩;obtain⟨c,e,f⟩:=h3 a d;exact⟨by rw[Eb _ _ _ _ (c ▸ e)];exact c,by rw[List.length_append];omega,f⟩
def Jp (r:Nat × LV):List LV:=[.int .i64 (r.1:Int),r.2]
theorem C5 (r:Nat × LV):(Jp r).length=2:=rfl
structure SX (s:St) (Z:Nat) (B:Bu) (sv nv:LV) (most:Int) (ts:List (List Nd)) (xs:List (Nat × List Int)) (O F:Nat->Prop) (tv pv xv:LV) (TN SN:Nat) (rT mb:List LV) (xr:List (Nat × LV)):Prop where
  dD:s.get Z=some (.cells .mut [.int .i64 B.L,sv,nv, .int .i64 most,tv,pv, .aI TN,xv, .aI SN])
  t:dQ s tv 1 rT ts.length
  p:dQ s pv 1 mb ts.length
  x:dQ s xv 2 (eG Jp xr) xs.length
  tn:s.get TN=some (.map (mG mU (kd bZ 0 ts)))
  sn:s.get SN=some (.map (mG mU (kd dr 0 xs)))
  tt:∀ i,i<ts.length->∃ rs,uw (rT.getD i .top) (ts.getD i []) rs
  pm:∀ i,i<ts.length->CG s B ts (ts.getD i []) (mb.getD i .top)
  xl:xr.length=xs.length
  xx:∀ i,i<xs.length->(xr.getD i default).1=(xs.getD i default).1/\aM (xr.getD i default).2 (xs.getD i default).2
  oZ:O Z/\O TN/\O SN
  ou:∀ id,(aP tv id∨aP pv id∨aP xv id)->O id/\id≠Z
  om:∀ i,i<ts.length->∀ id,aP (mb.getD i .top) id->F id
  fo:∀ id,F id->O id/\id≠Z/\id≠TN/\id≠SN/\¬ aP tv id/\¬ aP pv id/\¬ aP xv id
  ol:∀ id,O id->id<s.n
  d1:∀ id,aP tv id->¬ aP pv id
  d2:∀ id,aP tv id->¬ aP xv id
  d3:∀ id,aP pv id->¬ aP xv id
  ne:TN≠SN
section
variable {s s':St}{Z:Nat}{B:Bu}{sv nv:LV}{most:Int}{ts:List (List Nd)}{xs:List (Nat × List Int)}{O F:Nat->Prop}{tv pv xv:LV}{TN SN:Nat}{rT mb:List LV}{xr:List (Nat × LV)}
theorem SX.keep (h:SX s Z B sv nv most ts xs O F tv pv xv TN SN rT mb xr) (b:s.n<=s'.n) (hs:∀ id,O id->s'.get id=s.get id):SX s' Z B sv nv most ts xs O F tv pv xv TN SN rT mb xr:=
 ⟨(hs Z h.oZ.1).trans h.dD,h.t.mono b λid a=>hs id (h.ou id (.inl a)).1,h.p.mono b λid a=>hs id (h.ou id (.inr (.inl a))).1,h.x.mono b λid a=>hs id (h.ou id (.inr (.inr a))).1,(hs TN h.oZ.2.1).trans h.tn,(hs SN h.oZ.2.2).trans h.sn,h.tt,λi c=>(h.pm i c).keep λid a=>hs id (h.fo id (h.om i c id a)).1,h.xl,h.xx,h.oZ,h.ou,h.om,h.fo,λid ho=>by have:=h.ol id ho;omega,h.d1,h.d2,h.d3,h.ne⟩
theorem SX.wide {a:Nat->Prop}(h:SX s Z B sv nv most ts xs O F tv pv xv TN SN rT mb xr) (ho:∀ id,O id->a id) (hl:∀ id,a id->id<s.n):SX s Z B sv nv most ts xs a F tv pv xv TN SN rT mb xr:=
 ⟨h.dD,h.t,h.p,h.x,h.tn,h.sn,h.tt,h.pm,h.xl,h.xx,⟨ho _ h.oZ.1,ho _ h.oZ.2.1,ho _ h.oZ.2.2⟩,λid b=>⟨ho _ (h.ou id b).1,(h.ou id b).2⟩,h.om,λid c=>⟨ho _ (h.fo id c).1,(h.fo id c).2⟩,hl,h.d1,h.d2,h.d3,h.ne⟩
theorem BV {a b:Nat}{es:List (LV × LV)}{m:Md}{cs:List LV}(d:s.get a=some (.map es)) (c:s.get b=some (.cells m cs)):a≠b:=by
 rintro rfl;rw[d]at c;cases c
theorem dQ.iI {v:LV}{aU n:Nat}{cells:List LV}{M:Nat}{es:List (LV × LV)}(h:dQ s v aU cells n) (hm:s.get M=some (.map es)):¬ aP v M:=λa=>by
 obtain⟨_,⟨rfl,_⟩ | ⟨j,rfl,_,_,h3⟩⟩:=h
 ·exact bq M a
 ·have:=aC.1 a;subst this;rw[h3]at hm;cases hm
theorem SX.addT (h:SX s Z B sv nv most ts xs O F tv pv xv TN SN rT mb xr) {t:List Nd}{C8:LV}(v:∃ rs,uw C8 t rs) {MG Ip:LV}(w:s.n<=s'.n) (y:s'.get Z=some (.cells .mut [.int .i64 B.L,sv,nv, .int .i64 most,MG,Ip, .aI TN,xv, .aI SN]))
 (z:s'.get TN=some (.map (mG mU (kd bZ 0 (ts++[t]))))) (f:dQ s' MG 1 (rT++[C8]) (ts.length+1)) (o:∀ id,aP MG id->s.n<=id) (r:dQ s' Ip 1 (mb++[.aj]) (ts.length+1)) (b:∀ id,aP Ip id->s.n<=id) (A:∀ id,aP MG id->¬ aP Ip id)
 (ho:∀ id,id<s.n->id≠Z->id≠TN->¬ aP tv id->¬ aP pv id->s'.get id=s.get id):SX s' Z B sv nv most (ts++[t]) xs (λid=>O id∨s.n<=id/\id<s'.n) F MG Ip xv TN SN (rT++[C8]) (mb++[.aj]) xr:=by
 have hl:(ts++[t]).length=ts.length+1:=by simp
 have C:rT.length=ts.length:=by have:=h.t.1;omega
 have u:mb.length=ts.length:=by have:=h.p.1;omega
 have E:=h.ol Z h.oZ.1;have g:∀ {α:Type}(l:List α) (x d:α) (i:Nat),i<l.length->(l++[x]).getD i d=l.getD i d:=λl x d i c=>by simp[gD,List.getElem?_append_left c]
 have m:∀ {α:Type}(l:List α) (x d:α),(l++[x]).getD l.length d=x:=λl x d=>by simp[gD]
 have q:∀ id,aP xv id->s'.get id=s.get id:=λid a=>ho id (h.x.lt a) (h.ou id (.inr (.inr a))).2 (λe=>dQ.iI h.x (e ▸ h.tn) a) (λe=>h.d2 id e a) λe=>h.d3 id e a;refine⟨y,by rw[hl];exact f,by rw[hl];exact r,h.x.mono w q,z,?_,λi c=>?_,λi c=>?_,h.xl,h.xx,⟨.inl h.oZ.1, .inl h.oZ.2.1, .inl h.oZ.2.2⟩,λid a=>?_,λi c id a=>?_,λid D=>?_,λid j=>?_,A,λid h1 h2=>by have:=o id h1;have:=h.x.lt h2;omega,λid h1 h2=>by have:=b id h1;have:=h.x.lt h2;omega,h.ne⟩
 ·rw[ho SN (h.ol SN h.oZ.2.2) (BV h.sn h.dD) h.ne.symm (dQ.iI h.t h.sn) (dQ.iI h.p h.sn)];exact h.sn
 ·rw[hl]at c;by_cases e:i<ts.length
  ·rw[g ts t [] i e,g rT C8 .top i (by omega)];exact h.tt i e
  ·have k:i=ts.length:=by omega
   subst k;rw[m,<- C,m];exact v
 ·rw[hl]at c;by_cases e:i<ts.length
  ·rw[g ts t [] i e,g mb .aj .top i (by omega)];refine ((h.pm i e).keep λid a=>?_).more;have hm:=h.fo id (h.om i e id a);exact ho id (h.ol id hm.1) hm.2.1 hm.2.2.1 hm.2.2.2.2.1 hm.2.2.2.2.2.1
  ·have k:i=ts.length:=by omega
   subst k;rw[<- u,m];exact .inl rfl
 ·rcases a with a | a | a
  ·have:=o id a;exact⟨.inr ⟨this,f.lt a⟩,by omega⟩
  ·have:=b id a;exact⟨.inr ⟨this,r.lt a⟩,by omega⟩
  ·have:=h.ou id (.inr (.inr a));exact⟨.inl this.1,this.2⟩
 ·rw[hl]at c;by_cases e:i<ts.length
  ·rw[g mb .aj .top i (by omega)]at a;exact h.om i e id a
  ·have k:i=ts.length:=by omega
   subst k;rw[<- u,m]at a;exact absurd a (bq id)
 ·have hm:=h.fo id D;have G:=h.ol id hm.1;exact⟨.inl hm.1,hm.2.1,hm.2.2.1,hm.2.2.2.1,λh2=>by have:=o id h2;omega,λh2=>by have:=b id h2;omega,hm.2.2.2.2.2.2⟩
 ·rcases j with j | j
  ·have:=h.ol id j;omega
  ·exact j.2
theorem SX.addX (h:SX s Z B sv nv most ts xs O F tv pv xv TN SN rT mb xr) {x:Nat × List Int}{rv:LV}(m:aM rv x.2) {Zq:LV}(k:s.n<=s'.n) (o:s'.get Z=some (.cells .mut [.int .i64 B.L,sv,nv, .int .i64 most,tv,pv, .aI TN,Zq, .aI SN]))
 (q:s'.get SN=some (.map (mG mU (kd dr 0 (xs++[x]))))) (b:dQ s' Zq 2 (eG Jp xr++Jp (x.1,rv)) (xs.length+1)) (d:∀ id,aP Zq id->s.n<=id)
 (ho:∀ id,id<s.n->id≠Z->id≠SN->¬ aP xv id->s'.get id=s.get id):SX s' Z B sv nv most ts (xs++[x]) (λid=>O id∨s.n<=id/\id<s'.n) F tv pv Zq TN SN rT mb (xr++[(x.1,rv)]):=by
 have hl:(xs++[x]).length=xs.length+1:=by simp
 have v:=h.ol Z h.oZ.1;have l:=h.xl;refine⟨o,h.t.mono k λid a=>ho id (h.t.lt a) (h.ou id (.inl a)).2 (λe=>dQ.iI h.t (e ▸ h.sn) a) (h.d2 id a),h.p.mono k λid a=>ho id (h.p.lt a) (h.ou id (.inr (.inl a))).2 (λe=>dQ.iI h.p (e ▸ h.sn) a) (h.d3 id a),by rw[hl,kV,wI];exact b,?_,q,h.tt,λi f=>(h.pm i f).keep λid a=>?_,by simp[l],λi f=>?_,⟨.inl h.oZ.1, .inl h.oZ.2.1, .inl h.oZ.2.2⟩,λid a=>?_,h.om,λid r=>?_,λid c=>?_,h.d1,λid h1 h2=>by have:=d id h2;have:=h.t.lt h1;omega,λid h1 h2=>by have:=d id h2;have:=h.p.lt h1;omega,h.ne⟩
 ·rw[ho TN (h.ol TN h.oZ.2.1) (BV h.tn h.dD) h.ne (dQ.iI h.x h.tn)];exact h.tn
 ·have hm:=h.fo id (h.om i f id a);exact ho id (h.ol id hm.1) hm.2.1 hm.2.2.2.1 hm.2.2.2.2.2.2
 ·rw[hl]at f;by_cases e:i<xs.length
  ·have g:(xr++[(x.1,rv)]).getD i default=xr.getD i default:=by simp[gD,List.getElem?_append_left (show i<xr.length by omega)]
   have j:(xs++[x]).getD i default=xs.getD i default:=by simp[gD,List.getElem?_append_left e]
   rw[g,j];exact h.xx i e
  ·have u:i=xs.length:=by omega
   subst u;have g:(xr++[(x.1,rv)]).getD xs.length default=(x.1,rv):=by rw[<- l];simp[gD]
   have j:(xs++[x]).getD xs.length default=x:=by simp[gD]
   rw[g,j];exact⟨rfl,m⟩
 ·rcases a with a | a | a
  ·have:=h.ou id (.inl a);exact⟨.inl this.1,this.2⟩
  ·have:=h.ou id (.inr (.inl a));exact⟨.inl this.1,this.2⟩
  ·have:=d id a;exact⟨.inr ⟨this,b.lt a⟩,by omega⟩
 ·have hm:=h.fo id r;have w:=h.ol id hm.1;exact⟨.inl hm.1,hm.2.1,hm.2.2.1,hm.2.2.2.1,hm.2.2.2.2.1,hm.2.2.2.2.2.1,λh2=>by have:=d id h2;omega⟩
 ·rcases c with c | c
  ·have:=h.ol id c;omega
  ·exact c.2
end
def SR (s:St) (Z:Nat) (B:Bu) (sv nv:LV) (most:Int) (ts:List (List Nd)) (xs:List (Nat × List Int)) (O F:Nat->Prop):Prop:=∃ tv pv xv TN SN rT mb xr,SX s Z B sv nv most ts xs O F tv pv xv TN SN rT mb xr
theorem pJ {v:LV}{cs:List LV}{n:Nat}(h:Sl v cs n):cells? v=some [v]:=by cases h<;>rfl
theorem HQ {s:St}{Z:Nat}{B:Bu}{sv nv:LV}{most:Int}{ts:List (List Nd)}{xs:List (Nat × List Int)}{O F:Nat->Prop}(hS:SR s Z B sv nv most ts xs O F) {C8:LV}{t:List Nd}{rs:List (Int × Int × LV)}(v:uw C8 t rs) (y:TrB t) (gR:ts.length<=100000) :
 aJ Try.prog GL (.fn (.func 37) [] []) [.aH Z 0,C8] s (λr s'=>r = .int .i64 (cZ bZ ts (bZ t):Int)/\SR s' Z B sv nv most (iR bZ ts t) xs (λid=>O id∨s.n<=id/\id<s'.n) F/\s.n<=s'.n/\(∀ id,F id->s'.get id=s.get id)/\∀ id,id<s.n->¬ O id->s'.get id=s.get id):=by
 obtain⟨tv,pv,xv,TN,SN,rT,mb,xr,d⟩:=hS;have SP:=v.closed;have lT:=v.sl.len;have qw:=y.len;refine bL (first:=[]) (caps:=[]) Try.func37 (by decide +kernel) c37 (Nat.le_of_ble_eq_true rfl) (aQ.mono (Q:=λo e s'=>(o = .normal∨o = .jmp .ret)/\e.at 4 = .int .i64 (cZ bZ ts (bZ t):Int)/\SR s' Z B sv nv most (iR bZ ts t) xs (λid=>O id∨s.n<=id/\id<s'.n) F/\s.n<=s'.n/\(∀ id,F id->s'.get id=s.get id)/\∀ id,id<s.n->¬ O id->s'.get id=s.get id) ?_ λo e s' hh=>by
  obtain⟨h1,h2,h3⟩:=hh;exact⟨h1,_,by simp[l37,br,bO,h2],rfl,h3⟩)
 refine Cd.out (pF λe e0 e1=>?_);unfold l37;dsimp only[jA,jG,qN,qF,qS,qI,qA,qB,qC,qG,qm,ql];repeat' (first | refine gN @lT ?_ | (refine gB @lT ?_;rintro (_|_) b<;>try simp only[aG,reduceCtorEq]at b<;>try first | (exfalso;omega) | exact b.elim) | fail)
 refine aS (λm e c=>∃ (k:Nat) (R:LV),m=t.length - k/\k<=t.length/\s.n<=c.n/\(∀ id,id<s.n->c.get id=s.get id)/\Sx c R (ints (eC (t.take k))) (eC (t.take k)).length/\(∀ id,aP R id->s.n<=id)/\e.at 0 = .aH Z 0/\e.at 1=C8/\e.at 5=R/\e.at 11=C8/\e.at 12 = .int .i64 (t.length:Int)/\e.at 13 = .int .i64 (k:Int)) _
  ⟨0, .aj,rfl,by omega,Nat.le_refl _,λ_ _=>rfl,Sx.nil _,λid a=>absurd a (bq id),ef,ef,ef,ef,ef,by simp only[lk,Nat.reduceEqDiff,if_false,if_true];rfl⟩ ?_
 clear e0 e1;clear e;rintro m e c ⟨k,R,rfl,hk,gH,ho,C,Yz,e0,e1,e5,nW,vV,Lm⟩;by_cases fB:k<t.length
 ·have uB:(k:Int)<(t.length:Int):=by omega
  have fJ:IntKind.i64.wrap ((k:Int)+1)=((k+1:Nat):Int):=by rw[wrap_i64 _ (by omega) (by omega)];rfl
  have dS:=λs=>v.get fB s;have X:=v.nd k fB;have fO:=take_one t default fB;have cJ:t.getD k default∈t:=bE fB;generalize t.getD k default=n at *;have fy:=X.set;have fZ:=fy.sl.len;have vK:=fy.sl.cell;have hvcl:=fy.closed;generalize (rs.getD k default).2.2=yv at *;have KH:=y.par n cJ;have dO:=y.set n cJ;have SK:IntKind.i64.wrap (n.par+1)=n.par+1:=wrap_i64 _ (by omega) (by omega);have fG:=AF (t:=t.take k) λm hm=>y.set m (List.mem_of_mem_take hm);rw[List.length_take]at fG;have uS:Bx (eC (t.take (k+1))=eC (t.take k)++[n.name,n.par+1,(n.set.length:Int)]++n.set):=⟨by rw[fO];simp[eC]⟩;generalize eC (t.take k)=A at *;have hAl:A.length<=100000:=by
   have:min k t.length*3003<=30*3003:=Nat.mul_le_mul_right _ (by omega);omega
  have eE:((c.new (.cells .mut [.int .i64 0, .int .i64 0, .aj])).put c.n (.cells .mut [.int .i64 n.name, .int .i64 n.par,yv])).get c.n=some (.cells .mut [.int .i64 n.name, .int .i64 n.par,yv]):=by rw[St.ah,if_pos rfl]
  have jY:((c.new (.cells .mut [.int .i64 0, .int .i64 0, .aj])).put c.n (.cells .mut [.int .i64 n.name, .int .i64 n.par,yv])).n=c.n+1:=rfl;have nI:∀ id,id<c.n->((c.new (.cells .mut [.int .i64 0, .int .i64 0, .aj])).put c.n (.cells .mut [.int .i64 n.name, .int .i64 n.par,yv])).get id=c.get id:=λid g=>by rw[St.ah,if_neg (by omega),St.az,if_neg (by omega)]
  have Y:=C.mono (s':=(c.new (.cells .mut [.int .i64 0, .int .i64 0, .aj])).put c.n (.cells .mut [.int .i64 n.name, .int .i64 n.par,yv])) (by omega) λid a=>nI id (C.lt a);have hNl:=λid=>C.lt (id:=id);have w:=Bx.mk (And.intro Y (And.intro ho nI));clear C Y ho fO nI;repeat' (first | refine gN (And.intro (@cw _ _ _ v.sl) @dS) ?_ | (refine gB (And.intro (@cw _ _ _ v.sl) @dS) ?_;intro bb b;cases bb<;>(try simp only[aG]at b)<;>(try first | omega | exact b.elim)) | fail)
  generalize (c.new (.cells .mut [.int .i64 0, .int .i64 0, .aj])).put c.n (.cells .mut [.int .i64 n.name, .int .i64 n.par,yv])=j at *;repeat' (first | refine gN (And.intro @eE (And.intro @SK @fZ)) ?_ | (refine gB (And.intro @eE (And.intro @SK @fZ)) ?_;rintro (_|_) b<;>try simp only[aG,reduceCtorEq]at b<;>try first | (exfalso;omega) | exact b.elim) | fail)
  refine Nk (k:=3) (n:=A.length) (vs:=ints [n.name,n.par+1,(n.set.length:Int)]) (cells:=ints A) (yv:=R) (by
   simp only[bB,List.map,lk,Nat.reduceEqDiff,if_false,if_true,List.map,SK];have hc:∀ z:Int,cells? (.int .i64 z)=some [.int .i64 z]:=λ_=>rfl;simp[rep,aW,hc,splice,ints]) (by simp) (bD _) ef w.out.1 (by unfold big;omega) (λs3 r3 h1 h2 h3 h4=>?_)
  have wV:s3.get c.n=some (.cells .mut [.int .i64 n.name, .int .i64 n.par,yv]):=by rw[h3 _ (by omega) λa=>by have:=hNl _ a;omega];exact eE
  have I:=Bx.mk (And.intro h1 (And.intro h3 h4));have h1l:=λid=>h1.lt (id:=id);clear h1 h3;repeat' (first | refine gN @wV ?_ | (refine gB @wV ?_;rintro (_|_) b<;>try simp only[aG,reduceCtorEq]at b<;>try first | (exfalso;omega) | exact b.elim) | fail)
  refine Nj (k:=n.set.length) (n:=A.length+3) (xv:=yv) (yv:=r3) (vs:=ints n.set) (cells:=ints A++ints [n.name,n.par+1,(n.set.length:Int)]) wN ef fy.sl (by simp) (bD _) ef I.out.1 (by unfold big;omega) (λu r4 k1 k2 k3 k4=>?_);have hints:ints A++ints [n.name,n.par+1,(n.set.length:Int)]++ints n.set=ints (eC (t.take (k+1))):=by rw[uS.out];simp[ints]
  have D:A.length+3+n.set.length=(eC (t.take (k+1))).length:=by rw[uS.out];simp;omega
  rw[hints,D]at k1;have gQ:∀ id,id<s.n->u.get id=s.get id:=λid g=>by
   rw[k3 id (by omega) λa=>by have:=h4 id a;omega,I.out.2.1 id (by omega) λa=>by have:=Yz id a;omega,w.out.2.2 id (by omega)];exact w.out.2.1 id g
  have YM:=Bx.mk (And.intro k1 (And.intro gQ k4));clear k1 gQ k3 w I wV eE dS hints D;repeat' (first | refine gN @fJ ?_ | (refine gB @fJ ?_;rintro (_|_) b<;>try simp only[aG,reduceCtorEq]at b<;>try first | (exfalso;omega) | exact b.elim) | fail)
  refine⟨t.length - (k+1),by omega,k+1,r4,rfl,by omega,by omega,YM.out.2.1,YM.out.1,λid a=>by have:=k4 id a;omega,?_⟩;simp only[lk,Nat.reduceEqDiff,if_false,if_true,fJ,e0,e1,nW,vV,and_self]
 ·have lU:k=t.length:=by omega
  subst lU;rw[List.take_length]at C;have fG:=AF y.set;have W3:∀ x∈eC t,cF x:=λx hx=>by
   unfold eC at hx;obtain⟨n,hn,hx⟩:=List.mem_flatMap.1 hx;obtain⟨i,hi,rfl⟩:=List.getElem_of_mem hn;have X:=v.nd i hi;have gL:t.getD i default=t[i]:=by rw[gD,gE hi];rfl
   rw[gL]at X;have hp:=y.par _ hn;have hs:=y.set _ hn;rcases List.mem_cons.1 hx with rfl | hx
   ·exact X.nr
   rcases List.mem_cons.1 hx with rfl | hx
   ·unfold cF;omega
   rcases List.mem_cons.1 hx with rfl | hx
   ·unfold cF;omega
   ·exact X.set.jd x hx
  have Ek:=HR C W3 (by
   have:t.length*3003<=30*3003:=Nat.mul_le_mul_right _ y.len;omega)
  have wX:=d.keep (s':=c) gH λid g=>ho id (d.ol id g);have eZ:=Bx.mk wX;have hNc:=C.cell;clear wX C;repeat' (first | refine gN trivial ?_ | (refine gB trivial ?_;intro bb b;cases bb<;>(try simp only[aG]at b)<;>(try first | omega | exact b.elim)) | fail)
  refine bH wN (fv:=.fn (.func 50) [] []) (vs:=[R]) ef (by simp only[List.map,lk,Nat.reduceEqDiff,if_false,if_true,List.map]) (aJ.mono Ek λx j hh=>⟨trivial,?_⟩);obtain⟨rfl,jY,oQ⟩:=hh;simp only[Env.au];have A9:=eZ.out.keep (s':=j) (by omega) λid g=>oQ id λa=>by have:=Yz id a;have:=d.ol id g;omega
  have E:∀ id,id<s.n->j.get id=s.get id:=λid g=>(oQ id λa=>by have:=Yz id a;omega).trans (ho id g);have J:=A9.dD;have K:=A9.tn;have yg:=wS bZ (bZ t) ts 0;rw[Nat.zero_add]at yg;have f:=Bx.mk (And.intro A9 E);clear Ek eZ oQ E ho A9;repeat' (first | refine gN @J ?_ | (refine gB @J ?_;rintro (_|_) b<;>try simp only[aG,reduceCtorEq]at b<;>try first | (exfalso;omega) | exact b.elim) | fail)
  refine Ij SC (M:=TN) (k:=bZ t) (L:=kd bZ 0 ts) wN ef (by simp only[lk,Nat.reduceEqDiff,if_false,if_true];rfl) K ?_;rw[yg];clear yg;by_cases l:cZ bZ ts (bZ t)<ts.length
  ·rw[if_pos l];simp only[Option.getD_some,Option.isSome_some];have Cm:Bx (iR bZ ts t=ts):=⟨by unfold iR;rw[if_pos l]⟩;clear l J K;repeat' (first | refine gA trivial ?_ | (refine gB trivial ?_;rintro (_|_) b<;>try simp only[aG,reduceCtorEq]at b<;>try first | (exfalso;omega) | exact b.elim) | apply aA | fail)
   refine⟨.inr trivial,ef,?_,by omega,λid l=>f.out.2 id (d.ol id (d.fo id l).1),λid g _=>f.out.2 id g⟩;rw[Cm.out];exact⟨_,_,_,_,_,_,_,_,f.out.1.wide (λid h=>.inl h) λid h=>by
    rcases h with h | h
    ·have:=d.ol id h;omega
    ·exact h.2⟩
  ·rw[if_neg l];simp only[Option.getD_none,Option.isSome_none];have OP:cZ bZ ts (bZ t)=ts.length:=by have:=tH bZ ts (bZ t);omega
   have Cm:Bx (iR bZ ts t=ts++[t]):=⟨by unfold iR;rw[if_neg l]⟩;have Xc:=UP bZ ts t l;have G:=f.out.1.t.len;have htvc:=f.out.1.t.cell;have hpvc:=f.out.1.p.cell;have hxvc:=f.out.1.x.cell;rw[OP];have fh:=Bx.mk l;clear l;repeat' (first | refine gA (And.intro @J @G) ?_ | (refine gB (And.intro @J @G) ?_;rintro (_|_) b<;>try simp only[aG,reduceCtorEq]at b<;>try first | (exfalso;omega) | exact b.elim) | apply aA | fail)
   refine BI SC (M:=TN) (k:=bZ t) (vv:=.int .i64 (ts.length:Int)) (L:=kd bZ 0 ts) ef (by simp only[lk,dJ,Nat.reduceEqDiff,if_false,if_true];rfl) ef K ?_;rw[Xc];have Y1:Z≠TN:=(BV K J).symm;have mw:(j.put TN (.map (mG mU (kd bZ 0 (ts++[t]))))).get Z=some (.cells .mut [.int .i64 B.L,sv,nv, .int .i64 most,tv,pv, .aI TN,xv, .aI SN]):=by rw[St.ah,if_neg Y1];exact J
   have WG:(j.put TN (.map (mG mU (kd bZ 0 (ts++[t]))))).get TN=some (.map (mG mU (kd bZ 0 (ts++[t])))):=by rw[St.ah,if_pos rfl]
   have iw:∀ id,id≠TN->(j.put TN (.map (mG mU (kd bZ 0 (ts++[t]))))).get id=j.get id:=λid g=>by rw[St.ah,if_neg g]
   have nG:(j.put TN (.map (mG mU (kd bZ 0 (ts++[t]))))).n=j.n:=rfl;have N:=f.out.1.t.mono (s':=j.put TN (.map (mG mU (kd bZ 0 (ts++[t]))))) (by omega) λid a=>iw id λe=>dQ.iI f.out.1.t (e ▸ K) a;have IX:=f.out.1.p.mono (s':=j.put TN (.map (mG mU (kd bZ 0 (ts++[t]))))) (by omega) λid a=>iw id λe=>dQ.iI f.out.1.p (e ▸ K) a;generalize j.put TN (.map (mG mU (kd bZ 0 (ts++[t]))))=s3 at *;have mZ:cells? C8=some [C8]:=pJ v.sl;have hZs:=d.ol Z d.oZ.1;have hTs:=d.ol TN d.oZ.2.1;have P:=d.ou;repeat' (first | refine gA @mw ?_ | (refine gB @mw ?_;rintro (_|_) b<;>try simp only[aG,reduceCtorEq]at b<;>try first | (exfalso;omega) | exact b.elim) | apply aA | fail)
   refine mF (n:=ts.length) (aU:=1) (xv:=C8) (yv:=tv) (vs:=[C8]) (cells:=rT) ef mZ rfl rfl (by simp[LV.closed.aq,SP]) ef N (by decide) (by omega) (λu q b1 b2 b3 b4=>?_);have A8:u.get Z=some (.cells .mut [.int .i64 B.L,sv,nv, .int .i64 most,tv,pv, .aI TN,xv, .aI SN]):=by rw[b4 Z (by omega) λa=>(P Z (.inl a)).2 rfl];exact mw
   have hp4:=IX.mono b3 λid a=>b4 id (IX.lt a) λh2=>f.out.1.d1 id h2 a;have H:=(b4 TN (by omega) (dQ.iI N WG)).trans WG;have T:=Bx.mk (And.intro b2 (And.intro b4 H));have hp3l:=λid=>IX.lt (id:=id);clear b2 b4 H mw WG N IX;repeat' (first | refine gA @A8 ?_ | (refine gB @A8 ?_;rintro (_|_) b<;>try simp only[aG,reduceCtorEq]at b<;>try first | (exfalso;omega) | exact b.elim) | apply aA | fail)
   have tS:(u.put Z (.cells .mut [.int .i64 B.L,sv,nv, .int .i64 most, .aD q 0 (ts.length+1) 1,pv, .aI TN,xv, .aI SN])).get Z=some (.cells .mut [.int .i64 B.L,sv,nv, .int .i64 most, .aD q 0 (ts.length+1) 1,pv, .aI TN,xv, .aI SN]):=by rw[St.ah,if_pos rfl]
   have U:∀ id,id≠Z->(u.put Z (.cells .mut [.int .i64 B.L,sv,nv, .int .i64 most, .aD q 0 (ts.length+1) 1,pv, .aI TN,xv, .aI SN])).get id=u.get id:=λid g=>by rw[St.ah,if_neg g]
   have Fo:(u.put Z (.cells .mut [.int .i64 B.L,sv,nv, .int .i64 most, .aD q 0 (ts.length+1) 1,pv, .aI TN,xv, .aI SN])).n=u.n:=rfl;have hp5:=hp4.mono (s':=u.put Z (.cells .mut [.int .i64 B.L,sv,nv, .int .i64 most, .aD q 0 (ts.length+1) 1,pv, .aI TN,xv, .aI SN])) (by omega) λid a=>U id (P id (.inr (.inl a))).2;generalize u.put Z (.cells .mut [.int .i64 B.L,sv,nv, .int .i64 most, .aD q 0 (ts.length+1) 1,pv, .aI TN,xv, .aI SN])=s5 at *;clear A8 hp4;repeat' (first | refine gA @tS ?_ | (refine gB @tS ?_;rintro (_|_) b<;>try simp only[aG,reduceCtorEq]at b<;>try first | (exfalso;omega) | exact b.elim) | apply aA | fail)
   refine mF (n:=ts.length) (aU:=1) (xv:=.aj) (yv:=pv) (vs:=[.aj]) (cells:=mb) ef rfl rfl rfl rfl ef hp5 (by decide) (by omega) (λs6 j6 c1 c2 c3 c4=>?_);have A7:s6.get Z=some (.cells .mut [.int .i64 B.L,sv,nv, .int .i64 most, .aD q 0 (ts.length+1) 1,pv, .aI TN,xv, .aI SN]):=by rw[c4 Z (by omega) λa=>(P Z (.inr (.inl a))).2 rfl];exact tS
   have V:=Bx.mk (And.intro c2 c4);have hp5l:=λid=>hp5.lt (id:=id);clear c2 c4 tS;repeat' (first | refine gA @A7 ?_ | (refine gB @A7 ?_;rintro (_|_) b<;>try simp only[aG,reduceCtorEq]at b<;>try first | (exfalso;omega) | exact b.elim) | apply aA | fail)
   have hj4:=T.out.1.lt (aC.2 rfl:aP (.aD q 0 (ts.length+1) 1) q);have hT2:=f.out.1;have hA:=hT2.addT (t:=t) (C8:=C8) ⟨rs,v⟩ (s':=s6.put Z (.cells .mut [.int .i64 B.L,sv,nv, .int .i64 most, .aD q 0 (ts.length+1) 1, .aD j6 0 (ts.length+1) 1, .aI TN,xv, .aI SN])) (MG:=.aD q 0 (ts.length+1) 1) (Ip:=.aD j6 0 (ts.length+1) 1) (by simp;omega) (by rw[St.ah,if_pos rfl])
    (by rw[St.ah,if_neg Y1.symm,V.out.2 TN (by omega) (λa=>dQ.iI hT2.p K a),U TN Y1.symm];exact T.out.2.2)
    (T.out.1.mono (by simp;omega) λid a=>by
     have:=aC.1 a;rw[St.ah,if_neg (by omega),V.out.2 id (by omega) (λzc=>by have:=hp3l id zc;omega),U id (by omega)])
    (λid a=>by have:=aC.1 a;omega)
    (V.out.1.mono (by simp) λid a=>by
     have:=aC.1 a;rw[St.ah,if_neg (by omega)])
    (λid a=>by have:=aC.1 a;omega) (λid h1 h2=>by have:=aC.1 h1;have:=aC.1 h2;omega)
    (λid h1 h2 h3 h4 h5=>by
     rw[St.ah,if_neg h2,V.out.2 id (by omega) h5,U id h2,T.out.2.1 id (by omega) h4,iw id h3])
   refine⟨.inr trivial,ef,?_,by simp;omega,λid l=>?_,λid h1 h2=>?_⟩
   ·rw[Cm.out];exact⟨_,_,_,_,_,_,_,_,hA.wide (λid h=>by
     rcases h with h | h
     ·exact .inl h
     ·exact .inr ⟨by omega,h.2⟩) λid h=>by
     rcases h with h | h
     ·have:=d.ol id h;simp;omega
     ·exact h.2⟩
   ·have hm:=d.fo id l;have cm:=d.ol id hm.1;rw[St.ah,if_neg hm.2.1,V.out.2 id (by omega) hm.2.2.2.2.2.1,U id hm.2.1,T.out.2.1 id (by omega) hm.2.2.2.2.1,iw id hm.2.2.1];exact f.out.2 id cm
   ·have hnZ:id≠Z:=λe=>h2 (e ▸ d.oZ.1);have hnT:id≠TN:=λe=>h2 (e ▸ d.oZ.2.1);rw[St.ah,if_neg hnZ,V.out.2 id (by omega) (λa=>h2 (d.ou id (.inr (.inl a))).1),U id hnZ,T.out.2.1 id (by omega) (λa=>h2 (d.ou id (.inl a)).1),iw id hnT];exact f.out.2 id h1
theorem N4 (x:Int):cF (tw x):=by
 have h1:(BitVec.ofInt 64 x &&& BitVec.ofInt 64 32767).toNat<=32767:=by
  rw[BitVec.toNat_and];exact Nat.le_trans Nat.and_le_right (by decide)
 unfold tw;rw[wrap_i64 _ (by omega) (by omega)];unfold cF;omega
theorem HF {s:St}{Z:Nat}{B:Bu}{sv nv:LV}{most:Int}{ts:List (List Nd)}{xs:List (Nat × List Int)}{O F:Nat->Prop}(hS:SR s Z B sv nv most ts xs O F) {rv:LV}{r:List Int}(C:aM rv r) (fN:r.length<=6000) {k:Nat}(hk:k<=1000000) (gR:xs.length<=100000) :
 aJ Try.prog GL (.fn (.func 36) [] []) [.aH Z 0, .agg [.int .i64 (k:Int),rv]] s (λN s'=>N = .int .i64 (cZ dr xs (dr (k,r)):Int)/\SR s' Z B sv nv most ts (iR dr xs (k,r)) (λid=>O id∨s.n<=id/\id<s'.n) F/\s.n<=s'.n/\(∀ id,F id->s'.get id=s.get id)/\∀ id,id<s.n->¬ O id->s'.get id=s.get id):=by
 obtain⟨tv,pv,xv,TN,SN,rT,mb,xr,b⟩:=hS;have rL:=C.closed;have D:=C.sl.cell;refine bL (first:=[]) (caps:=[]) Try.func36 (by decide +kernel) c36 (Nat.le_of_ble_eq_true rfl) (aQ.mono (Q:=λo e s'=>(o = .normal∨o = .jmp .ret)/\e.at 4 = .int .i64 (cZ dr xs (dr (k,r)):Int)/\SR s' Z B sv nv most ts (iR dr xs (k,r)) (λid=>O id∨s.n<=id/\id<s'.n) F/\s.n<=s'.n/\(∀ id,F id->s'.get id=s.get id)/\∀ id,id<s.n->¬ O id->s'.get id=s.get id) ?_ λo e s' P=>by
  obtain⟨h1,h2,h3⟩:=P;exact⟨h1,_,by simp[l36,br,bO,h2],rfl,h3⟩)
 refine Cd.out (pF λe e0 e1=>?_);unfold l36;dsimp only[jA,jB,jH,qM,qL,qN,qF,qS,qC,qO,qG,qm,ql];have R:iA .shr (.int .i64 (k:Int)) (.int .u64 15)=some (.int .i64 ((k:Int).fdiv 32768)):=rfl;have i:iA .and (.int .i64 (k:Int)) (.int .i64 32767)=some (.int .i64 (tw k)):=rfl;repeat' (first | refine gN (And.intro @R @i) ?_ | (refine gB (And.intro @R @i) ?_;rintro (_|_) a<;>try simp only[aG,reduceCtorEq]at a<;>try first | (exfalso;omega) | exact a.elim) | fail)
 refine eN (v:=.aD s.n 0 2 1) (s':=s.new (.cells .mut (ints [(k:Int).fdiv 32768,tw k]))) (by
  simp only[aR.run,bB,List.map,lk,gW,Nat.reduceEqDiff,if_false,if_true,List.map];have hc:∀ z:Int,cells? (.int .i64 z)=some [.int .i64 z]:=λ_=>rfl;simp[rep,aW,hc,splice,ints]) ?_
 have oN:Sx (s.new (.cells .mut (ints [(k:Int).fdiv 32768,tw k]))) (.aD s.n 0 2 1) (ints [(k:Int).fdiv 32768,tw k]) 2:=⟨rfl, .inr ⟨s.n,rfl,by simp,by rw[St.az,if_pos rfl]⟩⟩;have nI:∀ id,id<s.n->(s.new (.cells .mut (ints [(k:Int).fdiv 32768,tw k]))).get id=s.get id:=λid d=>by rw[St.az,if_neg (by omega)]
 have gH:(s.new (.cells .mut (ints [(k:Int).fdiv 32768,tw k]))).n=s.n+1:=rfl;generalize s.new (.cells .mut (ints [(k:Int).fdiv 32768,tw k]))=s1 at *;repeat' (first | refine gN trivial ?_ | (refine gB trivial ?_;rintro (_|_) a<;>try simp only[aG,reduceCtorEq]at a<;>try first | (exfalso;omega) | exact a.elim) | fail)
 refine Nj (k:=r.length) (n:=2) (xv:=rv) (yv:=.aD s.n 0 2 1) (vs:=ints r) (cells:=ints [(k:Int).fdiv 32768,tw k]) wN ef C.sl (by simp) (bD _) ef oN (by unfold big;omega) (λs2 R8 h1 h2 h3 J=>?_);have hints:ints [(k:Int).fdiv 32768,tw k]++ints r=ints (rF (k,r)):=by simp[ints,rF]
 have j:2+r.length=(rF (k,r)).length:=by simp[rF];omega
 rw[hints,j]at h1;have m:(k:Int).fdiv 32768=(k:Int) / 32768:=Int.fdiv_eq_ediv_of_nonneg _ (by omega);have W3:∀ x∈rF (k,r),cF x:=λx hx=>by
  unfold rF at hx;rcases List.mem_cons.1 hx with rfl | hx
  ·show cF ((k:Int).fdiv 32768);rw[m];unfold cF;omega
  rcases List.mem_cons.1 hx with rfl | hx
  ·exact N4 _
  ·exact C.jd x hx
 have Ek:=HR h1 W3 (by rw[<- j];omega);have T:∀ id,id<s.n->s2.get id=s.get id:=λid d=>(h3 id (by omega) λc=>by have:=aC.1 c;omega).trans (nI id d);have Yz:∀ id,aP R8 id->s.n<=id:=λid c=>by have:=J id c;omega
 have wX:=b.keep (s':=s2) (by omega) λid d=>T id (b.ol id d);have U:=Bx.mk (And.intro wX T);have hNc:=h1.cell;clear wX h1 h3 J oN nI T R i;repeat' (first | refine gN trivial ?_ | (refine gB trivial ?_;rintro (_|_) a<;>try simp only[aG,reduceCtorEq]at a<;>try first | (exfalso;omega) | exact a.elim) | fail)
 refine bH wN (fv:=.fn (.func 50) [] []) (vs:=[R8]) ef (by simp only[List.map,lk,Nat.reduceEqDiff,if_false,if_true,List.map]) (aJ.mono Ek λx l P=>⟨trivial,?_⟩);obtain⟨rfl,nG,q⟩:=P;simp only[Env.au];have A:=U.out.1.keep (s':=l) (by omega) λid d=>q id λc=>by have:=Yz id c;have:=b.ol id d;omega
 have u:∀ id,id<s.n->l.get id=s.get id:=λid d=>(q id λc=>by have:=Yz id c;omega).trans (U.out.2 id d);have y:=A.dD;have E:=A.sn;have V:=wS dr (dr (k,r)) xs 0;rw[Nat.zero_add]at V;have f:=Bx.mk (And.intro A u);clear Ek U q u A hints j m W3;repeat' (first | refine gN @y ?_ | (refine gB @y ?_;rintro (_|_) a<;>try simp only[aG,reduceCtorEq]at a<;>try first | (exfalso;omega) | exact a.elim) | fail)
 refine Ij SC (M:=SN) (k:=dr (k,r)) (L:=kd dr 0 xs) wN ef (by simp only[lk,Nat.reduceEqDiff,if_false,if_true];rfl) E ?_;rw[V];clear V;by_cases g:cZ dr xs (dr (k,r))<xs.length
 ·rw[if_pos g];simp only[Option.getD_some,Option.isSome_some];have X:Bx (iR dr xs (k,r)=xs):=⟨by unfold iR;rw[if_pos g]⟩;clear g y E;repeat' (first | refine gA trivial ?_ | (refine gB trivial ?_;rintro (_|_) a<;>try simp only[aG,reduceCtorEq]at a<;>try first | (exfalso;omega) | exact a.elim) | apply aA | fail)
  refine⟨.inr trivial,ef,?_,by omega,λid g=>f.out.2 id (b.ol id (b.fo id g).1),λid d _=>f.out.2 id d⟩;rw[X.out];exact⟨_,_,_,_,_,_,_,_,f.out.1.wide (λid h=>.inl h) λid h=>by
   rcases h with h | h
   ·have:=b.ol id h;omega
   ·exact h.2⟩
 ·rw[if_neg g];simp only[Option.getD_none,Option.isSome_none];have OP:cZ dr xs (dr (k,r))=xs.length:=by have:=tH dr xs (dr (k,r));omega
  have X:Bx (iR dr xs (k,r)=xs++[(k,r)]):=⟨by unfold iR;rw[if_neg g]⟩;have Xc:=UP dr xs (k,r) g;have GC:=f.out.1.x.len;have htvc:=f.out.1.t.cell;have hpvc:=f.out.1.p.cell;have hxvc:=f.out.1.x.cell;rw[OP];have fh:=Bx.mk g;clear g;repeat' (first | refine gA (And.intro @y @GC) ?_ | (refine gB (And.intro @y @GC) ?_;rintro (_|_) a<;>try simp only[aG,reduceCtorEq]at a<;>try first | (exfalso;omega) | exact a.elim) | apply aA | fail)
  refine BI SC (M:=SN) (k:=dr (k,r)) (vv:=.int .i64 (xs.length:Int)) (L:=kd dr 0 xs) ef (by simp only[lk,dJ,Nat.reduceEqDiff,if_false,if_true];rfl) ef E ?_;rw[Xc];have Y1:Z≠SN:=(BV E y).symm;have G:(l.put SN (.map (mG mU (kd dr 0 (xs++[(k,r)]))))).get Z=some (.cells .mut [.int .i64 B.L,sv,nv, .int .i64 most,tv,pv, .aI TN,xv, .aI SN]):=by rw[St.ah,if_neg Y1];exact y
  have zF:(l.put SN (.map (mG mU (kd dr 0 (xs++[(k,r)]))))).get SN=some (.map (mG mU (kd dr 0 (xs++[(k,r)])))):=by rw[St.ah,if_pos rfl]
  have q:∀ id,id≠SN->(l.put SN (.map (mG mU (kd dr 0 (xs++[(k,r)]))))).get id=l.get id:=λid d=>by rw[St.ah,if_neg d]
  have hn3':(l.put SN (.map (mG mU (kd dr 0 (xs++[(k,r)]))))).n=l.n:=rfl;have H:=f.out.1.x.mono (s':=l.put SN (.map (mG mU (kd dr 0 (xs++[(k,r)]))))) (by omega) λid c=>q id λe=>dQ.iI f.out.1.x (e ▸ E) c;generalize l.put SN (.map (mG mU (kd dr 0 (xs++[(k,r)]))))=s4 at *;have mZ:cells? (.agg [.int .i64 (k:Int),rv])=some [.int .i64 (k:Int),rv]:=by
   have:[LV.int .i64 (k:Int),rv].all aV=true:=by simp only[List.all_cons,List.all_nil,Bool.and_true,D];rfl
   simp only[cells?,this,if_true]
  have hZs:=b.ol Z b.oZ.1;have hTs:=b.ol SN b.oZ.2.2;have Y:=b.ou;repeat' (first | refine gA @G ?_ | (refine gB @G ?_;rintro (_|_) a<;>try simp only[aG,reduceCtorEq]at a<;>try first | (exfalso;omega) | exact a.elim) | apply aA | fail)
  have A8:(s4.new (.cells .mut [.int .i64 (k:Int),rv])).get Z=some (.cells .mut [.int .i64 B.L,sv,nv, .int .i64 most,tv,pv, .aI TN,xv, .aI SN]):=by rw[St.az,if_neg (by omega)];exact G
  refine F6 (n:=xs.length) (aU:=2) (xv:=.agg [.int .i64 (k:Int),rv]) (yv:=xv) (vs:=[.int .i64 (k:Int),rv]) (cells:=eG Jp xr) ef mZ rfl rfl (by simp[LV.closed.aq,LV.closed,rL]) ef H ⟨.inr ⟨rfl,by simp[aR.run,gW,Nat.reduceEqDiff,Nat.reduceAdd,reduceIte,aT,A8,aT]⟩, .inr ⟨rfl,by simp[aR.run,gW,Nat.reduceEqDiff,Nat.reduceAdd,reduceIte,aT,aT]⟩,trivial⟩ (by decide) (by omega) (λs5 j5 b1 b2 b3 K=>?_);have tS:s5.get Z=some (.cells .mut [.int .i64 B.L,sv,nv, .int .i64 most,tv,pv, .aI TN,xv, .aI SN]):=by rw[K Z (by omega) λc=>(Y Z (.inr (.inr c))).2 rfl];exact G
  have w:=(K SN (by omega) (dQ.iI H zF)).trans zF;have I:=Bx.mk (And.intro b2 (And.intro K w));clear b2 K G A8 w;repeat' (first | refine gA @tS ?_ | (refine gB @tS ?_;rintro (_|_) a<;>try simp only[aG,reduceCtorEq]at a<;>try first | (exfalso;omega) | exact a.elim) | apply aA | fail)
  have A:=f.out.1;have hA:=A.addX (x:=(k,r)) (rv:=rv) C (s':=s5.put Z (.cells .mut [.int .i64 B.L,sv,nv, .int .i64 most,tv,pv, .aI TN, .aD j5 0 (xs.length+1) 2, .aI SN])) (Zq:=.aD j5 0 (xs.length+1) 2) (by simp;omega) (by rw[St.ah,if_pos rfl])
   (by rw[St.ah,if_neg Y1.symm];exact I.out.2.2)
   (I.out.1.mono (by simp) λid c=>by
    have:=aC.1 c;rw[St.ah,if_neg (by omega)])
   (λid c=>by have:=aC.1 c;omega)
   (λid h1 h2 h3 J=>by
    rw[St.ah,if_neg h2,I.out.2.1 id (by omega) J,q id h3])
  refine⟨.inr trivial,ef,?_,by simp;omega,λid g=>?_,λid h1 h2=>?_⟩
  ·rw[X.out];exact⟨_,_,_,_,_,_,_,_,hA.wide (λid h=>by
    rcases h with h | h
    ·exact .inl h
    ·exact .inr ⟨by omega,h.2⟩) λid h=>by
    rcases h with h | h
    ·have:=b.ol id h;simp;omega
    ·exact h.2⟩
  ·have hm:=b.fo id g;have cm:=b.ol id hm.1;rw[St.ah,if_neg hm.2.1,I.out.2.1 id (by omega) hm.2.2.2.2.2.2,q id hm.2.2.2.1];exact f.out.2 id cm
  ·have hnZ:id≠Z:=λe=>h2 (e ▸ b.oZ.1);have hnT:id≠SN:=λe=>h2 (e ▸ b.oZ.2.2);rw[St.ah,if_neg hnZ,I.out.2.1 id (by omega) (λc=>h2 (b.ou id (.inr (.inr c))).1),q id hnT];exact f.out.2 id h1
theorem uu {α:Type}(key:α->List UInt8) (x:α):iR key [] x=[x]/\cZ key ([]:List α) (key x)=0:=by
 unfold iR cZ;simp
theorem R9 {C:LV}{B:Bu}{sv nv:LV}(hB:zW C B sv nv) (D:Vb B) (hN:B.next.length<=10) (hl:B.start.length<=64) (most:Int) (s:St) :
 aJ Try.prog GL (.fn (.func 21) [] []) [C, .int .i64 most] s (λr s'=>∃ Z O,r = .aH Z 0/\SR s' Z B sv nv most [Aa B] [(0,oX (2*B.next.length))] O (λ_=>False)/\s.n<=s'.n/\(∀ id,O id->s.n<=id)/\∀ id,id<s.n->s'.get id=s.get id):=by
 have cx:=hB.closed;have R:=Ju hB D hl;have T:=Jv hB D;have f:=Dm (n:=2*B.next.length) (by omega);obtain⟨rfl,hs,c⟩:=hB;have vK:=hs.closed;have uz:=c.closed;obtain⟨vs,U⟩:=c;have E:=hs.sl.cell;have G:=U.sl.cell;refine bL (first:=[]) (caps:=[]) Try.func21 (by decide +kernel) c21 (Nat.le_of_ble_eq_true rfl) (aQ.mono (Q:=λo e s'=>(o = .normal∨o = .jmp .ret)/\∃ Z O,e.at 4 = .aH Z 0/\SR s' Z B sv nv most [Aa B] [(0,oX (2*B.next.length))] O (λ_=>False)/\s.n<=s'.n/\(∀ id,O id->s.n<=id)/\∀ id,id<s.n->s'.get id=s.get id) ?_ λo e s' g=>by
  obtain⟨h1,Z,O,h2,h3⟩:=g;exact⟨h1,_,by simp[l21,br,bO,h2],Z,O,rfl,h3⟩)
 refine Cd.out (pF λe e0 e1=>?_);unfold l21;dsimp only[jA,jB,qM,qN,qO,qG,qm];repeat' (first | refine gN trivial ?_ | (refine gB trivial ?_;rintro (_|_) a<;>try simp only[aG,reduceCtorEq]at a<;>try first | (exfalso;omega) | exact a.elim) | fail)
 refine ju (n:=s.n) wN rfl ?_;refine ju (n:=s.n+1) wN rfl ?_;have V:cells? (.agg [.int .i64 B.L,sv,nv])=some [.int .i64 B.L,sv,nv]:=by
  have:[LV.int .i64 B.L,sv,nv].all aV=true:=by simp only[List.all_cons,List.all_nil,Bool.and_true,E,G];rfl
  simp only[cells?,this,if_true]
 have j:cells? (.agg [.int .i64 B.L,sv,nv, .int .i64 most, .aj, .aj, .aI s.n, .aj, .aI (s.n+1)])=some [.int .i64 B.L,sv,nv, .int .i64 most, .aj, .aj, .aI s.n, .aj, .aI (s.n+1)]:=by
  have:[LV.int .i64 B.L,sv,nv, .int .i64 most, .aj, .aj, .aI s.n, .aj, .aI (s.n+1)].all aV=true:=by simp only[List.all_cons,List.all_nil,Bool.and_true,E,G];rfl
  simp only[cells?,this,if_true]
 refine iF (vs:=[.int .i64 B.L,sv,nv, .int .i64 most, .aj, .aj, .aI s.n, .aj, .aI (s.n+1)]) wN (by
  simp only[bB,List.map,lk,Nat.reduceEqDiff,if_false,if_true,List.map];simp[aW,V,yP,jj,splice]) ?_
 refine eN (v:=.aH (s.n+2) 0) (s':=((s.new (.map [])).new (.map [])).new (.cells .mut [.int .i64 B.L,sv,nv, .int .i64 most, .aj, .aj, .aI s.n, .aj, .aI (s.n+1)])) (by
  simp only[aR.run,lk,gW,Nat.reduceEqDiff,if_false,if_true,j];simp) ?_
 have H:SX (((s.new (.map [])).new (.map [])).new (.cells .mut [.int .i64 B.L,sv,nv, .int .i64 most, .aj, .aj, .aI s.n, .aj, .aI (s.n+1)])) (s.n+2) B sv nv most [] [] (λid=>s.n<=id/\id<s.n+3) (λ_=>False) .aj .aj .aj s.n (s.n+1) [] [] []:={
  dD:=by rw[St.az,if_pos (by simp)]
  t:=dQ.nil _ _
  p:=dQ.nil _ _
  x:=dQ.nil _ _
  tn:=by rw[St.az,if_neg (by simp;omega),St.az,if_neg (by simp),St.az,if_pos rfl];rfl
  sn:=by rw[St.az,if_neg (by simp),St.az,if_pos (by simp)];rfl
  tt:=λi d=>absurd d (by simp)
  pm:=λi d=>absurd d (by simp)
  xl:=rfl
  xx:=λi d=>absurd d (by simp)
  oZ:=by omega
  ou:=λid b=>by
   rcases b with b | b | b<;>exact absurd b (bq id)
  om:=λi d=>absurd d (by simp)
  fo:=λid h=>h.elim
  ol:=λid h=>by simp;omega
  d1:=λid b=>absurd b (bq id)
  d2:=λid b=>absurd b (bq id)
  d3:=λid b=>absurd b (bq id)
  ne:=by omega }
 have gH:(((s.new (.map [])).new (.map [])).new (.cells .mut [.int .i64 B.L,sv,nv, .int .i64 most, .aj, .aj, .aI s.n, .aj, .aI (s.n+1)])).n=s.n+3:=rfl;have X:∀ id,id<s.n->(((s.new (.map [])).new (.map [])).new (.cells .mut [.int .i64 B.L,sv,nv, .int .i64 most, .aj, .aj, .aI s.n, .aj, .aI (s.n+1)])).get id=s.get id:=λid I=>by rw[St.az,if_neg (by simp;omega),St.az,if_neg (by simp;omega),St.az,if_neg (by omega)]
 generalize ((s.new (.map [])).new (.map [])).new (.cells .mut [.int .i64 B.L,sv,nv, .int .i64 most, .aj, .aj, .aI s.n, .aj, .aI (s.n+1)])=Y at *;have eZ:=Bx.mk H;clear H j;repeat' (first | refine gN trivial ?_ | (refine gB trivial ?_;rintro (_|_) a<;>try simp only[aG,reduceCtorEq]at a<;>try first | (exfalso;omega) | exact a.elim) | fail)
 refine cW ez R wN (by simp only[List.map,lk,Nat.reduceEqDiff,if_false,if_true,List.map]) λC8 w SP=>⟨⟨.inr ⟨rfl,by simp[aR.run,gW,Nat.reduceEqDiff,Nat.reduceAdd,reduceIte,aT,aT,Env.au]⟩,trivial⟩,?_⟩;simp only[Env.au];obtain⟨rs,w⟩:=w;have l:TrB (Aa B):=by
  unfold Aa;split
  ·exact⟨by simp,λn c=>absurd c (by simp),λn c=>absurd c (by simp)⟩
  ·exact⟨by simp,λn c=>by rw[List.mem_singleton.1 c];show B.start.length<=3000;omega,λn c=>by rw[List.mem_singleton.1 c];show (-1:Int)<=-1/\(-1:Int)<=6000;omega⟩
 have y:=HQ (s:=Y) ⟨_,_,_,_,_,_,_,_,eZ.out⟩ w l (by simp);rw[(uu bZ (Aa B)).1,(uu bZ (Aa B)).2]at y;repeat' (first | refine gN trivial ?_ | (refine gB trivial ?_;rintro (_|_) a<;>try simp only[aG,reduceCtorEq]at a<;>try first | (exfalso;omega) | exact a.elim) | fail)
 refine bH wN (fv:=.fn (.func 37) [] []) (vs:=[.aH (s.n+2) 0,C8]) ef (by simp only[List.map,lk,Nat.reduceEqDiff,if_false,if_true,List.map]) (aJ.mono y λx s2 g=>⟨⟨.inr ⟨rfl,by simp[aR.run,gW,Nat.reduceEqDiff,Nat.reduceAdd,reduceIte,aT,aT,Env.au]⟩,trivial⟩,?_⟩);simp only[Env.au];obtain⟨rfl,J,jY,-,K⟩:=g;have m:=Bx.mk (And.intro J K);clear y J K;repeat' (first | refine gN trivial ?_ | (refine gB trivial ?_;rintro (_|_) a<;>try simp only[aG,reduceCtorEq]at a<;>try first | (exfalso;omega) | exact a.elim) | fail)
 refine dR ez T wN (by simp only[List.map,lk,Nat.reduceEqDiff,if_false,if_true,List.map]) trivial ?_;simp only[Env.au];refine cW ez f wN (by simp only[List.map,lk,Nat.reduceEqDiff,if_false,if_true,List.map]) λu z rL=>⟨trivial,?_⟩;simp only[Env.au];have M:=z.sl.cell;have mZ:cells? u=some [u]:=pJ z.sl;refine iF (vs:=[.int .i64 ((0:Nat):Int),u]) wN (by
  simp only[bB,List.map,lk,Nat.reduceEqDiff,if_false,if_true,List.map];simp[aW,mZ,jj,splice]) ?_
 have A:=HF (k:=0) m.out.1 z (by rw[gP];omega) (by omega) (by simp);rw[(uu dr (0,oX (2*B.next.length))).1,(uu dr (0,oX (2*B.next.length))).2]at A;refine bH wN (fv:=.fn (.func 36) [] []) (vs:=[.aH (s.n+2) 0, .agg [.int .i64 ((0:Nat):Int),u]]) ef (by simp only[List.map,lk,Nat.reduceEqDiff,if_false,if_true,List.map]) (aJ.mono A λx s3 g=>⟨trivial,?_⟩);simp only[Env.au];obtain⟨rfl,N,nG,-,P⟩:=g;have q:=Bx.mk (And.intro N P);clear A N P;repeat' (first | refine gN trivial ?_ | (refine gB trivial ?_;rintro (_|_) a<;>try simp only[aG,reduceCtorEq]at a<;>try first | (exfalso;omega) | exact a.elim) | fail)
 refine⟨.inr trivial,s.n+2,_,ef,q.out.1,by omega,λid h=>?_,λid I=>?_⟩
 ·rcases h with (h | h) | h<;>omega
 ·rw[q.out.2 id (by omega) (λh=>by rcases h with h | h<;>omega),m.out.2 id (by omega) (λh=>by omega)];exact X id I
end Go.Proofs.Ytkbiecjdcjfhaaa
end
