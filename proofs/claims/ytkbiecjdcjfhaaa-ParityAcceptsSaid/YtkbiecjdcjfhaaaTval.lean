/- tree.valid. -/
import Derived.Test.YtkbiecjdcjfhaaaValid
import Derived.Test.YtkbiecjdcjfhaaaTbase
import Derived.Test.YtkbiecjdcjfhaaaPvKM
import Derived.Test.YtkbiecjdcjfhaaaTre
import Derived.Test.YtkbiecjdcjfhaaaWoa
import Derived.Test.YtkbiecjdcjfhaaaPvQ
set_option linter.unusedSimpArgs false
set_option linter.unusedVariables false
set_option maxRecDepth 100000
set_option maxHeartbeats 16000000
section
namespace Go.Proofs.Ytkbiecjdcjfhaaa
open Go Go.Pv Go.Jo
open Classical
def wg (r:Int × Int × LV):List LV:=[.int .i64 r.1, .int .i64 r.2.1,r.2.2]
theorem xo (r:Int × Int × LV):(wg r).length=3:=rfl
structure Qv (r:Int × Int × LV) (n:Nd):Prop where
  name:r.1=n.name
  par:r.2.1=n.par
  set:aM r.2.2 n.set
  nr:cF n.name
  pr:cF n.par
structure uw (v:LV) (t:List Nd) (rs:List (Int × Int × LV)):Prop where
  sl:Sl v (eG wg rs) t.length
  len:rs.length=t.length
  lim:t.length<=3000
  nd:∀ i,i<t.length->Qv (rs.getD i default) (t.getD i default)
theorem uw.closed {v:LV}{t:List Nd}{rs:List (Int × Int × LV)}(h:uw v t rs):v.closed=true:=by
 refine h.sl.closed (kL λj c=>?_);rw[nY xo,h.len]at c;have a:j / 3<t.length:=by omega
 have d:=h.nd _ a;have f:rs[j / 3]? = some (rs.getD (j / 3) default):=by
  have:j / 3<rs.length:=by rw[h.len];exact a
  simp[gD,this]
 have b:=HI xo f (k:=j % 3) om [];rw[List.append_nil,show j / 3*3+j % 3=j by omega]at b;rw[gD,b];have h3:j % 3=0∨j % 3=1∨j % 3=2:=by omega
 rcases h3 with e | e | e
 ·rw[e];rfl
 ·rw[e];rfl
 ·rw[e];exact d.set.closed
theorem uw.get {v:LV}{t:List Nd}{rs:List (Int × Int × LV)}(h:uw v t rs) {i:Nat}(hi:i<t.length) (s:St):cU (some 3) (.aX (eG wg rs) (i*3)) s=some (.agg [.int .i64 (t.getD i default).name, .int .i64 (t.getD i default).par,(rs.getD i default).2.2]):=by
 have a:=h.nd i hi;have b:rs[i]? = some (rs.getD i default):=by
  have:i<rs.length:=by rw[h.len];exact hi
  simp[gD,this]
 rw[Kr xo b];unfold wg;rw[a.name,a.par]
structure zV (N:Nat) (d:List Nd) (n:Nd) (k:Nat):Prop where
  jd:∀ x∈n.set.take k,0<=x/\x<N
  inc:(n.set.take k).Pairwise (· < ·)
  sub:0<d.length->∀ x∈n.set.take k,x∈(d.getD n.par.toNat default).set/\x ∉ below d n.par
theorem zV.zero (N:Nat) (d:List Nd) (n:Nd):zV N d n 0:=⟨λx hx=>by simp at hx,by simp,λ_ x hx=>by simp at hx⟩
theorem zV.lt {N:Nat}{d:List Nd}{n:Nd}{k:Nat}{x:Int}(h:zV N d n k) (hx:n.set[k]? = some x) (h2:0<k->∀ y,n.set[k - 1]? = some y->y<x):∀ z∈n.set.take k,z<x:=by
 intro a b;obtain⟨i,c,rfl⟩:=List.getElem_of_mem b;rw[List.length_take]at c;have f:0<k:=by omega
 have m:k<n.set.length:=(List.getElem?_eq_some_iff.1 hx).1;have g:n.set[k - 1]? = some n.set[k - 1]:=gE om;have j:=h2 f _ g;rw[List.getElem_take];by_cases e:i=k - 1
 ·subst e;exact j
 ·have l:=List.pairwise_iff_getElem.1 h.inc i (k - 1) (by rw[List.length_take];omega) (by rw[List.length_take];omega) om;rw[List.getElem_take,List.getElem_take]at l;omega
theorem zV.succ {N:Nat}{d:List Nd}{n:Nd}{k:Nat}{x:Int}(h:zV N d n k) (hx:n.set[k]? = some x) (h1:0<=x/\x<N) (h2:0<k->∀ y,n.set[k - 1]? = some y->y<x) (h3:0<d.length->x∈(d.getD n.par.toNat default).set/\x ∉ below d n.par):zV N d n (k+1):=by
 have e:n.set.take (k+1)=n.set.take k++[x]:=by rw[List.take_add_one,hx];rfl
 refine⟨λy c=>?_,?_,λf y c=>?_⟩
 ·rw[e,List.mem_append,List.mem_singleton]at c;rcases c with c | rfl
  ·exact h.jd y c
  ·exact h1
 ·rw[e,List.pairwise_append];refine⟨h.inc,by simp,λa i b g=>?_⟩;rw[List.mem_singleton]at g;subst g;exact h.lt hx h2 a i
 ·rw[e,List.mem_append,List.mem_singleton]at c;rcases c with c | rfl
  ·exact h.sub f y c
  ·exact h3 f
theorem Sb {N:Nat}{d:List Nd}{n:Nd}{k:Nat}{x:Int}(h:Yd N d n) (hx:n.set[k]? = some x):(0<=x/\x<N)/\(0<k->∀ y,n.set[k - 1]? = some y->y<x)/\(0<d.length->x∈(d.getD n.par.toNat default).set/\x ∉ below d n.par):=by
 have hm:=List.mem_of_getElem? hx;refine⟨h.jd x hm,λc y a=>?_,λb=>h.sub b x hm⟩;obtain⟨h1,rfl⟩:=List.getElem?_eq_some_iff.1 hx;obtain⟨h2,rfl⟩:=List.getElem?_eq_some_iff.1 a;exact List.pairwise_iff_getElem.1 h.inc (k - 1) k h2 h1 om
def dG (F:Nat->Nat) (i:Nat):Nat->LV:=λj=>if j<i then .aI (F j) else .bN
theorem xQ {F:Nat->Nat}{i M:Nat}(j:Nat):dG (λj=>if j=i then M else F j) (i+1) j=if j=i then .aI M else dG F i j:=by
 unfold dG;by_cases e:j=i
 ·subst e;simp
 ·by_cases h:j<i
  ·simp[e,h,show j<i+1 by omega]
  ·simp[e,h,show ¬ j<i+1 by omega]
structure VS (s:St) (N:Nat) (t:List Nd) (i:Nat) (F H:Nat->Nat):Prop where
  lJ:s.get 1=some (.cells .mut (bw t.length (dG F i)))
  zS:s.get 2=some (.cells .mut (bw t.length (dG H i)))
  names:dV s 0 ((t.take i).map (·.name))
  mf:wF s i F λj=>(t.getD j default).set
  mh:wF s i H λj=>below (t.take i) (j:Int)
  ap:∀ j,j<i->∀ j',j'<i->F j≠H j'
  up:∀ j,j<i->2<F j/\2<H j
  n:3<=s.n
  ok:Ok N (t.take i)
theorem VS.mono {s s':St}{N:Nat}{t:List Nd}{i:Nat}{F H:Nat->Nat}(h:VS s N t i F H) (c:s.n<=s'.n) (a:∀ id,id<s.n->s'.get id=s.get id):VS s' N t i F H:=
 have h3:=h.n
 ⟨(a 1 om).trans h.lJ,(a 2 om).trans h.zS,h.names.keep (a 0 om),h.mf.keep c λj b=>a _ (h.mf.lt j b),h.mh.keep c λj b=>a _ (h.mh.lt j b),h.ap,h.up,by omega,h.ok⟩
theorem Hu {N:Nat}{t:List Nd}{i:Nat}(h:Ok N (t.take i)) (hi:i<=t.length):below (t.take i) (i:Int)=[]:=by
 unfold below;have:((t.take i).filter λn=>decide (n.par=(i:Int)))=[]:=by
  refine List.filter_eq_nil_iff.2 λn b=>?_;obtain⟨k,a,rfl⟩:=List.getElem_of_mem b;have h1:=h k a;have e:(t.take i).getD k default=(t.take i)[k]:=by rw[gD,gE a];rfl
  rw[e]at h1;have hl:((t.take i).take k).length=k:=by rw[List.length_take];omega
  have c:(t.take i).length=i:=by rw[List.length_take];omega
  simp only[decide_eq_true_iff];rcases Nat.eq_zero_or_pos ((t.take i).take k).length with e | e
  ·have:=h1.root e;omega
  ·have:=(h1.par e).2;omega
 rw[this];rfl
structure VJ (s:St) (N:Nat) (t:List Nd) (i:Nat) (n:Nd) (sv:LV) (b kf kh:Nat) (F H:Nat->Nat):Prop where
  lJ:s.get 1=some (.cells .mut (bw t.length (dG F (i+1))))
  zS:s.get 2=some (.cells .mut (bw t.length (dG H (i+1))))
  names:dV s 0 ((t.take i).map (·.name)++[n.name])
  mf:wF s (i+1) F λj=>if j=i then n.set.take kf else (t.getD j default).set
  mh:wF s (i+1) H λj=>below (t.take i) (j:Int)++if n.par=(j:Int) then n.set.take kh else []
  ap:∀ j,j<i+1->∀ j',j'<i+1->F j≠H j'
  up:∀ j,j<i+1->(2<F j/\F j≠b)/\2<H j/\H j≠b
  n3:3<=b/\b<s.n
  dD:s.get b=some (.cells .mut [.int .i64 n.name, .int .i64 n.par,sv])
theorem VJ.Rw {s s':St}{N:Nat}{t:List Nd}{i:Nat}{n:Nd}{c:LV}{b k d:Nat}{F H:Nat->Nat}{x:Int}(h:VJ s N t i n c b k d F H) (hx:n.set[k]? = some x) (f:s'.n=s.n) (hm:dV s' (F i) (n.set.take k++[x])) (hs:∀ id,id≠F i->s'.get id=s.get id):VJ s' N t i n c b (k+1) d F H:=by
 have e:n.set.take (k+1)=n.set.take k++[x]:=by rw[List.take_add_one,hx];rfl
 have g:=h.up i om;have h3:=h.n3;exact⟨(hs 1 om).trans h.lJ,(hs 2 om).trans h.zS,h.names.keep (hs 0 om),h.mf.up om f (by simp only[if_true];rw[e];exact hm) hs λj _ a=>by simp only[if_neg a],h.mh.keep om λj a=>hs _ (h.ap i om j a).symm,h.ap,h.up,by omega,(hs b om).trans h.dD⟩
theorem VJ.Qj {s s':St}{N:Nat}{t:List Nd}{i q:Nat}{n:Nd}{a:LV}{b k c:Nat}{F H:Nat->Nat}{x:Int}(h:VJ s N t i n a b c k F H) (f:n.par=(q:Int)) (l:q<i) (hx:n.set[k]? = some x) (g:s'.n=s.n) (hm:dV s' (H q) (below (t.take i) (q:Int)++n.set.take k++[x])) (hs:∀ id,id≠H q->s'.get id=s.get id):VJ s' N t i n a b c (k+1) F H:=by
 have e:n.set.take (k+1)=n.set.take k++[x]:=by rw[List.take_add_one,hx];rfl
 have m:=h.up q om;have h3:=h.n3;exact⟨(hs 1 om).trans h.lJ,(hs 2 om).trans h.zS,h.names.keep (hs 0 om),h.mf.keep om λj d=>hs _ (h.ap j d q om),h.mh.up (j:=q) om g (by simp only[f,if_true];rw[e,<- List.append_assoc];exact hm) hs λj _ d=>by
  have:¬ n.par=(j:Int):=by omega
  simp only[if_neg this],h.ap,h.up,by omega,(hs b om).trans h.dD⟩
theorem VJ.root {s:St}{N:Nat}{t:List Nd}{i:Nat}{n:Nd}{a:LV}{b k c d:Nat}{F H:Nat->Nat}(h:VJ s N t i n a b c k F H) (e:n.par = -1):VJ s N t i n a b c d F H:=
 ⟨h.lJ,h.zS,h.names,h.mf,h.mh.ext λj _ x=>by
  have:¬ n.par=(j:Int):=by omega
  simp only[if_neg this],h.ap,h.up,h.n3,h.dD⟩
theorem VJ.done {s:St}{N:Nat}{t:List Nd}{i:Nat}{d:LV}{b:Nat}{F H:Nat->Nat}(hi:i<t.length) (h:VJ s N t i (t.getD i default) d b (t.getD i default).set.length (t.getD i default).set.length F H) (f:Ok N (t.take (i+1))):VS s N t (i+1) F H:=by
 have a:=take_one t default hi;have h3:=h.n3;refine⟨h.lJ,h.zS,?_,h.mf.ext λj _ x=>?_,h.mh.ext λj _ x=>?_,h.ap,λj c=>⟨(h.up j c).1.1,(h.up j c).2.1⟩,by omega,f⟩
 ·rw[a,List.map_append];exact h.names
 ·by_cases e:j=i
  ·subst e;simp only[if_true,List.take_length]
  ·simp only[if_neg e]
 ·rw[a,uo,ve,List.take_length]
theorem Js {w:LV}{t:List Nd}{rs:List (Int × Int × LV)}(Q:uw w t rs) {N:Nat}(hN:N<=3000):PO 72 [.int .i64 (N:Int),w] (.bool (decide (Tr N t))):=by
 have cx:=Q.closed;have U:=Q.sl.len;have q8:=Q.lim;have tN:maxLen=9223372036854775807:=by decide
 refine lK (t:=4) hm Try.func72 (by decide +kernel) c72 (Nat.le_of_ble_eq_true rfl) (by simp[LV.closed.aq,LV.closed,cx]) rfl rfl ?_;refine pF λe r u=>?_;unfold l72;dsimp only[jA,jB,jC,jD,jG,qM,qL,qN,qF,qS,qI,qA,qB,qC,qK,qP,qm,ql];repeat' (first | refine gA @U ?_ | (refine gB @U ?_;rintro (_|_) a<;>try simp only[aG,reduceCtorEq]at a) | apply aA | fail)
 refine ju wN cj ?_;repeat' (first | refine gA @U ?_ | (refine gB @U ?_;rintro (_|_) a<;>try simp only[aG,reduceCtorEq]at a) | apply aA | fail)
 refine xk (n:=t.length) (k:=1) (z:=.bN) wN rfl ef ef om (by decide) ?_;repeat' (first | refine gA @U ?_ | (refine gB @U ?_;rintro (_|_) a<;>try simp only[aG,reduceCtorEq]at a) | apply aA | fail)
 refine xk (n:=t.length) (k:=2) (z:=.bN) wN rfl ef ef om (by decide) ?_;repeat' (first | refine gA @U ?_ | (refine gB @U ?_;rintro (_|_) a<;>try simp only[aG,reduceCtorEq]at a) | apply aA | fail)
 refine aS (λm e s=>∃ (i:Nat) (F H:Nat->Nat),m=t.length - i/\i<=t.length/\VS s N t i F H/\e.at 0 = .int .i64 (N:Int)/\e.at 1=w/\e.at 5 = .aI 0/\e.at 6 = .aD 1 0 t.length 1/\e.at 7 = .aD 2 0 t.length 1/\e.at 21=w/\e.at 22 = .int .i64 (t.length:Int)/\e.at 23 = .int .i64 (i:Int)) _
  ⟨0,λ_=>0,λ_=>0,rfl,by omega,?_,ef,ef,ef,ef,ef,ef,ef,by simp only[lk,Nat.reduceEqDiff,if_false,if_true];rfl⟩ ?_
 ·have hz:bw t.length (dG (λ_=>0) 0)=bw t.length λ_=>.bN:=kC λj _=>by simp[dG]
  exact⟨by rw[hz];simp[cj],by rw[hz];simp[cj],dV.nil (by simp[cj]),wF.zero _ _ _,wF.zero _ _ _,λj d=>absurd d om,λj d=>absurd d om,by simp[cj],λi hi=>by simp at hi⟩
 clear r u;clear e;rintro m e s ⟨i,F,H,rfl,hi,G,r,u,A,B,v,C,D,I⟩;by_cases o:i<t.length
 ·have tP:(i:Int)<(t.length:Int):=by omega
  have dS:=λs=>Q.get o s;have gK:=Q.nd i o;have fO:=take_one t default o;have V:=λh:Tr N t=>h.1 i o;have E:=gK.set;have hsetl:=E.sl.len;have tK:=E.sl.cell;have cJ:t.getD i default∈t:=by
   rw[gD,gE o];simp
  have vJ:IntKind.i64.wrap (2*(N:Int))=2*(N:Int):=wrap_i64 _ om om;have tR:(t.take i).length=i:=by rw[List.length_take];omega
  generalize W8:t.getD i default=n at *;generalize (rs.getD i default).2.2=L at *;repeat' (first | refine gN (And.intro (@cw _ _ _ Q.sl) (And.intro @dS @vJ)) ?_ | (refine gB (And.intro (@cw _ _ _ Q.sl) (And.intro @dS @vJ)) ?_;intro g a;cases g<;>(try simp only[aG]at a)<;>(try first | omega | exact a.elim)) | fail)
  refine kj (λc VW=>VW=(s.new (.cells .mut [.int .i64 0, .int .i64 0, .aj])).put s.n (.cells .mut [.int .i64 n.name, .int .i64 n.par,L])/\((i=0/\n.par = -1)∨(0<i/\0<=n.par/\n.par<i))/\c.at 0 = .int .i64 (N:Int)/\c.at 1=w/\c.at 5 = .aI 0/\c.at 6 = .aD 1 0 t.length 1/\c.at 7 = .aD 2 0 t.length 1/\c.at 21=w/\c.at 22 = .int .i64 (t.length:Int)/\c.at 23 = .int .i64 (i:Int)/\c.at 8 = .int .i64 (i:Int)/\c.at 9 = .aH s.n 0) ?_ ?_
  ·have O:Bx (¬ ((i=0/\n.par = -1)∨(0<i/\0<=n.par/\n.par<i))->decide (Tr N t)=false):=⟨λX=>decide_eq_false λh=>X (by
    have:=(V h);rcases Nat.eq_zero_or_pos i with e | e
    ·exact .inl ⟨e,this.root om⟩
    ·have:=this.par om;rw[tR]at this;exact .inr ⟨e,this⟩)⟩
   clear V fO G cJ W8 E;repeat' (first | refine gA trivial ?_ | (refine gB trivial ?_;intro g a;cases g<;>(try simp only[aG]at a)<;>(try first | omega | exact a.elim)) | apply aA | fail)
   all_goals first | (refine⟨.inr trivial,?_⟩;rw[O.out om];exact ef) | refine⟨trivial,by omega,ef,ef,ef,ef,ef,ef,ef,ef,ef,ef⟩
  clear r u A B v C D I;clear e;rintro e s1 ⟨oN,X,r,u,A,B,v,C,D,I,Y,Z⟩;have gH:s1.n=s.n+1:=by rw[oN];rfl
  have p:s1.get s.n=some (.cells .mut [.int .i64 n.name, .int .i64 n.par,L]):=by rw[oN,St.ah,if_pos rfl]
  have qx:=G.mono (s':=s1) om λid aO=>by rw[oN,St.ah,if_neg om,St.az,if_neg om]
  have Xv:=G.n;have rK:∀ j,j<i->F j<s.n/\H j<s.n:=λj d=>⟨G.mf.lt j d,G.mh.lt j d⟩;generalize s.n=b at *;clear G oN;clear s;refine kj (λc VW=>VW=s1/\(1<=n.name/\n.name<=2*N/\n.name ∉ (t.take i).map (·.name))/\n.set≠[]/\c.at 0 = .int .i64 (N:Int)/\c.at 1=w/\c.at 5 = .aI 0/\c.at 6 = .aD 1 0 t.length 1/\c.at 7 = .aD 2 0 t.length 1/\c.at 21=w/\c.at 22 = .int .i64 (t.length:Int)/\c.at 23 = .int .i64 (i:Int)/\c.at 8 = .int .i64 (i:Int)/\c.at 9 = .aH b 0) ?_ ?_
  ·have O:Bx (¬ ((1<=n.name/\n.name<=2*N/\n.name ∉ (t.take i).map (·.name))/\n.set≠[])->decide (Tr N t)=false):=⟨λX=>decide_eq_false λh=>X ⟨(V h).name,(V h).ne⟩⟩;have hlB:Bx (n.set=[]↔n.set.length=0):=⟨List.length_eq_zero_iff.symm⟩;have l:=Bx.mk qx;have hpB:=Bx.mk X;clear V fO cJ W8 E qx X;repeat' (first | refine gA (And.intro @vJ @p) ?_ | (refine gB (And.intro @vJ @p) ?_;intro g a;cases g<;>(try simp only[aG]at a)<;>(try first | omega | exact a.elim)) | apply aA | fail)
   ·refine kR l.out.names (wG ef) ef ef (λb hb=>?_);cases b
    ·have IY:=of_decide_eq_false hb;repeat' (first | refine gA (And.intro @vJ @p) ?_ | (refine gB (And.intro @vJ @p) ?_;intro g a;cases g<;>(try simp only[aG]at a)<;>(try first | omega | exact a.elim)) | apply aA | fail)
     ·refine⟨trivial,⟨by omega,by omega,IY⟩,λh=>?_,ef,ef,ef,ef,ef,ef,ef,ef,ef,ef⟩;have:=hlB.out.1 h;omega
     ·refine⟨.inr trivial,?_⟩;rw[O.out λh=>h.2 (hlB.out.2 om)];exact ef
    ·have IY:=of_decide_eq_true hb;repeat' (first | refine gA (And.intro @vJ @p) ?_ | (refine gB (And.intro @vJ @p) ?_;rintro (_|_) a<;>try simp only[aG,reduceCtorEq]at a<;>try first | (exfalso;omega) | exact a.elim) | apply aA | fail)
     refine⟨.inr trivial,?_⟩;rw[O.out λh=>h.1.2.2 IY];exact ef
   all_goals
    refine⟨.inr trivial,?_⟩;rw[O.out om];exact ef
  clear r u A B v Y Z C D I;clear e;rintro e s2 ⟨rfl,U2,dH,r,u,A,B,v,C,D,I,Y,Z⟩;have QX:=Bx.mk (And.intro V (And.intro fO (And.intro cJ W8)));have l:=Bx.mk qx;have hnB:=Bx.mk (And.intro U2 dH);clear V fO cJ W8 qx U2 dH;repeat' (first | refine gN @p ?_ | (refine gB @p ?_;rintro (_|_) a<;>try simp only[aG,reduceCtorEq]at a<;>try first | (exfalso;omega) | exact a.elim) | fail)
  refine n7 l.out.names ef ef ef (λs3 nG U6 iw=>?_);repeat' (first | refine gN @p ?_ | (refine gB @p ?_;rintro (_|_) a<;>try simp only[aG,reduceCtorEq]at a<;>try first | (exfalso;omega) | exact a.elim) | fail)
  refine ju wN (nG.trans gH) ?_;repeat' (first | refine gN @cG ?_ | (refine gB @cG ?_;rintro (_|_) a<;>try simp only[aG,reduceCtorEq]at a<;>try first | (exfalso;omega) | exact a.elim) | fail)
  refine kX (q:=i) (f:=dG F i) (f':=dG (λj=>if j=i then b+1 else F j) (i+1)) ef ef rfl (by rw[St.az,if_neg om,iw 1 (by decide)];exact l.out.lJ) o xQ (λs4 qv ri gQ=>?_);rw[St.dZ]at qv;repeat' (first | refine gN @p ?_ | (refine gB @p ?_;rintro (_|_) a<;>try simp only[aG,reduceCtorEq]at a<;>try first | (exfalso;omega) | exact a.elim) | fail)
  refine ju (n:=b+2) wN om ?_;repeat' (first | refine gN @cG ?_ | (refine gB @cG ?_;rintro (_|_) a<;>try simp only[aG,reduceCtorEq]at a<;>try first | (exfalso;omega) | exact a.elim) | fail)
  refine kX (q:=i) (f:=dG H i) (f':=dG (λj=>if j=i then b+2 else H j) (i+1)) ef ef rfl (by rw[St.az,if_neg om,gQ 2 (by decide),St.az,if_neg om,iw 2 (by decide)];exact l.out.zS) o xQ (λs5 Fo yo gT=>?_);rw[St.dZ]at Fo;have jO:∀ id,id≠0->id≠1->id≠2->id<b+1->s5.get id=s2.get id:=λid h0 h1 h2 h3=>by
   rw[gT id h2,St.az,if_neg om,gQ id h1,St.az,if_neg om,iw id h0]
  have R:∃ F' H',VJ s5 N t i n L b 0 0 F' H':=⟨_,_,{
   lJ:=by rw[gT 1 (by decide),St.az,if_neg om];exact ri
   zS:=yo
   names:=U6.keep (by rw[gT 0 (by decide),St.az,if_neg om,gQ 0 (by decide),St.az,if_neg om])
   mf:=l.out.mf.snoc (n:=i) (M:=b+1) om (λj d=>jO _ (by have:=l.out.up j d;omega) (by have:=l.out.up j d;omega) (by have:=l.out.up j d;omega) (by have:=rK j d;omega)) (λj d=>by have:=rK j d;omega) om (by simpa using dV.nil (by rw[gT _ om,St.az,if_neg om,gQ _ om,St.az,if_pos om])) (λj=>rfl) (λj d=>by rw[if_neg om])
   mh:=l.out.mh.snoc (n:=i) (M:=b+2) om (λj d=>jO _ (by have:=l.out.up j d;omega) (by have:=l.out.up j d;omega) (by have:=l.out.up j d;omega) (by have:=rK j d;omega)) (λj d=>by have:=rK j d;omega) om (by simpa[Hu l.out.ok hi] using dV.nil (by rw[gT _ om,St.az,if_pos om])) (λj=>rfl) (λj d=>by simp)
   ap:=λj d j' gY=>by
    by_cases e:j=i<;>by_cases e':j'=i
    ·simp only[if_pos e,if_pos e'];omega
    ·simp only[if_pos e,if_neg e'];have:=rK j' (by omega);omega
    ·simp only[if_neg e,if_pos e'];have:=rK j (by omega);omega
    ·simp only[if_neg e,if_neg e'];exact l.out.ap j om j' om
   up:=λj d=>by
    by_cases e:j=i
    ·simp only[if_pos e];omega
    ·simp only[if_neg e];have:=rK j (by omega);have:=l.out.up j (by omega);omega
   n3:=by omega
   dD:=(jO b om om om om).trans p }⟩
  obtain⟨F',H',R⟩:=R;have cQ:=Bx.mk l.out.ok;have CX:=R.dD;clear jO ri yo iw gQ gT nG qv Fo U6 gH p l rK Xv dS gK;clear s2 s3 s4 F H;repeat' (first | refine gN @CX ?_ | (refine gB @CX ?_;rintro (_|_) a<;>try simp only[aG,reduceCtorEq]at a<;>try first | (exfalso;omega) | exact a.elim) | fail)
  clear CX;refine aS (λm e s=>∃ k:Nat,m=n.set.length - k/\k<=n.set.length/\VJ s N t i n L b k k F' H'/\zV N (t.take i) n k/\e.at 0 = .int .i64 (N:Int)/\e.at 1=w/\e.at 5 = .aI 0/\e.at 6 = .aD 1 0 t.length 1/\e.at 7 = .aD 2 0 t.length 1/\e.at 21=w/\e.at 22 = .int .i64 (t.length:Int)/\e.at 23 = .int .i64 (i:Int)/\e.at 8 = .int .i64 (i:Int)/\e.at 9 = .aH b 0/\e.at 84=L/\e.at 85 = .int .i64 (n.set.length:Int)/\e.at 86 = .int .i64 (k:Int)) _
   ⟨0,rfl,by omega,R,zV.zero _ _ _,ef,ef,ef,ef,ef,ef,ef,ef,ef,ef,ef,ef,by simp only[lk,Nat.reduceEqDiff,if_false,if_true];rfl⟩ ?_
  clear r u A B v Y Z C D I R;clear e s5;rintro m e s ⟨k,rfl,hk,R,P,r,u,A,B,v,C,D,I,Y,Z,Zi,Zh,Zg⟩;by_cases fB:k<n.set.length
  ·have uB:(k:Int)<(n.set.length:Int):=by omega
   have yl:=bu uB;have fZ:=E.len;have fJ:IntKind.i64.wrap ((k:Int)+1)=((k+1:Nat):Int):=by rw[wrap_i64 _ om om];rfl
   have hx:n.set[k]? = some (n.set.getD k 0):=by rw[gD,gE fB];rfl
   have I9:=λh:Tr N t=>Sb (QX.out.1 h) hx;generalize n.set.getD k 0=x at *;have hy:0<k->n.set[k - 1]? = some (n.set.getD (k - 1) 0):=λh=>by rw[gD,gE om];rfl
   have YP:0<k->(ints n.set)[k - 1]? = some (.int .i64 (n.set.getD (k - 1) 0)):=λh=>bu om;generalize n.set.getD (k - 1) 0=y at *;have lR:=Bx.mk (And.intro hx hy);have Xw:=Bx.mk I9;have J:=Bx.mk R;have Y6:=Bx.mk P;have K:=R.dD;clear hx hy I9 R P;repeat' (first | refine gN (And.intro (@cw _ _ _ E.sl) @yl) ?_ | (refine gB (And.intro (@cw _ _ _ E.sl) @yl) ?_;intro g a;cases g<;>(try simp only[aG]at a)<;>(try first | omega | exact a.elim)) | fail)
   refine kj (λc VW=>VW=s/\(0<=x/\x<N)/\(0<k->y<x)/\c.at 0 = .int .i64 (N:Int)/\c.at 1=w/\c.at 5 = .aI 0/\c.at 6 = .aD 1 0 t.length 1/\c.at 7 = .aD 2 0 t.length 1/\c.at 21=w/\c.at 22 = .int .i64 (t.length:Int)/\c.at 23 = .int .i64 (i:Int)/\c.at 8 = .int .i64 (i:Int)/\c.at 9 = .aH b 0/\c.at 84=L/\c.at 85 = .int .i64 (n.set.length:Int)/\c.at 86 = .int .i64 (k:Int)/\c.at 10 = .int .i64 (k:Int)/\c.at 11 = .int .i64 x) ?_ ?_
   ·have O:Bx (¬ ((0<=x/\x<N)/\(0<k->y<x))->decide (Tr N t)=false):=⟨λX=>decide_eq_false λh=>X ⟨(Xw.out h).1,λuC=>(Xw.out h).2.1 uC y (lR.out.2 uC)⟩⟩;clear yl;rcases Nat.eq_zero_or_pos k with uC | uC
    ·clear YP;repeat' (first | refine gA trivial ?_ | (refine gB trivial ?_;intro g a;cases g<;>(try simp only[aG]at a)<;>(try first | omega | exact a.elim)) | apply aA | fail)
     all_goals first | (refine⟨.inr trivial,?_⟩;rw[O.out om];exact ef) | refine⟨trivial,by omega,by omega,ef,ef,ef,ef,ef,ef,ef,ef,ef,ef,ef,ef,ef,ef,ef⟩
    ·have YP:=YP uC;have hwk1:IntKind.i64.wrap ((k:Int) - 1)=((k - 1:Nat):Int):=by rw[wrap_i64 _ om om];omega
     have hk1I:((k - 1:Nat):Int)<(n.set.length:Int):=by omega
     repeat' (first | refine gA (And.intro @K (And.intro @hwk1 (And.intro (@cw _ _ _ E.sl) @YP))) ?_ | (refine gB (And.intro @K (And.intro @hwk1 (And.intro (@cw _ _ _ E.sl) @YP))) ?_;intro g a;cases g<;>(try simp only[aG]at a)<;>(try first | omega | exact a.elim)) | apply aA | fail)
     all_goals first | (refine⟨.inr trivial,?_⟩;rw[O.out om];exact ef) | refine⟨trivial,by omega,by omega,ef,ef,ef,ef,ef,ef,ef,ef,ef,ef,ef,ef,ef,ef,ef⟩
   clear r u A B v Y Z C D I Zi Zh Zg yl YP;clear e;rintro e s1 ⟨rfl,Wy,hxy,r,u,A,B,v,C,D,I,Y,Z,Zi,Zh,Zg,fX,nW⟩;have YB:(bw t.length (dG F' (i+1)))[i]? = some (.aI (F' i)):=by rw[cN o];simp[dG]
   have QF:=J.out.lJ;repeat' (first | refine gN (And.intro @cG (And.intro @QF @YB)) ?_ | (refine gB (And.intro @cG (And.intro @QF @YB)) ?_;rintro (_|_) a<;>try simp only[aG,reduceCtorEq]at a<;>try first | (exfalso;omega) | exact a.elim) | fail)
   have U4:=J.out.mf.ms i om;simp only[if_true]at U4;refine n7 U4 ef ef ef (λs2 jY sO oQ=>?_);have T:=J.out.Rw lR.out.1 jY sO oQ;have nH:0<k->∀ z,n.set[k - 1]? = some z->z<x:=λuC z hz=>by
    have:=lR.out.2 uC;rw[this]at hz;cases hz;exact hxy uC
   have hxk:x ∉ n.set.take k:=λhm=>by
    have:=Y6.out.lt lR.out.1 nH x hm;omega
   have hKS:=λh3=>zV.succ Y6.out lR.out.1 Wy nH h3;clear sO oQ jY U4 YB QF K J Y6;clear s1;have J:=Bx.mk T;have Y6:=Bx.mk hKS;have K:=T.dD;have QF:=T.lJ;have x9:=T.zS;clear T hKS;repeat' (first | refine gN @fJ ?_ | (refine gB @fJ ?_;intro g a;cases g<;>(try simp only[aG]at a)<;>(try first | omega | exact a.elim)) | fail)
   ·refine kj (λc VW=>VW=s2/\(x∈((t.take i).getD n.par.toNat default).set/\x ∉ below (t.take i) n.par)/\c.at 0 = .int .i64 (N:Int)/\c.at 1=w/\c.at 5 = .aI 0/\c.at 6 = .aD 1 0 t.length 1/\c.at 7 = .aD 2 0 t.length 1/\c.at 21=w/\c.at 22 = .int .i64 (t.length:Int)/\c.at 23 = .int .i64 (i:Int)/\c.at 8 = .int .i64 (i:Int)/\c.at 9 = .aH b 0/\c.at 84=L/\c.at 85 = .int .i64 (n.set.length:Int)/\c.at 86 = .int .i64 (k:Int)/\c.at 10 = .int .i64 (k:Int)/\c.at 11 = .int .i64 x) ?_ ?_
    ·have O:Bx (¬ (x∈((t.take i).getD n.par.toNat default).set/\x ∉ below (t.take i) n.par)->decide (Tr N t)=false):=⟨λX=>decide_eq_false λh=>X ((Xw.out h).2.2 om)⟩;obtain⟨q,hq⟩:∃ q:Nat,n.par=(q:Int):=⟨n.par.toNat,by omega⟩;have YE:q<i:=by omega
     have YF:(q:Int)<(t.length:Int):=by omega
     have x8:(bw t.length (dG F' (i+1)))[q]? = some (.aI (F' q)):=by rw[cN om];simp[dG,show q<i+1 by omega]
     have KE:(bw t.length (dG H' (i+1)))[q]? = some (.aI (H' q)):=by rw[cN om];simp[dG,show q<i+1 by omega]
     have YI:=J.out.mf.ms q om;have Tb:=J.out.mh.ms q om;rw[if_neg om]at YI;rw[if_pos hq]at Tb;rw[hq]at K;have gL:(t.take i).getD q default=t.getD q default:=getD_take YE;rw[hq,Int.toNat_natCast,gL]at O;repeat' (first | refine gA (And.intro @K (And.intro @cG (And.intro @QF @x8))) ?_ | (refine gB (And.intro @K (And.intro @cG (And.intro @QF @x8))) ?_;rintro (_|_) a<;>try simp only[aG,reduceCtorEq]at a<;>try first | (exfalso;omega) | exact a.elim) | apply aA | fail)
     refine kR YI wN ef ef (λb1 p=>?_);cases b1
     ·have gH:=of_decide_eq_false p;repeat' (first | refine gA trivial ?_ | (refine gB trivial ?_;rintro (_|_) a<;>try simp only[aG,reduceCtorEq]at a<;>try first | (exfalso;omega) | exact a.elim) | apply aA | fail)
      refine⟨.inr trivial,?_⟩;rw[O.out λh=>gH h.1];exact ef
     ·have gH:=of_decide_eq_true p;repeat' (first | refine gA (And.intro @K (And.intro @cG (And.intro @x9 @KE))) ?_ | (refine gB (And.intro @K (And.intro @cG (And.intro @x9 @KE))) ?_;rintro (_|_) a<;>try simp only[aG,reduceCtorEq]at a<;>try first | (exfalso;omega) | exact a.elim) | apply aA | fail)
      refine kR Tb (wG ef) ef ef (λb2 kT=>?_);cases b2
      ·have jY:=of_decide_eq_false kT;repeat' (first | refine gA trivial ?_ | (refine gB trivial ?_;rintro (_|_) a<;>try simp only[aG,reduceCtorEq]at a<;>try first | (exfalso;omega) | exact a.elim) | apply aA | fail)
       refine⟨trivial,⟨?_,?_⟩,ef,ef,ef,ef,ef,ef,ef,ef,ef,ef,ef,ef,ef,ef,ef⟩
       ·rw[hq,Int.toNat_natCast,gL];exact gH
       ·rw[hq];exact λh=>jY (List.mem_append_left _ h)
      ·have jY:=of_decide_eq_true kT;repeat' (first | refine gA trivial ?_ | (refine gB trivial ?_;rintro (_|_) a<;>try simp only[aG,reduceCtorEq]at a<;>try first | (exfalso;omega) | exact a.elim) | apply aA | fail)
       refine⟨.inr trivial,?_⟩;rw[O.out λh=>h.2 ((List.mem_append.1 jY).resolve_right hxk)];exact ef
    ·clear r u A B v Y Z C D I Zi Zh Zg fX nW;clear e;rintro e s1 ⟨rfl,jZ,r,u,A,B,v,C,D,I,Y,Z,Zi,Zh,Zg,fX,nW⟩;obtain⟨q,hq⟩:∃ q:Nat,n.par=(q:Int):=⟨n.par.toNat,by omega⟩;have YE:q<i:=by omega
     have YF:(q:Int)<(t.length:Int):=by omega
     have KE:(bw t.length (dG H' (i+1)))[q]? = some (.aI (H' q)):=by rw[cN om];simp[dG,show q<i+1 by omega]
     have Tb:=J.out.mh.ms q om;rw[if_pos hq]at Tb;rw[hq]at K;clear hxk;have Te:=Bx.mk jZ;clear jZ;repeat' (first | refine gA (And.intro @K (And.intro @cG (And.intro @x9 @KE))) ?_ | (refine gB (And.intro @K (And.intro @cG (And.intro @x9 @KE))) ?_;rintro (_|_) a<;>try simp only[aG,reduceCtorEq]at a<;>try first | (exfalso;omega) | exact a.elim) | apply aA | fail)
     refine n7 Tb ef ef ef (λs3 nG U6 iw=>?_);have hJ3:=J.out.Qj hq YE lR.out.1 nG U6 iw;clear U6 iw nG Tb KE K J QF x9;clear s1;have J:=Bx.mk hJ3;clear hJ3;repeat' (first | refine gA @fJ ?_ | (refine gB @fJ ?_;rintro (_|_) a<;>try simp only[aG,reduceCtorEq]at a<;>try first | (exfalso;omega) | exact a.elim) | apply aA | fail)
     refine⟨n.set.length - (k+1),by omega,k+1,rfl,by omega,J.out,Y6.out (λ_=>Te.out),?_⟩;simp only[lk,Nat.reduceEqDiff,if_false,if_true,fJ,r,u,A,B,v,Y,Z,C,D,I,Zi,Zh,Zg,and_self]
   ·refine⟨n.set.length - (k+1),by omega,k+1,rfl,by omega,J.out.root om,Y6.out (λh=>absurd h om),?_⟩;simp only[lk,Nat.reduceEqDiff,if_false,if_true,fJ,r,u,A,B,v,Y,Z,C,D,I,Zi,Zh,Zg,and_self]
  ·have lU:k=n.set.length:=by omega
   subst lU;obtain⟨QY,hT2,hT3,rfl⟩:=QX.out;have jX:IntKind.i64.wrap ((i:Int)+1)=((i+1:Nat):Int):=by rw[wrap_i64 _ om om];rfl
   have vP:=R.done o (by
    rw[take_one t default o];have E:=P;refine cQ.out.snoc ⟨λh=>?_,λh=>?_,hnB.out.1,hnB.out.2,?_,?_,?_⟩
    ·omega
    ·rw[tR];omega
    ·have:=P.jd;rwa[List.take_length]at this
    ·have:=P.inc;rwa[List.take_length]at this
    ·have:=P.sub;rwa[List.take_length]at this)
   clear R P QX hnB cQ QY hT2 hT3;have l:=Bx.mk vP;clear vP;repeat' (first | refine gA @jX ?_ | (refine gB @jX ?_;intro g a;cases g<;>(try simp only[aG]at a)<;>(try first | omega | exact a.elim)) | apply aA | fail)
   refine⟨t.length - (i+1),by omega,i+1,F',H',rfl,by omega,l.out,?_⟩;simp only[lk,Nat.reduceEqDiff,if_false,if_true,jX,r,u,A,B,v,C,D,and_self]
 ·have dc:i=t.length:=by omega
  subst dc;clear o;have l:=Bx.mk G;clear G;repeat' (first | refine gA @U ?_ | (refine gB @U ?_;intro g a;cases g<;>(try simp only[aG]at a)<;>(try first | omega | exact a.elim)) | apply aA | fail)
  refine aS (λm e s=>∃ k:Nat,m=t.length - k/\k<=t.length/\VS s N t t.length F H/\(∀ j,j<k->(below t (j:Int)).length≠(t.getD j default).set.length)/\e.at 7 = .aD 2 0 t.length 1/\e.at 144=w/\e.at 145 = .int .i64 (t.length:Int)/\e.at 146 = .int .i64 (k:Int)) _
   ⟨0,rfl,by omega,l.out,λj d=>absurd d om,ef,ef,ef,by simp only[lk,Nat.reduceEqDiff,if_false,if_true];rfl⟩ ?_
  clear r u A B v C D I l a hi;clear e s;rintro m e s ⟨i,rfl,hi,G,P,v,e144,e145,e146⟩;by_cases o:i<t.length
  ·have tP:(i:Int)<(t.length:Int):=by omega
   have dS:=λs=>Q.get o s;have gK:=Q.nd i o;have E:=gK.set;have hsetl:=E.sl.len;have tK:=E.sl.cell;have jX:IntKind.i64.wrap ((i:Int)+1)=((i+1:Nat):Int):=by rw[wrap_i64 _ om om];rfl
   have V:=λh:Tr N t=>h.2 i o;generalize W8:t.getD i default=n at *;generalize (rs.getD i default).2.2=L at *;have YB:(bw t.length (dG H t.length))[i]? = some (.aI (H i)):=by rw[cN o];simp[dG,o]
   have vP:=G.mono (s':=(s.new (.cells .mut [.int .i64 0, .int .i64 0, .aj])).put s.n (.cells .mut [.int .i64 n.name, .int .i64 n.par,L])) (by simp) λid aO=>by rw[St.ah,if_neg om,St.az,if_neg om]
   have nU:((s.new (.cells .mut [.int .i64 0, .int .i64 0, .aj])).put s.n (.cells .mut [.int .i64 n.name, .int .i64 n.par,L])).get s.n=some (.cells .mut [.int .i64 n.name, .int .i64 n.par,L]):=by rw[St.ah,if_pos rfl]
   have QX:=Bx.mk (And.intro V (And.intro P W8));clear V P W8 E;repeat' (first | refine gN (And.intro (@cw _ _ _ Q.sl) @dS) ?_ | (refine gB (And.intro (@cw _ _ _ Q.sl) @dS) ?_;intro g a;cases g<;>(try simp only[aG]at a)<;>(try first | omega | exact a.elim)) | fail)
   generalize (s.new (.cells .mut [.int .i64 0, .int .i64 0, .aj])).put s.n (.cells .mut [.int .i64 n.name, .int .i64 n.par,L])=s1 at *;generalize s.n=b at *;have qw:=vP.zS;have Tb:=vP.mh.ms i o;simp only[List.take_length]at Tb;have W7:(below t (i:Int)).Nodup:=by
    have:=vP.ok;rw[List.take_length]at this;exact this.nodup _ om
   have l:=Bx.mk vP;clear vP G;repeat' (first | refine gA (And.intro @cG (And.intro @qw @YB)) ?_ | (refine gB (And.intro @cG (And.intro @qw @YB)) ?_;rintro (_|_) a<;>try simp only[aG,reduceCtorEq]at a<;>try first | (exfalso;omega) | exact a.elim) | apply aA | fail)
   refine tc Tb W7 wN ef ?_;repeat' (first | refine gA (And.intro @nU @jX) ?_ | (refine gB (And.intro @nU @jX) ?_;intro g a;cases g<;>(try simp only[aG]at a)<;>(try first | omega | exact a.elim)) | apply aA | fail)
   ·refine⟨t.length - (i+1),by omega,i+1,rfl,by omega,l.out,λj d=>?_,?_⟩
    ·by_cases e:j=i
     ·subst e;rw[QX.out.2.2];omega
     ·exact QX.out.2.1 j om
    ·simp only[lk,Nat.reduceEqDiff,if_false,if_true,jX,v,e144,e145,and_self]
   ·refine⟨.inr trivial,?_⟩;rw[decide_eq_false λh=>QX.out.1 h om];exact ef
  ·have dc:i=t.length:=by omega
   subst dc;have cQ:=G.ok;rw[List.take_length]at cQ;have hT:Bx (decide (Tr N t)=true):=⟨decide_eq_true ⟨cQ,P⟩⟩;clear G P cQ;repeat' (first | refine gA trivial ?_ | (refine gB trivial ?_;intro g a;cases g<;>(try simp only[aG]at a)<;>(try first | omega | exact a.elim)) | apply aA | fail)
   refine⟨.inr trivial,?_⟩;rw[hT.out];exact ef
abbrev GR:=Gn × LV × Nat
def grow (r:GR):List LV:=[.int .i64 r.1.name, .int .i64 r.1.par,r.2.1, .aI r.2.2, .bool r.1.old, .bool r.1.bX, .bool r.1.gone]
theorem bS (r:GR):(grow r).length=7:=rfl
theorem oE (r:GR) (h:aV r.2.1=true):cells? (.agg (grow r))=some (grow r):=by
 have:(grow r).all aV=true:=by simp only[grow,List.all_cons,List.all_nil,Bool.and_true,h];rfl
 simp only[cells?,this,if_true]
theorem yO (a b:Int) {v:LV}(h:aV v=true):cells? (.agg [.int .i64 a, .int .i64 b,v])=some [.int .i64 a, .int .i64 b,v]:=by
 have:[LV.int .i64 a, .int .i64 b,v].all aV=true:=by simp only[List.all_cons,List.all_nil,Bool.and_true,h];rfl
 simp only[cells?,this,if_true]
theorem yP (M:Nat):cells? (.aI M)=some [.aI M]:=rfl
theorem jj (k:IntKind) (b:Int):cells? (.int k b)=some [.int k b]:=rfl
theorem uI {s:St}{v:LV}{aU n M:Nat}{cells:List LV}{K:List Int}(h:Sg s v aU cells n) (hm:dV s M K):¬ aP v M:=by
 intro a;obtain⟨_,⟨rfl,_⟩ | ⟨j,r,rfl,_,h2⟩⟩:=h
 ·exact bq M a
 ·have:=aC.1 a;subst this;obtain⟨E,h3,_⟩:=hm;rw[h2]at h3;cases h3
structure GS (s:St) (lo:Nat) (v:LV) (R:List GR):Prop where
  sg:Sg s v 7 (eG grow R) R.length
  lJ:∀ r∈R,aM r.2.1 r.1.set
  mp:wF s R.length (λi=>(R.getD i default).2.2) (λi=>(R.getD i default).1.kept)
  low:(∀ id,aP v id->lo<=id)/\∀ r∈R,lo<=r.2.2
theorem GS.nil (s:St) (lo:Nat):GS s lo .aj []:=⟨Sg.nil s 7,λr h=>absurd h (by simp),wF.zero _ _ _,λid h=>absurd h (bq id),λr h=>absurd h (by simp)⟩
theorem GS.mono {s s':St}{lo:Nat}{v:LV}{R:List GR}(h:GS s lo v R) (a:s.n<=s'.n) (b:∀ id,id<s.n->s'.get id=s.get id):GS s' lo v R:=
 ⟨h.sg.mono a λid c=>b id (h.sg.lt c),h.lJ,h.mp.keep a λj d=>b _ (h.mp.lt j d),h.low⟩
theorem GS.Bi {s:St}{lo:Nat}{v:LV}{R:List GR}(h:GS s lo v R):∀ r∈R,r.2.2<s.n:=λr b=>by
 obtain⟨i,a,rfl⟩:=List.getElem_of_mem b;have:=h.mp.lt i a;simpa[gD,a] using this
theorem GS.snoc {s s':St}{lo:Nat}{v:LV}{R:List GR}(h:GS s lo v R) {g:Gn}{c:LV}{M:Nat}(hm:dV s M g.kept) (l:∀ r∈R,r.2.2<M) (hl:lo<=M/\M<s.n) (m:aM c g.set) {j:Nat}(t:s.n<=j) (o:Sg s' (.aD j 0 (R.length+1) 7) 7 (eG grow R++grow (g,c,M)) (R.length+1)) (p:s.n<=s'.n) (d:∀ id,id<s.n->¬ aP v id->s'.get id=s.get id):GS s' lo (.aD j 0 (R.length+1) 7) (R++[(g,c,M)]):=by
 have f:∀ i,i<R.length->(R++[(g,c,M)]).getD i default=R.getD i default:=λi b=>by simp[gD,List.getElem?_append_left b]
 have k:(R++[(g,c,M)]).getD R.length default=(g,c,M):=by simp[gD]
 refine⟨by rw[List.length_append,List.length_singleton,kV,wI];exact o,λr a=>?_,?_,λid q=>by have:=aC.1 q;omega,λr a=>?_⟩
 ·rcases List.mem_append.1 a with a | a
  ·exact h.lJ r a
  ·rw[List.mem_singleton.1 a];exact m
 ·rw[List.length_append,List.length_singleton];refine h.mp.snoc (M:=M) p (λi b=>d _ (h.mp.lt i b) (uI h.sg (h.mp.ms i b))) (λi b=>?_) om (by simp only[k];exact hm.keep (d _ hl.2 (uI h.sg hm))) (λi=>?_) (λi b=>by simp only[f i b])
  ·have:=l (R.getD i default) (by rw[gD,gE b];simp);omega
  ·by_cases e:i=R.length
   ·subst e;simp only[k,if_true]
   ·rw[if_neg e];by_cases b:i<R.length
    ·simp only[f i b]
    ·have h1:(R++[(g,c,M)]).getD i default=default:=by rw[gD,List.getElem?_eq_none (by rw[List.length_append,List.length_singleton];omega)];rfl
     have h2:R.getD i default=default:=by rw[gD,List.getElem?_eq_none om];rfl
     simp only[h1,h2]
 ·rcases List.mem_append.1 a with a | a
  ·exact h.low.2 r a
  ·rw[List.mem_singleton.1 a];exact hl.1
theorem DR {α a:Type}(f:Nat->α->a) (l:List α) (x:α):(l++[x]).mapIdx f=l.mapIdx f++[f l.length x]:=by simp[List.mapIdx_append]
def Qr (N:Nat) (t:List Nd):Prop:=∀ n∈t,∀ x∈n.set,0<=x/\x<(N:Int)
theorem Px {bv:LV}{B:Bu}{O P T:LV}(hB:zW bv B O P) {t:List Nd}{rs:List (Int × Int × LV)}(i:uw T t rs) {a:Nat}(G:Qr B.next.length t) (bV:∀ q,q<B.next.length->a<(B.next.getD q []).length) (q8:∀ q,(iV B q a).length<=1000000)
 (WH:∀ q,q<B.next.length->∀ m∈iV B q a,0<=m.1/\m.1<B.next.length) (s:St) :
 aJ Try.prog GL (.fn (.func 62) [] []) [bv,T, .int .i64 (a:Int)] s (λr s'=>∃ R,GS s' s.n r R/\R.map (·.1)=grown B.next.length (λq=>iV B q a) t/\s.n<=s'.n/\∀ id,id<s.n->s'.get id=s.get id):=by
 have cx:=hB.closed;have yb:=λ(JD:LV) (set:List Int) (h1:aM JD set) (h2:∀ x∈set,0<=x/\x<B.next.length) (p:Int × Bool->Bool) (fv:LV) hp s=>F3 hB h1 (a:=a) (p:=p) (fv:=fv) h2 bV q8 hp s;obtain⟨rfl,hs,hn⟩:=hB;have uz:=hn.closed;have vK:=hs.closed;have SP:=i.closed;obtain⟨vs,iE⟩:=hn;have zG:=hs.sl.cell;have zI:=iE.sl.cell;have lT:=i.sl.len;have KT:=i.lim;have H:∀ (set:List Int) (p:Int × Bool->Bool),(∀ x∈set,0<=x/\x<(B.next.length:Int))->∀ k,k∈CN (λq=>iV B q a) set p↔k∈canon B.next.length (CN (λq=>iV B q a) set p):=λset p y k=>by
  rw[gf];refine⟨λh=>⟨h,?_⟩,λh=>h.1⟩;unfold CN at h;obtain⟨x,hx,h⟩:=List.mem_flatMap.1 h;obtain⟨m,hm,rfl⟩:=List.mem_map.1 h;have:=y x hx;exact WH x.toNat om m (List.mem_filter.1 hm).1
 refine bL (first:=[]) (caps:=[]) Try.func62 (by decide +kernel) c62 (Nat.le_of_ble_eq_true rfl) (aQ.mono (Q:=λo e s'=>(o = .normal∨o = .jmp .ret)/\∃ R,GS s' s.n (e.at 6) R/\R.map (·.1)=grown B.next.length (λq=>iV B q a) t/\s.n<=s'.n/\∀ id,id<s.n->s'.get id=s.get id) ?_ λo e s' U=>by
  obtain⟨h1,h2⟩:=U;exact⟨h1,_,by simp[l62,br,bO],h2⟩)
 refine Cd.out (ev3 λe e0 e1 N=>?_);unfold l62;dsimp only[jA,jG,qN,qF,qS,qI,qA,qB,qC,qO,qm,ql];repeat' (first | refine gN @lT ?_ | (refine gB @lT ?_;rintro (_|_) b<;>try simp only[aG,reduceCtorEq]at b<;>try first | (exfalso;omega) | exact b.elim) | fail)
 refine aS (λm e c=>∃ (k:Nat) (v:LV) (R:List GR),m=t.length - k/\k<=t.length/\s.n<=c.n/\GS c s.n v R/\R.map (·.1)=(t.take k).map (tU B.next.length λq=>iV B q a)/\(∀ id,id<s.n->c.get id=s.get id)/\e.at 1=T/\e.at 2 = .int .i64 (a:Int)/\e.at 3 = .aX [.int .i64 B.L,O,P] 0/\e.at 7=v/\e.at 14=T/\e.at 15 = .int .i64 (t.length:Int)/\e.at 16 = .int .i64 (k:Int)) _
  ⟨0, .aj,[],rfl,by omega,by omega,GS.nil _ _,by simp,λid z=>rfl,ef,ef,ef,ef,ef,ef,by simp only[lk,Nat.reduceEqDiff,if_false,if_true];rfl⟩ ?_
 clear e0 e1 N;clear e;rintro m e c ⟨k,v,R,rfl,hk,gH,l,u,ho,e1,N,e3,e7,TV,VA,Mc⟩;by_cases A:k<t.length
 ·have uB:(k:Int)<(t.length:Int):=by omega
  have I:IntKind.i64.wrap ((k:Int)+1)=((k+1:Nat):Int):=by rw[wrap_i64 _ om om];rfl
  have V:=λs=>i.get A s;have gK:=i.nd k A;have X:=take_one t default A;have Y:t.getD k default∈t:=by rw[gD,gE A];simp
  have y:=gK.set;have tK:=y.sl.cell;generalize t.getD k default=n at *;generalize (rs.getD k default).2.2=xv at *;have Z:=λs=>yb xv n.set y (G n Y) (λ_=>true) _ XS s;have d:=Bx.mk (And.intro l (And.intro u (And.intro ho X)));have C:((c.new (.cells .mut [.int .i64 0, .int .i64 0, .aj])).put c.n (.cells .mut [.int .i64 n.name, .int .i64 n.par,xv])).get c.n=some (.cells .mut [.int .i64 n.name, .int .i64 n.par,xv]):=by rw[St.ah,if_pos rfl]
  have Pp:=l.mono (s':=(c.new (.cells .mut [.int .i64 0, .int .i64 0, .aj])).put c.n (.cells .mut [.int .i64 n.name, .int .i64 n.par,xv])) (by simp) λid z=>by rw[St.ah,if_neg om,St.az,if_neg om]
  have eY:∀ id,id<s.n->((c.new (.cells .mut [.int .i64 0, .int .i64 0, .aj])).put c.n (.cells .mut [.int .i64 n.name, .int .i64 n.par,xv])).get id=s.get id:=λid z=>by rw[St.ah,if_neg om,St.az,if_neg om];exact ho id z
  have jY:((c.new (.cells .mut [.int .i64 0, .int .i64 0, .aj])).put c.n (.cells .mut [.int .i64 n.name, .int .i64 n.par,xv])).n=c.n+1:=rfl;have D:=Bx.mk (And.intro Pp eY);clear l u ho X Pp eY;repeat' (first | refine gN (And.intro (@cw _ _ _ i.sl) @V) ?_ | (refine gB (And.intro (@cw _ _ _ i.sl) @V) ?_;intro J b;cases J<;>(try simp only[aG]at b)<;>(try first | omega | exact b.elim)) | fail)
  generalize (c.new (.cells .mut [.int .i64 0, .int .i64 0, .aj])).put c.n (.cells .mut [.int .i64 n.name, .int .i64 n.par,xv])=s2 at *;repeat' (first | refine gN @C ?_ | (refine gB @C ?_;rintro (_|_) b<;>try simp only[aG,reduceCtorEq]at b<;>try first | (exfalso;omega) | exact b.elim) | fail)
  refine bH wN (fv:=.fn (.func 73) [] []) (vs:=[.agg [.int .i64 B.L,O,P],xv, .int .i64 (a:Int), .fn (.func 74) [] []]) ef (by simp only[List.map,lk,Nat.reduceEqDiff,if_false,if_true,List.map]) (aJ.mono (Z _) λr s3 U=>⟨trivial,?_⟩);obtain⟨M,rfl,hM1,Vx,Vw,E⟩:=U;simp only[Env.au];have F:=(E _ om).trans C;have K:=D.out.1.mono om E;have w:=Vw.mem (H n.set (λ_=>true) (G n Y));have cm:∀ r∈R,r.2.2<M:=λr G=>by have:=D.out.1.Bi r G;omega
  have QG:=K.sg;have G5:R.length<=3000:=by
   have:=congrArg List.length d.out.2.1;simp only[List.length_map,List.length_take]at this;omega
  have f:=Bx.mk (And.intro K (And.intro w (And.intro cm y)));clear Z Vw K w cm y;repeat' (first | refine gN @F ?_ | (refine gB @F ?_;rintro (_|_) b<;>try simp only[aG,reduceCtorEq]at b<;>try first | (exfalso;omega) | exact b.elim) | fail)
  refine iF (vs:=grow (tU B.next.length (λq=>iV B q a) n,xv,M)) wN (by simp[bB,UD,Nat.reduceEqDiff,Nat.reduceAdd,Nat.reduceLeDiff,reduceIte,List.map,aW,yO _ _ tK,splice,grow,tU]) ?_;refine uJ (n:=R.length) (aU:=7) (xv:=.agg (grow (tU B.next.length (λq=>iV B q a) n,xv,M))) (yv:=v) (vs:=grow (tU B.next.length (λq=>iV B q a) n,xv,M)) (cells:=eG grow R) ef (oE _ tK) rfl rfl (qi.aI (M:=M) (by simp[grow])) ef QG (by decide) om (λs4 j a1 a2 a3 a4 a5 a6=>?_);have TB:=f.out.1.snoc (g:=tU B.next.length (λq=>iV B q a) n) f.out.2.1 f.out.2.2.1 ⟨by omega,Vx⟩ f.out.2.2.2 a1 a4 a5 a6;have gT:∀ id,id<s.n->s4.get id=s.get id:=λid z=>by
   rw[a6 id om λhu=>by have:=f.out.1.low.1 id hu;omega,E id om];exact D.out.2 id z
  have fh:=Bx.mk (And.intro TB gT);clear TB gT a3 a4 a6 f D QG F C E;repeat' (first | refine gN @I ?_ | (refine gB @I ?_;rintro (_|_) b<;>try simp only[aG,reduceCtorEq]at b<;>try first | (exfalso;omega) | exact b.elim) | fail)
  refine⟨t.length - (k+1),by omega,k+1,_,_,rfl,by omega,by omega,fh.out.1,?_,fh.out.2,?_⟩
  ·rw[List.map_append,d.out.2.1,d.out.2.2.2,List.map_append];rfl
  ·simp only[lk,Nat.reduceEqDiff,if_false,if_true,I,e1,N,e3,TV,VA,and_self]
 ·have lU:k=t.length:=by omega
  subst lU;rw[List.take_length]at u;have d:=Bx.mk (And.intro l (And.intro u ho));clear l u ho;repeat' (first | refine gN @lT ?_ | (refine gB @lT ?_;intro J b;cases J<;>(try simp only[aG]at b)<;>(try first | omega | exact b.elim)) | fail)
  refine aS (λm e s2=>∃ (k:Nat) (v:LV) (R:List GR),m=t.length - k/\k<=t.length/\s.n<=s2.n/\GS s2 s.n v R/\R.map (·.1)=t.map (tU B.next.length λq=>iV B q a)++(t.take k).mapIdx (oT B.next.length λq=>iV B q a)/\(∀ id,id<s.n->s2.get id=s.get id)/\e.at 2 = .int .i64 (a:Int)/\e.at 3 = .aX [.int .i64 B.L,O,P] 0/\e.at 7=v/\e.at 32=T/\e.at 33 = .int .i64 (t.length:Int)/\e.at 34 = .int .i64 (k:Int)) _
   ⟨0,v,R,rfl,by omega,gH,d.out.1,by rw[d.out.2.1];simp,d.out.2.2,ef,ef,ef,ef,ef,by simp only[lk,Nat.reduceEqDiff,if_false,if_true];rfl⟩ ?_
  clear e1 N e3 e7 TV VA Mc d gH A b;clear e c v R;rintro m e c ⟨k,v,R,rfl,hk,gH,l,u,ho,N,e3,e7,Mb,Ma,e34⟩;by_cases A:k<t.length
  ·have uB:(k:Int)<(t.length:Int):=by omega
   have I:IntKind.i64.wrap ((k:Int)+1)=((k+1:Nat):Int):=by rw[wrap_i64 _ om om];rfl
   have V:=λs=>i.get A s;have gK:=i.nd k A;have X:=take_one t default A;have Y:t.getD k default∈t:=by rw[gD,gE A];simp
   have y:=gK.set;have tK:=y.sl.cell;generalize t.getD k default=n at *;generalize (rs.getD k default).2.2=xv at *;have Z:=λs=>yb xv n.set y (G n Y) (λm=>m.2) _ XR s;have d:=Bx.mk (And.intro l (And.intro u (And.intro ho X)));have C:((c.new (.cells .mut [.int .i64 0, .int .i64 0, .aj])).put c.n (.cells .mut [.int .i64 n.name, .int .i64 n.par,xv])).get c.n=some (.cells .mut [.int .i64 n.name, .int .i64 n.par,xv]):=by rw[St.ah,if_pos rfl]
   have Pp:=l.mono (s':=(c.new (.cells .mut [.int .i64 0, .int .i64 0, .aj])).put c.n (.cells .mut [.int .i64 n.name, .int .i64 n.par,xv])) (by simp) λid z=>by rw[St.ah,if_neg om,St.az,if_neg om]
   have eY:∀ id,id<s.n->((c.new (.cells .mut [.int .i64 0, .int .i64 0, .aj])).put c.n (.cells .mut [.int .i64 n.name, .int .i64 n.par,xv])).get id=s.get id:=λid z=>by rw[St.ah,if_neg om,St.az,if_neg om];exact ho id z
   have jY:((c.new (.cells .mut [.int .i64 0, .int .i64 0, .aj])).put c.n (.cells .mut [.int .i64 n.name, .int .i64 n.par,xv])).n=c.n+1:=rfl;have D:=Bx.mk (And.intro Pp eY);clear l u ho X Pp eY;repeat' (first | refine gN (And.intro (@cw _ _ _ i.sl) @V) ?_ | (refine gB (And.intro (@cw _ _ _ i.sl) @V) ?_;intro J b;cases J<;>(try simp only[aG]at b)<;>(try first | omega | exact b.elim)) | fail)
   generalize (c.new (.cells .mut [.int .i64 0, .int .i64 0, .aj])).put c.n (.cells .mut [.int .i64 n.name, .int .i64 n.par,xv])=s2 at *;repeat' (first | refine gN @C ?_ | (refine gB @C ?_;rintro (_|_) b<;>try simp only[aG,reduceCtorEq]at b<;>try first | (exfalso;omega) | exact b.elim) | fail)
   refine bH wN (fv:=.fn (.func 73) [] []) (vs:=[.agg [.int .i64 B.L,O,P],xv, .int .i64 (a:Int), .fn (.func 75) [] []]) ef (by simp only[List.map,lk,Nat.reduceEqDiff,if_false,if_true,List.map]) (aJ.mono (Z _) λr s3 U=>⟨trivial,?_⟩);obtain⟨M,rfl,hM1,Vx,Vw,E⟩:=U;simp only[Env.au];have F:=(E _ om).trans C;have K:=D.out.1.mono om E;have w:=Vw.mem (H n.set (λm=>m.2) (G n Y));have cm:∀ r∈R,r.2.2<M:=λr G=>by have:=D.out.1.Bi r G;omega
   have QG:=K.sg;have G5:R.length<=6000:=by
    have:=congrArg List.length d.out.2.1;simp only[List.length_map,List.length_append,List.length_mapIdx,List.length_take]at this;omega
   have f:=Bx.mk (And.intro K (And.intro w cm));clear Z Vw K w cm y;repeat' (first | refine gN @F ?_ | (refine gB @F ?_;rintro (_|_) b<;>try simp only[aG,reduceCtorEq]at b<;>try first | (exfalso;omega) | exact b.elim) | fail)
   refine iF (vs:=[.int .i64 0, .int .i64 (k:Int), .aj]) wN (by simp[bB,UD,Nat.reduceAdd,Nat.reduceLeDiff,reduceIte,List.map,aW,splice]) ?_;repeat' (first | refine gN @F ?_ | (refine gB @F ?_;rintro (_|_) b<;>try simp only[aG,reduceCtorEq]at b<;>try first | (exfalso;omega) | exact b.elim) | fail)
   refine iF (vs:=grow (oT B.next.length (λq=>iV B q a) k n, .aj,M)) wN (by simp[bB,UD,Nat.reduceEqDiff,Nat.reduceAdd,Nat.reduceLeDiff,reduceIte,List.map,aW,yO (v:=.aj) _ _ rfl,splice,grow,oT]) ?_;refine uJ (n:=R.length) (aU:=7) (xv:=.agg (grow (oT B.next.length (λq=>iV B q a) k n, .aj,M))) (yv:=v) (vs:=grow (oT B.next.length (λq=>iV B q a) k n, .aj,M)) (cells:=eG grow R) ef (oE _ rfl) rfl rfl (qi.aI (M:=M) (by simp[grow])) ef QG (by decide) om (λs4 j a1 a2 a3 a4 a5 a6=>?_);have Cc:aM .aj (oT B.next.length (λq=>iV B q a) k n).set:=⟨.nil,by simp[oT],λx hx=>by simp[oT]at hx⟩;have TB:=f.out.1.snoc (g:=oT B.next.length (λq=>iV B q a) k n) f.out.2.1 f.out.2.2 ⟨by omega,Vx⟩ Cc a1 a4 a5 a6;have gT:∀ id,id<s.n->s4.get id=s.get id:=λid z=>by
    rw[a6 id om λhu=>by have:=f.out.1.low.1 id hu;omega,E id om];exact D.out.2 id z
   have fh:=Bx.mk (And.intro TB gT);clear TB gT a3 a4 a6 f D QG F C E Cc;repeat' (first | refine gN @I ?_ | (refine gB @I ?_;rintro (_|_) b<;>try simp only[aG,reduceCtorEq]at b<;>try first | (exfalso;omega) | exact b.elim) | fail)
   refine⟨t.length - (k+1),by omega,k+1,_,_,rfl,by omega,by omega,fh.out.1,?_,fh.out.2,?_⟩
   ·have tR:(t.take k).length=k:=by rw[List.length_take];omega
    rw[List.map_append,d.out.2.1,d.out.2.2.2,DR,tR,List.append_assoc];rfl
   ·simp only[lk,Nat.reduceEqDiff,if_false,if_true,I,N,e3,Mb,Ma,and_self]
  ·have lU:k=t.length:=by omega
   subst lU;rw[List.take_length]at u;have d:=Bx.mk (And.intro l (And.intro u ho));clear l u ho;repeat' (first | refine gN trivial ?_ | (refine gB trivial ?_;intro J b;cases J<;>(try simp only[aG]at b)<;>(try first | omega | exact b.elim)) | fail)
   refine⟨.inr trivial,R,?_,d.out.2.1,gH,d.out.2.2⟩;simp only[lk,Nat.reduceEqDiff,if_false,if_true];exact d.out.1
theorem FG {m n:LV}{B:Bu}{r s:LV}(hB:zW m B r s) {t:List Nd}{rs:List (Int × Int × LV)}(i:uw n t rs):PO 61 [m,n] (.bool (decide (Vb B/\t.length<=B.next.length/\Tr B.next.length t))):=by
 have u:=hB.closed;have v:=i.closed;have d:=nN hB;obtain⟨rfl,hs,o⟩:=hB;have x:=hs.closed;have y:=o.closed;obtain⟨vs,p⟩:=o;have b:=p.sl.len;have z:=hs.sl.cell;have A:=p.sl.cell;have c:=i.sl.len;refine lK (t:=4) hm Try.func61 (by decide +kernel) c61 (Nat.le_of_ble_eq_true rfl) (by simp[LV.closed.aq,u,v]) rfl rfl ?_;refine pF λe j k=>?_;unfold l61;dsimp only[jA,jD,qM,qL,qN,qF,qS,qK,qO,qG,qm];by_cases f:Vb B
 ·have l:=f.2.2.1;have q:=Js i l;rw[decide_eq_true f]at d;by_cases hl:t.length<=B.next.length
  ·have g:decide (Vb B/\t.length<=B.next.length/\Tr B.next.length t)=decide (Tr B.next.length t):=by simp[f,hl]
   rw[g];generalize Tr B.next.length t=w at *;generalize decide w=h at *;clear g f;repeat' (first | refine gA (And.intro @c @b) ?_ | (refine gB (And.intro @c @b) ?_;rintro (_|_) a<;>try simp only[aG,reduceCtorEq]at a<;>try first | (exfalso;omega) | exact a.elim) | apply aA | fail)
   refine dR ez (d) (by first | exact wN | (apply wG;(simp only[lk,Nat.reduceEqDiff,reduceIte,j,k];(try rfl);done))) (by simp only[List.map,lk,Nat.reduceEqDiff,reduceIte];try rfl) (by first | trivial | (simp only[cH,aE,aR.run,Env.au,Env.bI,svq,Nat.reduceEqDiff,Nat.reduceAdd,Nat.reduceLeDiff,reduceIte,aT,eH,List.map,bC,beq_self_eq_true,reduceCtorEq,false_or,true_and,and_true,Option.some.injEq, *];done)) ?_;simp only[Env.au];clear d;repeat' (first | refine gA (And.intro @c @b) ?_ | (refine gB (And.intro @c @b) ?_;intro h a;cases h<;>(try simp only[aG]at a)<;>(try first | omega | exact a.elim)) | apply aA | fail)
   refine dR ez q (wG ef) (by simp only[List.map,lk,Nat.reduceEqDiff,if_false,if_true,List.map]) trivial ?_;repeat' (first | refine gA trivial ?_ | (refine gB trivial ?_;rintro (_|_) a<;>try simp only[aG,reduceCtorEq]at a<;>try first | (exfalso;omega) | exact a.elim) | apply aA | fail)
   exact⟨.inr trivial,ef⟩
  ·have g:Bx (decide (Vb B/\t.length<=B.next.length/\Tr B.next.length t)=false):=⟨by simp[hl]⟩;clear q f;repeat' (first | refine gA (And.intro @c @b) ?_ | (refine gB (And.intro @c @b) ?_;rintro (_|_) a<;>try simp only[aG,reduceCtorEq]at a<;>try first | (exfalso;omega) | exact a.elim) | apply aA | fail)
   refine dR ez (d) (by first | exact wN | (apply wG;(simp only[lk,Nat.reduceEqDiff,reduceIte,j,k];(try rfl);done))) (by simp only[List.map,lk,Nat.reduceEqDiff,reduceIte];try rfl) (by first | trivial | (simp only[cH,aE,aR.run,Env.au,Env.bI,svq,Nat.reduceEqDiff,Nat.reduceAdd,Nat.reduceLeDiff,reduceIte,aT,eH,List.map,bC,beq_self_eq_true,reduceCtorEq,false_or,true_and,and_true,Option.some.injEq, *];done)) ?_;simp only[Env.au];clear d;repeat' (first | refine gA (And.intro @c @b) ?_ | (refine gB (And.intro @c @b) ?_;intro h a;cases h<;>(try simp only[aG]at a)<;>(try first | omega | exact a.elim)) | apply aA | fail)
   refine⟨.inr trivial,?_⟩;rw[g.out];exact ef
 ·have g:Bx (decide (Vb B/\t.length<=B.next.length/\Tr B.next.length t)=false):=⟨by simp[f]⟩;rw[decide_eq_false f]at d;clear f;repeat' (first | refine gA (And.intro @c @b) ?_ | (refine gB (And.intro @c @b) ?_;rintro (_|_) a<;>try simp only[aG,reduceCtorEq]at a<;>try first | (exfalso;omega) | exact a.elim) | apply aA | fail)
  refine dR ez (d) (by first | exact wN | (apply wG;(simp only[lk,Nat.reduceEqDiff,reduceIte,j,k];(try rfl);done))) (by simp only[List.map,lk,Nat.reduceEqDiff,reduceIte];try rfl) (by first | trivial | (simp only[cH,aE,aR.run,Env.au,Env.bI,svq,Nat.reduceEqDiff,Nat.reduceAdd,Nat.reduceLeDiff,reduceIte,aT,eH,List.map,bC,beq_self_eq_true,reduceCtorEq,false_or,true_and,and_true,Option.some.injEq, *];done)) ?_;simp only[Env.au];clear d;repeat' (first | refine gA (And.intro @c @b) ?_ | (refine gB (And.intro @c @b) ?_;rintro (_|_) a<;>try simp only[aG,reduceCtorEq]at a<;>try first | (exfalso;omega) | exact a.elim) | apply aA | fail)
  refine⟨.inr trivial,?_⟩;rw[g.out];exact ef
theorem Jv {g:LV}{B:Bu}{j k:LV}(hB:zW g B j k) (c:Vb B):PO 38 [g] (.int .i64 ((2*B.next.length:Nat):Int)):=by
 have l:=hB.closed;have d:=nN hB;obtain⟨rfl,hs,h⟩:=hB;have o:=hs.closed;have p:=h.closed;obtain⟨vs,i⟩:=h;have b:=i.sl.len;have q:=hs.sl.cell;have r:=i.sl.cell;have m:=c.2.2.1;have f:IntKind.i64.wrap (2*(B.next.length:Int))=((2*B.next.length:Nat):Int):=by rw[wrap_i64 _ om om];rfl
 rw[decide_eq_true c]at d;clear c;refine lK (t:=2) hm Try.func38 (by decide +kernel) c38 (Nat.le_of_ble_eq_true rfl) (by simp[LV.closed.aq,l]) rfl rfl ?_;refine sJ λe n=>?_;unfold l38;dsimp only[jA,qN,qF,qS,qC,qO,qG,qm,ql];repeat' (first | refine gA @b ?_ | (refine gB @b ?_;rintro (_|_) a<;>try simp only[aG,reduceCtorEq]at a<;>try first | (exfalso;omega) | exact a.elim) | apply aA | fail)
 refine dR ez (d) (by first | exact wN | (apply wG;(simp only[lk,Nat.reduceEqDiff,reduceIte,n];(try rfl);done))) (by simp only[List.map,lk,Nat.reduceEqDiff,reduceIte];try rfl) (by first | trivial | (simp only[cH,aE,aR.run,Env.au,Env.bI,svq,Nat.reduceEqDiff,Nat.reduceAdd,Nat.reduceLeDiff,reduceIte,aT,eH,List.map,bC,beq_self_eq_true,reduceCtorEq,false_or,true_and,and_true,Option.some.injEq, *];done)) ?_;simp only[Env.au];clear d;repeat' (first | refine gA (And.intro @b @f) ?_ | (refine gB (And.intro @b @f) ?_;rintro (_|_) a<;>try simp only[aG,reduceCtorEq]at a<;>try first | (exfalso;omega) | exact a.elim) | apply aA | fail)
 exact⟨.inr trivial,by rw[<- f];exact ef⟩
def Aa (B:Bu):List Nd:=if B.start=[] then [] else [⟨1,-1,B.start⟩]
theorem Ju {t:LV}{B:Bu}{D E:LV}(hB:zW t B D E) (u:Vb B) (hl:B.start.length<=64):PE 17 [t] (λv=>∃ rs,uw v (Aa B) rs):=by
 have F:=hB.closed;have l:=nN hB;obtain⟨rfl,hs,w⟩:=hB;have L:=hs.closed;have M:=w.closed;have G:=Jj hs hl;obtain⟨vs,H⟩:=w;have g:=hs.sl.len;have N:=hs.sl.cell;have O:=H.sl.cell;rw[decide_eq_true u]at l;clear u;refine n8 Try.func17 (by decide +kernel) c17 (Nat.le_of_ble_eq_true rfl) (by simp[LV.closed.aq,F]) ?_;refine sJ λe I=>?_;unfold l17;dsimp only[jA,jC,qL,qN,qF,qS,qO,qP,qG,qm,ql];have y:Bx (B.start=[]↔B.start.length=0):=⟨List.length_eq_zero_iff.symm⟩;repeat' (first | refine gA @g ?_ | (refine gB @g ?_;rintro (_|_) a<;>try simp only[aG,reduceCtorEq]at a<;>try first | (exfalso;omega) | exact a.elim) | apply aA | fail)
 refine dR ez (l) (by first | exact wN | (apply wG;(simp only[lk,Nat.reduceEqDiff,reduceIte,I];(try rfl);done))) (by simp only[List.map,lk,Nat.reduceEqDiff,reduceIte];try rfl) (by first | trivial | (simp only[cH,aE,aR.run,Env.au,Env.bI,svq,Nat.reduceEqDiff,Nat.reduceAdd,Nat.reduceLeDiff,reduceIte,aT,eH,List.map,bC,beq_self_eq_true,reduceCtorEq,false_or,true_and,and_true,Option.some.injEq, *];done)) ?_;simp only[Env.au];clear l;repeat' (first | refine gA @g ?_ | (refine gB @g ?_;intro J a;cases J<;>(try simp only[aG]at a)<;>(try first | omega | exact a.elim)) | apply aA | fail)
 ·refine cW ez G wN (by simp only[List.map,lk,dJ,Nat.reduceEqDiff,if_false,if_true,List.map]) λr z m=>⟨trivial,?_⟩;simp only[Env.au];have j:=z.sl.cell;repeat' (first | refine gA @j ?_ | (refine gB @j ?_;rintro (_|_) a<;>try simp only[aG,reduceCtorEq]at a<;>try first | (exfalso;omega) | exact a.elim) | apply aA | fail)
  have c:cells? (.agg [.int .i64 1, .int .i64 (-1),r])=some [.int .i64 1, .int .i64 (-1),r]:=by
   have:[LV.int .i64 1, .int .i64 (-1),r].all aV=true:=by simp only[List.all_cons,List.all_nil,Bool.and_true,j];rfl
   simp only[cells?,this,if_true]
  have f:cells? r=some [r]:=by
   revert j;cases r<;>simp[aV,cells?]
  refine iF (vs:=[.int .i64 1, .int .i64 (-1),r]) wN (by simp only[bB,List.map,lk,dJ,Nat.reduceEqDiff,if_false,if_true,List.map];simp[aW,f,splice,show ∀ (k:IntKind) (x:Int),cells? (.int k x)=some [.int k x] from λ_ _=>rfl]) ?_;refine eN (v:=.aD St.empty.n 0 1 3) (s':=St.empty.new (.cells .mut [.int .i64 1, .int .i64 (-1),r])) (by
   simp only[aR.run,bB,List.map,lk,dJ,gW,Nat.reduceEqDiff,if_false,if_true,List.map];simp[aW,c,splice,rep]) ?_
  have A:dQ (St.empty.new (.cells .mut [.int .i64 1, .int .i64 (-1),r])) (.aD St.empty.n 0 1 3) 3 [.int .i64 1, .int .i64 (-1),r] 1:=⟨rfl, .inr ⟨_,rfl,by omega,by simp,by rw[St.az,if_pos rfl]⟩⟩;obtain⟨x,o,b⟩:=FV.row (T:=λ_=>True) (d:=0) A (by simp[LV.closed.aq,LV.closed,m]) (λ_ _=>trivial);obtain⟨s',C,-⟩:=Je om o;generalize St.empty.new (.cells .mut [.int .i64 1, .int .i64 (-1),r])=P at *;have p:=Bx.mk (And.intro C (And.intro o b));clear C o b A;repeat' (first | refine gA trivial ?_ | (refine gB trivial ?_;rintro (_|_) a<;>try simp only[aG,reduceCtorEq]at a<;>try first | (exfalso;omega) | exact a.elim) | apply aA | fail)
  refine⟨.inr trivial, .aD St.empty.n 0 1 3,by simp[br,bO],x,s',p.out.1,p.out.2.1.closed,[(1,-1,r)],?_⟩;have dH:B.start≠[]:=λh=>by
   have:=y.out.1 h;omega
  have q:Aa B=[⟨1,-1,B.start⟩]:=by unfold Aa;rw[if_neg dH]
  rw[q];refine⟨by simpa[eG,wg] using p.out.2.2,rfl,by simp,λi s=>?_⟩;have K:i=0:=by simp at s;omega
  subst K;exact⟨rfl,rfl,z,by unfold cF;simp,by unfold cF;simp⟩
 ·have dH:B.start=[]:=y.out.2 om;have q:Aa B=[]:=by unfold Aa;rw[if_pos dH]
  rw[q];refine⟨.inr trivial, .aj,by simp[br,bO], .aj,_,bf rfl,rfl,[],?_⟩;exact⟨.nil,rfl,by simp,λi s=>absurd s (by simp)⟩
end Go.Proofs.Ytkbiecjdcjfhaaa
end
