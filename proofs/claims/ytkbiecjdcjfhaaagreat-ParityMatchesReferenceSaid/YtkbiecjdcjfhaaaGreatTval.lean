/- tree.valid. -/
import Derived.Test.YtkbiecjdcjfhaaaGreatValid
import Derived.Test.YtkbiecjdcjfhaaaGreatTbase
import Derived.Test.YtkbiecjdcjfhaaaGreatPvKM
import Derived.Test.YtkbiecjdcjfhaaaGreatTre
import Derived.Test.YtkbiecjdcjfhaaaGreatWoa
import Derived.Test.YtkbiecjdcjfhaaaGreatPvQ
set_option linter.unusedSimpArgs false
set_option linter.unusedVariables false
set_option maxRecDepth 100000
set_option maxHeartbeats 16000000
section
namespace Go.Proofs.YtkbiecjdcjfhaaaGreat
open Go Go.Pv Go.pR
open Classical
def eO (r:Int × Int × LV):List LV:=[.int .i64 r.1, .int .i64 r.2.1,r.2.2]
theorem fN (r:Int × Int × LV):(eO r).length=3:=rfl
structure vM (r:Int × Int × LV) (n:Nd):Prop where
  name:r.1=n.name
  par:r.2.1=n.par
  set:aP r.2.2 n.set
  nr:bU n.name
  pr:bU n.par
structure jK (v:LV) (t:List Nd) (rs:List (Int × Int × LV)):Prop where
  sl:Sl v (dm eO rs) t.length
  len:rs.length=t.length
  lim:t.length<=3000
  nd:∀ i,i<t.length->vM (rs.getD i default) (t.getD i default)
theorem jK.closed {v:LV}{t:List Nd}{rs:List (Int × Int × LV)}(h:jK v t rs):v.closed=true:=by
 refine h.sl.closed (oU λj c=>?_);rw[eN fN,h.len]at c;have a:j / 3<t.length:=by omega
 have d:=h.nd _ a;have f:rs[j / 3]? = some (rs.getD (j / 3) default):=by
  have:j / 3<rs.length:=by rw[h.len];exact a
  simp[gD,this]
 have b:=xh fN f (k:=j % 3) om [];rw[List.append_nil,show j / 3*3+j % 3=j by omega]at b;rw[gD,b];have h3:j % 3=0∨j % 3=1∨j % 3=2:=by omega
 rcases h3 with e | e | e
 ·rw[e];rfl
 ·rw[e];rfl
 ·rw[e];exact d.set.closed
theorem jK.get {v:LV}{t:List Nd}{rs:List (Int × Int × LV)}(h:jK v t rs) {i:Nat}(a:i<t.length) (s:St):cz (some 3) (.aY (dm eO rs) (i*3)) s=some (.agg [.int .i64 (t.getD i default).name, .int .i64 (t.getD i default).par,(rs.getD i default).2.2]):=by
 have b:=h.nd i a;have c:rs[i]? = some (rs.getD i default):=by
  have:i<rs.length:=by rw[h.len];exact a
  simp[gD,this]
 rw[Mb fN c];unfold eO;rw[b.name,b.par]
structure A3 (N:Nat) (d:List Nd) (n:Nd) (k:Nat):Prop where
  tQ:∀ x∈n.set.take k,0<=x/\x<N
  inc:(n.set.take k).Pairwise (· < ·)
  sub:0<d.length->∀ x∈n.set.take k,x∈(d.getD n.par.toNat default).set/\x ∉ below d n.par
theorem A3.zero (N:Nat) (d:List Nd) (n:Nd):A3 N d n 0:=⟨λx hx=>by simp at hx,by simp,λ_ x hx=>by simp at hx⟩
theorem A3.lt {N:Nat}{d:List Nd}{n:Nd}{k:Nat}{x:Int}(h:A3 N d n k) (hx:n.set[k]? = some x) (h2:0<k->∀ y,n.set[k - 1]? = some y->y<x):∀ z∈n.set.take k,z<x:=by
 intro a b;obtain⟨i,c,rfl⟩:=List.getElem_of_mem b;rw[List.length_take]at c;have f:0<k:=by omega
 have m:k<n.set.length:=(List.getElem?_eq_some_iff.1 hx).1;have g:n.set[k - 1]? = some n.set[k - 1]:=gE om;have j:=h2 f _ g;rw[List.getElem_take];by_cases e:i=k - 1
 ·subst e;exact j
 ·have l:=List.pairwise_iff_getElem.1 h.inc i (k - 1) (by rw[List.length_take];omega) (by rw[List.length_take];omega) om;rw[List.getElem_take,List.getElem_take]at l;omega
theorem A3.succ {N:Nat}{d:List Nd}{n:Nd}{k:Nat}{x:Int}(h:A3 N d n k) (hx:n.set[k]? = some x) (h1:0<=x/\x<N) (h2:0<k->∀ y,n.set[k - 1]? = some y->y<x) (h3:0<d.length->x∈(d.getD n.par.toNat default).set/\x ∉ below d n.par):A3 N d n (k+1):=by
 have e:n.set.take (k+1)=n.set.take k++[x]:=by rw[List.take_add_one,hx];rfl
 refine⟨λy c=>?_,?_,λf y c=>?_⟩
 ·rw[e,List.mem_append,List.mem_singleton]at c;rcases c with c | rfl
  ·exact h.tQ y c
  ·exact h1
 ·rw[e,List.pairwise_append];refine⟨h.inc,by simp,λa i b g=>?_⟩;rw[List.mem_singleton]at g;subst g;exact h.lt hx h2 a i
 ·rw[e,List.mem_append,List.mem_singleton]at c;rcases c with c | rfl
  ·exact h.sub f y c
  ·exact h3 f
theorem Ub {N:Nat}{d:List Nd}{n:Nd}{k:Nat}{x:Int}(h:NdOk N d n) (hx:n.set[k]? = some x):(0<=x/\x<N)/\(0<k->∀ y,n.set[k - 1]? = some y->y<x)/\(0<d.length->x∈(d.getD n.par.toNat default).set/\x ∉ below d n.par):=by
 have hm:=List.mem_of_getElem? hx;refine⟨h.tQ x hm,λc y a=>?_,λb=>h.sub b x hm⟩;obtain⟨h1,rfl⟩:=List.getElem?_eq_some_iff.1 hx;obtain⟨h2,rfl⟩:=List.getElem?_eq_some_iff.1 a;exact List.pairwise_iff_getElem.1 h.inc (k - 1) k h2 h1 om
def dU (F:Nat->Nat) (i:Nat):Nat->LV:=λj=>if j<i then .aR (F j) else .cm
theorem yC {F:Nat->Nat}{i M:Nat}(j:Nat):dU (λj=>if j=i then M else F j) (i+1) j=if j=i then .aR M else dU F i j:=by
 unfold dU;by_cases e:j=i
 ·subst e;simp
 ·by_cases h:j<i
  ·simp[e,h,show j<i+1 by omega]
  ·simp[e,h,show ¬ j<i+1 by omega]
structure VS (s:St) (N:Nat) (t:List Nd) (i:Nat) (F H:Nat->Nat):Prop where
  kS:s.get 1=some (.cells .mut (bz t.length (dU F i)))
  AZ:s.get 2=some (.cells .mut (bz t.length (dU H i)))
  names:ey s 0 ((t.take i).map (·.name))
  mf:xe s i F λj=>(t.getD j default).set
  mh:xe s i H λj=>below (t.take i) (j:Int)
  ap:∀ j,j<i->∀ j',j'<i->F j≠H j'
  up:∀ j,j<i->2<F j/\2<H j
  n:3<=s.n
  ok:Ok N (t.take i)
theorem VS.mono {s s':St}{N:Nat}{t:List Nd}{i:Nat}{F H:Nat->Nat}(h:VS s N t i F H) (c:s.n<=s'.n) (a:∀ id,id<s.n->s'.get id=s.get id):VS s' N t i F H:=
 have h3:=h.n
 ⟨(a 1 om).trans h.kS,(a 2 om).trans h.AZ,h.names.keep (a 0 om),h.mf.keep c λj b=>a _ (h.mf.lt j b),h.mh.keep c λj b=>a _ (h.mh.lt j b),h.ap,h.up,by omega,h.ok⟩
theorem Jb {N:Nat}{t:List Nd}{i:Nat}(h:Ok N (t.take i)) (c:i<=t.length):below (t.take i) (i:Int)=[]:=by
 unfold below;have:((t.take i).filter λn=>decide (n.par=(i:Int)))=[]:=by
  refine List.filter_eq_nil_iff.2 λn b=>?_;obtain⟨k,a,rfl⟩:=List.getElem_of_mem b;have h1:=h k a;have e:(t.take i).getD k default=(t.take i)[k]:=by rw[gD,gE a];rfl
  rw[e]at h1;have hl:((t.take i).take k).length=k:=by rw[List.length_take];omega
  have d:(t.take i).length=i:=by rw[List.length_take];omega
  simp only[decide_eq_true_iff];rcases Nat.eq_zero_or_pos ((t.take i).take k).length with e | e
  ·have:=h1.root e;omega
  ·have:=(h1.par e).2;omega
 rw[this];rfl
structure VJ (s:St) (N:Nat) (t:List Nd) (i:Nat) (n:Nd) (sv:LV) (b kf kh:Nat) (F H:Nat->Nat):Prop where
  kS:s.get 1=some (.cells .mut (bz t.length (dU F (i+1))))
  AZ:s.get 2=some (.cells .mut (bz t.length (dU H (i+1))))
  names:ey s 0 ((t.take i).map (·.name)++[n.name])
  mf:xe s (i+1) F λj=>if j=i then n.set.take kf else (t.getD j default).set
  mh:xe s (i+1) H λj=>below (t.take i) (j:Int)++if n.par=(j:Int) then n.set.take kh else []
  ap:∀ j,j<i+1->∀ j',j'<i+1->F j≠H j'
  up:∀ j,j<i+1->(2<F j/\F j≠b)/\2<H j/\H j≠b
  n3:3<=b/\b<s.n
  dR:s.get b=some (.cells .mut [.int .i64 n.name, .int .i64 n.par,sv])
theorem VJ.Ts {s s':St}{N:Nat}{t:List Nd}{i:Nat}{n:Nd}{c:LV}{b k d:Nat}{F H:Nat->Nat}{x:Int}(h:VJ s N t i n c b k d F H) (hx:n.set[k]? = some x) (f:s'.n=s.n) (hm:ey s' (F i) (n.set.take k++[x])) (hs:∀ id,id≠F i->s'.get id=s.get id):VJ s' N t i n c b (k+1) d F H:=by
 have e:n.set.take (k+1)=n.set.take k++[x]:=by rw[List.take_add_one,hx];rfl
 have g:=h.up i om;have h3:=h.n3;exact⟨(hs 1 om).trans h.kS,(hs 2 om).trans h.AZ,h.names.keep (hs 0 om),h.mf.up om f (by simp only[if_true];rw[e];exact hm) hs λj _ a=>by simp only[if_neg a],h.mh.keep om λj a=>hs _ (h.ap i om j a).symm,h.ap,h.up,by omega,(hs b om).trans h.dR⟩
theorem VJ.Sj {s s':St}{N:Nat}{t:List Nd}{i q:Nat}{n:Nd}{a:LV}{b k c:Nat}{F H:Nat->Nat}{x:Int}(h:VJ s N t i n a b c k F H) (f:n.par=(q:Int)) (g:q<i) (hx:n.set[k]? = some x) (l:s'.n=s.n) (hm:ey s' (H q) (below (t.take i) (q:Int)++n.set.take k++[x])) (hs:∀ id,id≠H q->s'.get id=s.get id):VJ s' N t i n a b c (k+1) F H:=by
 have e:n.set.take (k+1)=n.set.take k++[x]:=by rw[List.take_add_one,hx];rfl
 have m:=h.up q om;have h3:=h.n3;exact⟨(hs 1 om).trans h.kS,(hs 2 om).trans h.AZ,h.names.keep (hs 0 om),h.mf.keep om λj d=>hs _ (h.ap j d q om),h.mh.up (j:=q) om l (by simp only[f,if_true];rw[e,<- List.append_assoc];exact hm) hs λj _ d=>by
  have:¬ n.par=(j:Int):=by omega
  simp only[if_neg this],h.ap,h.up,by omega,(hs b om).trans h.dR⟩
theorem VJ.root {s:St}{N:Nat}{t:List Nd}{i:Nat}{n:Nd}{a:LV}{b k c d:Nat}{F H:Nat->Nat}(h:VJ s N t i n a b c k F H) (e:n.par = -1):VJ s N t i n a b c d F H:=
 ⟨h.kS,h.AZ,h.names,h.mf,h.mh.ext λj _ x=>by
  have:¬ n.par=(j:Int):=by omega
  simp only[if_neg this],h.ap,h.up,h.n3,h.dR⟩
theorem VJ.done {s:St}{N:Nat}{t:List Nd}{i:Nat}{d:LV}{b:Nat}{F H:Nat->Nat}(f:i<t.length) (h:VJ s N t i (t.getD i default) d b (t.getD i default).set.length (t.getD i default).set.length F H) (g:Ok N (t.take (i+1))):VS s N t (i+1) F H:=by
 have a:=take_one t default f;have h3:=h.n3;refine⟨h.kS,h.AZ,?_,h.mf.ext λj _ x=>?_,h.mh.ext λj _ x=>?_,h.ap,λj c=>⟨(h.up j c).1.1,(h.up j c).2.1⟩,by omega,g⟩
 ·rw[a,List.map_append];exact h.names
 ·by_cases e:j=i
  ·subst e;simp only[if_true,List.take_length]
  ·simp only[if_neg e]
 ·rw[a,gT,jy,List.take_length]
theorem K9 {u:LV}{t:List Nd}{rs:List (Int × Int × LV)}(Y:jK u t rs) {N:Nat}(hN:N<=3000):PO 102 [.int .i64 (N:Int),u] (.bool (decide (Tr N t))):=by
 have bV:=Y.closed;have kn:=Y.sl.len;have mK:=Y.lim;have je:=lG;refine gO (t:=4) hm Tryz.func102 br c102 bw (by simp[LV.closed.au,LV.closed,bV]) rfl rfl ?_;refine mH λe o p=>?_;unfold l102;dsimp only[jA,jB,jC,jD,jG,qM,qL,qN,qF,qS,qI,qA,qB,qC,qK,qP,qV,qU,qW,qH,qT,qm,ql,qR];repeat' (first|refine aV @kn ?_|(first|apply ah|apply af)<;>intro c)
 refine jM wN bJ ?_;repeat' (first|refine aV @kn ?_|(first|apply ah|apply af)<;>intro c)
 refine vP (n:=t.length) (k:=1) (z:=.cm) wN rfl ef ef om (by decide) ?_;repeat' (first|refine aV @kn ?_|(first|apply ah|apply af)<;>intro c)
 refine vP (n:=t.length) (k:=2) (z:=.cm) wN rfl ef ef om (by decide) ?_;repeat' (first|refine aV @kn ?_|(first|apply ah|apply af)<;>intro c)
 refine aN (λm e s=>∃ (i:Nat) (F H:Nat->Nat),m=t.length - i/\i<=t.length/\VS s N t i F H/\e.at 0 = .int .i64 (N:Int)/\e.at 1=u/\e.at 5 = .aR 0/\e.at 6 = .aE 1 0 t.length 1/\e.at 7 = .aE 2 0 t.length 1/\e.at 21=u/\e.at 22 = .int .i64 (t.length:Int)/\e.at 23 = .int .i64 (i:Int)) _
  ⟨0,λ_=>0,λ_=>0,rfl,by omega,?_,ef,ef,ef,ef,ef,ef,ef,by simp only[lk,Nat.reduceEqDiff,if_false,if_true];rfl⟩ ?_
 ·have hz:bz t.length (dU (λ_=>0) 0)=bz t.length λ_=>.cm:=kR λj _=>by simp[dU]
  exact⟨by rw[hz];simp[bJ],by rw[hz];simp[bJ],ey.nil (by simp[bJ]),xe.zero _ _ _,xe.zero _ _ _,λj d=>absurd d om,λj d=>absurd d om,by simp[bJ],λi hi=>by simp at hi⟩
 clear o p;clear e;rintro m e s ⟨i,F,H,rfl,hi,C,o,p,v,w,r,A,B,D⟩;by_cases l:i<t.length
 ·have iQ:(i:Int)<(t.length:Int):=by omega
  have kG:=λs=>Y.get l s;have fM:=Y.nd i l;have ep:=take_one t default l;have T:=λh:Tr N t=>h.1 i l;have K:=fM.set;have hsetl:=K.sl.len;have uA:=K.sl.cell;have gb:t.getD i default∈t:=by
   rw[gD,gE l];simp
  have wk:IntKind.i64.wrap (2*(N:Int))=2*(N:Int):=wrap_i64 _ om om;have Ix:(t.take i).length=i:=by rw[List.length_take];omega
  generalize Zn:t.getD i default=n at *;generalize (rs.getD i default).2.2=L at *;repeat' (first|refine aG (aj (@cU _ _ _ Y.sl) (aj @kG @wk)) ?_|(first|apply ah|apply af)<;>intro c)
  refine lQ (λa XS=>XS=(s.new (.cells .mut [.int .i64 0, .int .i64 0, .aq])).put s.n (.cells .mut [.int .i64 n.name, .int .i64 n.par,L])/\((i=0/\n.par = -1)∨(0<i/\0<=n.par/\n.par<i))/\a.at 0 = .int .i64 (N:Int)/\a.at 1=u/\a.at 5 = .aR 0/\a.at 6 = .aE 1 0 t.length 1/\a.at 7 = .aE 2 0 t.length 1/\a.at 21=u/\a.at 22 = .int .i64 (t.length:Int)/\a.at 23 = .int .i64 (i:Int)/\a.at 8 = .int .i64 (i:Int)/\a.at 9 = .aO s.n 0) ?_ ?_
  ·have O:Bx (¬ ((i=0/\n.par = -1)∨(0<i/\0<=n.par/\n.par<i))->decide (Tr N t)=false):=⟨λU=>decide_eq_false λh=>U (by
    have:=(T h);rcases Nat.eq_zero_or_pos i with e | e
    ·exact .inl ⟨e,this.root om⟩
    ·have:=this.par om;rw[Ix]at this;exact .inr ⟨e,this⟩)⟩
   clear T ep C gb Zn K;repeat' (first|refine aH trivial ?_|(first|apply ah|apply af)<;>intro c)
   all_goals first | (refine⟨.inr trivial,?_⟩;rw[O.out om];exact ef) | refine⟨trivial,by omega,ef,ef,ef,ef,ef,ef,ef,ef,ef,ef⟩
  clear o p v w r A B D;clear e;rintro e s1 ⟨kU,U,o,p,v,w,r,A,B,D,V,X⟩;have eu:s1.n=s.n+1:=by rw[kU];rfl
  have Q:s1.get s.n=some (.cells .mut [.int .i64 n.name, .int .i64 n.par,L]):=by rw[kU,St.az,if_pos rfl]
  have mE:=C.mono (s':=s1) om λid aS=>by rw[kU,St.az,if_neg om,St.aA,if_neg om]
  have hbn:=C.n;have sW:∀ j,j<i->F j<s.n/\H j<s.n:=λj d=>⟨C.mf.lt j d,C.mh.lt j d⟩;generalize s.n=b at *;clear C kU;clear s;refine lQ (λa XS=>XS=s1/\(1<=n.name/\n.name<=2*N/\n.name ∉ (t.take i).map (·.name))/\n.set≠[]/\a.at 0 = .int .i64 (N:Int)/\a.at 1=u/\a.at 5 = .aR 0/\a.at 6 = .aE 1 0 t.length 1/\a.at 7 = .aE 2 0 t.length 1/\a.at 21=u/\a.at 22 = .int .i64 (t.length:Int)/\a.at 23 = .int .i64 (i:Int)/\a.at 8 = .int .i64 (i:Int)/\a.at 9 = .aO b 0) ?_ ?_
  ·have O:Bx (¬ ((1<=n.name/\n.name<=2*N/\n.name ∉ (t.take i).map (·.name))/\n.set≠[])->decide (Tr N t)=false):=⟨λU=>decide_eq_false λh=>U ⟨(T h).name,(T h).ne⟩⟩;have QU:Bx (n.set=[]↔n.set.length=0):=⟨List.length_eq_zero_iff.symm⟩;have g:=Bx.mk mE;have KF:=Bx.mk U;clear T ep gb Zn K mE U;repeat' (first|refine aH (aj @wk @Q) ?_|(first|apply ah|apply af)<;>intro c)
   ·refine lF g.out.names (wG ef) ef ef (λb hb=>?_);cases b
    ·have DK:=of_decide_eq_false hb;repeat' (first|refine aH (aj @wk @Q) ?_|(first|apply ah|apply af)<;>intro c)
     ·refine⟨trivial,⟨by omega,by omega,DK⟩,λh=>?_,ef,ef,ef,ef,ef,ef,ef,ef,ef,ef⟩;have:=QU.out.1 h;omega
     ·refine⟨.inr trivial,?_⟩;rw[O.out λh=>h.2 (QU.out.2 om)];exact ef
    ·have DK:=of_decide_eq_true hb;repeat' (first|refine aH (aj @wk @Q) ?_|(first|apply ah|apply af)<;>intro c)
     refine⟨.inr trivial,?_⟩;rw[O.out λh=>h.1.2.2 DK];exact ef
   all_goals
    refine⟨.inr trivial,?_⟩;rw[O.out om];exact ef
  clear o p v w r V X A B D;clear e;rintro e s2 ⟨rfl,wo,dB,o,p,v,w,r,A,B,D,V,X⟩;have S4:=Bx.mk (And.intro T (And.intro ep (And.intro gb Zn)));have g:=Bx.mk mE;have GI:=Bx.mk (And.intro wo dB);clear T ep gb Zn mE wo dB;repeat' (first|refine aG @Q ?_|(first|apply ah|apply af)<;>intro c)
  refine ov g.out.names ef ef ef (λs3 o9 W7 fR=>?_);repeat' (first|refine aG @Q ?_|(first|apply ah|apply af)<;>intro c)
  refine jM wN (o9.trans eu) ?_;repeat' (first|refine aG @eF ?_|(first|apply ah|apply af)<;>intro c)
  refine jZ (q:=i) (f:=dU F i) (f':=dU (λj=>if j=i then b+1 else F j) (i+1)) ef ef rfl (by rw[St.aA,if_neg om,fR 1 (by decide)];exact g.out.kS) l yC (λs4 od nY fD=>?_);rw[St.fW]at od;repeat' (first|refine aG @Q ?_|(first|apply ah|apply af)<;>intro c)
  refine jM (n:=b+2) wN om ?_;repeat' (first|refine aG @eF ?_|(first|apply ah|apply af)<;>intro c)
  refine jZ (q:=i) (f:=dU H i) (f':=dU (λj=>if j=i then b+2 else H j) (i+1)) ef ef rfl (by rw[St.aA,if_neg om,fD 2 (by decide),St.aA,if_neg om,fR 2 (by decide)];exact g.out.AZ) l yC (λs5 vI qQ eL=>?_);rw[St.fW]at vI;have kV:∀ id,id≠0->id≠1->id≠2->id<b+1->s5.get id=s2.get id:=λid h0 h1 h2 h3=>by
   rw[eL id h2,St.aA,if_neg om,fD id h1,St.aA,if_neg om,fR id h0]
  have R:∃ F' H',VJ s5 N t i n L b 0 0 F' H':=⟨_,_,{
   kS:=by rw[eL 1 (by decide),St.aA,if_neg om];exact nY
   AZ:=qQ
   names:=W7.keep (by rw[eL 0 (by decide),St.aA,if_neg om,fD 0 (by decide),St.aA,if_neg om])
   mf:=g.out.mf.snoc (n:=i) (M:=b+1) om (λj d=>kV _ (by have:=g.out.up j d;omega) (by have:=g.out.up j d;omega) (by have:=g.out.up j d;omega) (by have:=sW j d;omega)) (λj d=>by have:=sW j d;omega) om (by simpa using ey.nil (by rw[eL _ om,St.aA,if_neg om,fD _ om,St.aA,if_pos om])) (λj=>rfl) (λj d=>by rw[if_neg om])
   mh:=g.out.mh.snoc (n:=i) (M:=b+2) om (λj d=>kV _ (by have:=g.out.up j d;omega) (by have:=g.out.up j d;omega) (by have:=g.out.up j d;omega) (by have:=sW j d;omega)) (λj d=>by have:=sW j d;omega) om (by simpa[Jb g.out.ok hi] using ey.nil (by rw[eL _ om,St.aA,if_pos om])) (λj=>rfl) (λj d=>by simp)
   ap:=λj d j' jg=>by
    by_cases e:j=i<;>by_cases e':j'=i
    ·simp only[if_pos e,if_pos e'];omega
    ·simp only[if_pos e,if_neg e'];have:=sW j' (by omega);omega
    ·simp only[if_neg e,if_pos e'];have:=sW j (by omega);omega
    ·simp only[if_neg e,if_neg e'];exact g.out.ap j om j' om
   up:=λj d=>by
    by_cases e:j=i
    ·simp only[if_pos e];omega
    ·simp only[if_neg e];have:=sW j (by omega);have:=g.out.up j (by omega);omega
   n3:=by omega
   dR:=(kV b om om om om).trans Q }⟩
  obtain⟨F',H',R⟩:=R;have fC:=Bx.mk g.out.ok;have GV:=R.dR;clear kV nY qQ fR fD eL o9 od vI W7 eu Q g sW hbn kG fM;clear s2 s3 s4 F H;repeat' (first|refine aG @GV ?_|(first|apply ah|apply af)<;>intro c)
  clear GV;refine aN (λm e s=>∃ k:Nat,m=n.set.length - k/\k<=n.set.length/\VJ s N t i n L b k k F' H'/\A3 N (t.take i) n k/\e.at 0 = .int .i64 (N:Int)/\e.at 1=u/\e.at 5 = .aR 0/\e.at 6 = .aE 1 0 t.length 1/\e.at 7 = .aE 2 0 t.length 1/\e.at 21=u/\e.at 22 = .int .i64 (t.length:Int)/\e.at 23 = .int .i64 (i:Int)/\e.at 8 = .int .i64 (i:Int)/\e.at 9 = .aO b 0/\e.at 84=L/\e.at 85 = .int .i64 (n.set.length:Int)/\e.at 86 = .int .i64 (k:Int)) _
   ⟨0,rfl,by omega,R,A3.zero _ _ _,ef,ef,ef,ef,ef,ef,ef,ef,ef,ef,ef,ef,by simp only[lk,Nat.reduceEqDiff,if_false,if_true];rfl⟩ ?_
  clear o p v w r V X A B D R;clear e s5;rintro m e s ⟨k,rfl,hk,R,P,o,p,v,w,r,A,B,D,V,X,E,G,I⟩;by_cases cG:k<n.set.length
  ·have iN:(k:Int)<(n.set.length:Int):=by omega
   have jR:=bB iN;have iK:=K.len;have cD:=@bQ k om;have hx:n.set[k]? = some (n.set.getD k 0):=by rw[gD,gE cG];rfl
   have AR:=λh:Tr N t=>Ub (S4.out.1 h) hx;generalize n.set.getD k 0=x at *;have hy:0<k->n.set[k - 1]? = some (n.set.getD (k - 1) 0):=λh=>by rw[gD,gE om];rfl
   have U5:0<k->(ints n.set)[k - 1]? = some (.int .i64 (n.set.getD (k - 1) 0)):=λh=>bB om;generalize n.set.getD (k - 1) 0=y at *;have jP:=Bx.mk (And.intro hx hy);have Z2:=Bx.mk AR;have J:=Bx.mk R;have DQ:=Bx.mk P;have Z:=R.dR;clear hx hy AR R P;repeat' (first|refine aG (aj (@cU _ _ _ K.sl) @jR) ?_|(first|apply ah|apply af)<;>intro c)
   refine lQ (λa XS=>XS=s/\(0<=x/\x<N)/\(0<k->y<x)/\a.at 0 = .int .i64 (N:Int)/\a.at 1=u/\a.at 5 = .aR 0/\a.at 6 = .aE 1 0 t.length 1/\a.at 7 = .aE 2 0 t.length 1/\a.at 21=u/\a.at 22 = .int .i64 (t.length:Int)/\a.at 23 = .int .i64 (i:Int)/\a.at 8 = .int .i64 (i:Int)/\a.at 9 = .aO b 0/\a.at 84=L/\a.at 85 = .int .i64 (n.set.length:Int)/\a.at 86 = .int .i64 (k:Int)/\a.at 10 = .int .i64 (k:Int)/\a.at 11 = .int .i64 x) ?_ ?_
   ·have O:Bx (¬ ((0<=x/\x<N)/\(0<k->y<x))->decide (Tr N t)=false):=⟨λU=>decide_eq_false λh=>U ⟨(Z2.out h).1,λvn=>(Z2.out h).2.1 vn y (jP.out.2 vn)⟩⟩;clear jR;rcases Nat.eq_zero_or_pos k with vn | vn
    ·clear U5;repeat' (first|refine aH trivial ?_|(first|apply ah|apply af)<;>intro c)
     all_goals first | (refine⟨.inr trivial,?_⟩;rw[O.out om];exact ef) | refine⟨trivial,by omega,by omega,ef,ef,ef,ef,ef,ef,ef,ef,ef,ef,ef,ef,ef,ef,ef⟩
    ·have U5:=U5 vn;have hwk1:IntKind.i64.wrap ((k:Int) - 1)=((k - 1:Nat):Int):=by rw[wrap_i64 _ om om];omega
     have hk1I:((k - 1:Nat):Int)<(n.set.length:Int):=by omega
     repeat' (first|refine aH (aj @Z (aj @hwk1 (aj (@cU _ _ _ K.sl) @U5))) ?_|(first|apply ah|apply af)<;>intro c)
     all_goals first | (refine⟨.inr trivial,?_⟩;rw[O.out om];exact ef) | refine⟨trivial,by omega,by omega,ef,ef,ef,ef,ef,ef,ef,ef,ef,ef,ef,ef,ef,ef,ef⟩
   clear o p v w r V X A B D E G I jR U5;clear e;rintro e s1 ⟨rfl,Nz,hxy,o,p,v,w,r,A,B,D,V,X,E,G,I,gW,n6⟩;have hsi:(bz t.length (dU F' (i+1)))[i]? = some (.aR (F' i)):=by rw[cQ l];simp[dU]
   have WN:=J.out.kS;repeat' (first|refine aG (aj @eF (aj @WN @hsi)) ?_|(first|apply ah|apply af)<;>intro c)
   have W4:=J.out.mf.ms i om;simp only[if_true]at W4;refine ov W4 ef ef ef (λs2 jk NK iM=>?_);have S:=J.out.Ts jP.out.1 jk NK iM;have me:0<k->∀ z,n.set[k - 1]? = some z->z<x:=λvn z hz=>by
    have:=jP.out.2 vn;rw[this]at hz;cases hz;exact hxy vn
   have hxk:x ∉ n.set.take k:=λhm=>by
    have:=DQ.out.lt jP.out.1 me x hm;omega
   have hKS:=λh3=>A3.succ DQ.out jP.out.1 Nz me h3;clear NK iM jk W4 hsi WN Z J DQ;clear s1;have J:=Bx.mk S;have DQ:=Bx.mk hKS;have Z:=S.dR;have WN:=S.kS;have Fu:=S.AZ;clear S hKS;repeat' (first|refine aG @cD ?_|(first|apply ah|apply af)<;>intro c)
   ·refine lQ (λa XS=>XS=s2/\(x∈((t.take i).getD n.par.toNat default).set/\x ∉ below (t.take i) n.par)/\a.at 0 = .int .i64 (N:Int)/\a.at 1=u/\a.at 5 = .aR 0/\a.at 6 = .aE 1 0 t.length 1/\a.at 7 = .aE 2 0 t.length 1/\a.at 21=u/\a.at 22 = .int .i64 (t.length:Int)/\a.at 23 = .int .i64 (i:Int)/\a.at 8 = .int .i64 (i:Int)/\a.at 9 = .aO b 0/\a.at 84=L/\a.at 85 = .int .i64 (n.set.length:Int)/\a.at 86 = .int .i64 (k:Int)/\a.at 10 = .int .i64 (k:Int)/\a.at 11 = .int .i64 x) ?_ ?_
    ·have O:Bx (¬ (x∈((t.take i).getD n.par.toNat default).set/\x ∉ below (t.take i) n.par)->decide (Tr N t)=false):=⟨λU=>decide_eq_false λh=>U ((Z2.out h).2.2 om)⟩;obtain⟨q,hq⟩:∃ q:Nat,n.par=(q:Int):=⟨n.par.toNat,by omega⟩;have hqi:q<i:=by omega
     have SF:(q:Int)<(t.length:Int):=by omega
     have Ft:(bz t.length (dU F' (i+1)))[q]? = some (.aR (F' q)):=by rw[cQ om];simp[dU,show q<i+1 by omega]
     have UH:(bz t.length (dU H' (i+1)))[q]? = some (.aR (H' q)):=by rw[cQ om];simp[dU,show q<i+1 by omega]
     have hmq:=J.out.mf.ms q om;have UW:=J.out.mh.ms q om;rw[if_neg om]at hmq;rw[if_pos hq]at UW;rw[hq]at Z;have kW:(t.take i).getD q default=t.getD q default:=getD_take hqi;rw[hq,Int.toNat_natCast,kW]at O;repeat' (first|refine aH (aj @Z (aj @eF (aj @WN @Ft))) ?_|(first|apply ah|apply af)<;>intro c)
     refine lF hmq wN ef ef (λb1 Q=>?_);cases b1
     ·have eu:=of_decide_eq_false Q;repeat' (first|refine aH trivial ?_|(first|apply ah|apply af)<;>intro c)
      refine⟨.inr trivial,?_⟩;rw[O.out λh=>eu h.1];exact ef
     ·have eu:=of_decide_eq_true Q;repeat' (first|refine aH (aj @Z (aj @eF (aj @Fu @UH))) ?_|(first|apply ah|apply af)<;>intro c)
      refine lF UW (wG ef) ef ef (λb2 lJ=>?_);cases b2
      ·have jk:=of_decide_eq_false lJ;repeat' (first|refine aH trivial ?_|(first|apply ah|apply af)<;>intro c)
       refine⟨trivial,⟨?_,?_⟩,ef,ef,ef,ef,ef,ef,ef,ef,ef,ef,ef,ef,ef,ef,ef⟩
       ·rw[hq,Int.toNat_natCast,kW];exact eu
       ·rw[hq];exact λh=>jk (List.mem_append_left _ h)
      ·have jk:=of_decide_eq_true lJ;repeat' (first|refine aH trivial ?_|(first|apply ah|apply af)<;>intro c)
       refine⟨.inr trivial,?_⟩;rw[O.out λh=>h.2 ((List.mem_append.1 jk).resolve_right hxk)];exact ef
    ·clear o p v w r V X A B D E G I gW n6;clear e;rintro e s1 ⟨rfl,kH,o,p,v,w,r,A,B,D,V,X,E,G,I,gW,n6⟩;obtain⟨q,hq⟩:∃ q:Nat,n.par=(q:Int):=⟨n.par.toNat,by omega⟩;have hqi:q<i:=by omega
     have SF:(q:Int)<(t.length:Int):=by omega
     have UH:(bz t.length (dU H' (i+1)))[q]? = some (.aR (H' q)):=by rw[cQ om];simp[dU,show q<i+1 by omega]
     have UW:=J.out.mh.ms q om;rw[if_pos hq]at UW;rw[hq]at Z;clear hxk;have hinB:=Bx.mk kH;clear kH;repeat' (first|refine aH (aj @Z (aj @eF (aj @Fu @UH))) ?_|(first|apply ah|apply af)<;>intro c)
     refine ov UW ef ef ef (λs3 o9 W7 fR=>?_);have hJ3:=J.out.Sj hq hqi jP.out.1 o9 W7 fR;clear W7 fR o9 UW UH Z J WN Fu;clear s1;have J:=Bx.mk hJ3;clear hJ3;repeat' (first|refine aH @cD ?_|(first|apply ah|apply af)<;>intro c)
     refine⟨n.set.length - (k+1),by omega,k+1,rfl,by omega,J.out,DQ.out (λ_=>hinB.out),?_⟩;simp only[lk,Nat.reduceEqDiff,if_false,if_true,cD,o,p,v,w,r,V,X,A,B,D,E,G,I,and_self]
   ·refine⟨n.set.length - (k+1),by omega,k+1,rfl,by omega,J.out.root om,DQ.out (λh=>absurd h om),?_⟩;simp only[lk,Nat.reduceEqDiff,if_false,if_true,cD,o,p,v,w,r,V,X,A,B,D,E,G,I,and_self]
  ·have rO:k=n.set.length:=by omega
   subst rO;obtain⟨wF,Aj,IF,rfl⟩:=S4.out;have dO:=@bQ i om;have Dh:=R.done l (by
    rw[take_one t default l];have K:=P;refine fC.out.snoc ⟨λh=>?_,λh=>?_,GI.out.1,GI.out.2,?_,?_,?_⟩
    ·omega
    ·rw[Ix];omega
    ·have:=P.tQ;rwa[List.take_length]at this
    ·have:=P.inc;rwa[List.take_length]at this
    ·have:=P.sub;rwa[List.take_length]at this)
   clear R P S4 GI fC wF Aj IF;have g:=Bx.mk Dh;clear Dh;repeat' (first|refine aH @dO ?_|(first|apply ah|apply af)<;>intro c)
   refine⟨t.length - (i+1),by omega,i+1,F',H',rfl,by omega,g.out,?_⟩;simp only[lk,Nat.reduceEqDiff,if_false,if_true,dO,o,p,v,w,r,A,B,and_self]
 ·have eU:i=t.length:=by omega
  subst eU;clear l;have g:=Bx.mk C;clear C;repeat' (first|refine aH @kn ?_|(first|apply ah|apply af)<;>intro c)
  refine aN (λm e s=>∃ k:Nat,m=t.length - k/\k<=t.length/\VS s N t t.length F H/\(∀ j,j<k->(below t (j:Int)).length≠(t.getD j default).set.length)/\e.at 7 = .aE 2 0 t.length 1/\e.at 144=u/\e.at 145 = .int .i64 (t.length:Int)/\e.at 146 = .int .i64 (k:Int)) _
   ⟨0,rfl,by omega,g.out,λj d=>absurd d om,ef,ef,ef,by simp only[lk,Nat.reduceEqDiff,if_false,if_true];rfl⟩ ?_
  clear o p v w r A B D g c hi;clear e s;rintro m e s ⟨i,rfl,hi,C,P,r,e144,e145,e146⟩;by_cases l:i<t.length
  ·have iQ:(i:Int)<(t.length:Int):=by omega
   have kG:=λs=>Y.get l s;have fM:=Y.nd i l;have K:=fM.set;have hsetl:=K.sl.len;have uA:=K.sl.cell;have dO:=@bQ i om;have T:=λh:Tr N t=>h.2 i l;generalize Zn:t.getD i default=n at *;generalize (rs.getD i default).2.2=L at *;have hsi:(bz t.length (dU H t.length))[i]? = some (.aR (H i)):=by rw[cQ l];simp[dU,l]
   have Dh:=C.mono (s':=(s.new (.cells .mut [.int .i64 0, .int .i64 0, .aq])).put s.n (.cells .mut [.int .i64 n.name, .int .i64 n.par,L])) (by simp) λid aS=>by rw[St.az,if_neg om,St.aA,if_neg om]
   have lI:((s.new (.cells .mut [.int .i64 0, .int .i64 0, .aq])).put s.n (.cells .mut [.int .i64 n.name, .int .i64 n.par,L])).get s.n=some (.cells .mut [.int .i64 n.name, .int .i64 n.par,L]):=by rw[St.az,if_pos rfl]
   have S4:=Bx.mk (And.intro T (And.intro P Zn));clear T P Zn K;repeat' (first|refine aG (aj (@cU _ _ _ Y.sl) @kG) ?_|(first|apply ah|apply af)<;>intro c)
   generalize (s.new (.cells .mut [.int .i64 0, .int .i64 0, .aq])).put s.n (.cells .mut [.int .i64 n.name, .int .i64 n.par,L])=s1 at *;generalize s.n=b at *;have pI:=Dh.AZ;have UW:=Dh.mh.ms i l;simp only[List.take_length]at UW;have Zm:(below t (i:Int)).Nodup:=by
    have:=Dh.ok;rw[List.take_length]at this;exact this.nodup _ om
   have g:=Bx.mk Dh;clear Dh C;repeat' (first|refine aH (aj @eF (aj @pI @hsi)) ?_|(first|apply ah|apply af)<;>intro c)
   refine ud UW Zm wN ef ?_;repeat' (first|refine aH (aj @lI @dO) ?_|(first|apply ah|apply af)<;>intro c)
   ·refine⟨t.length - (i+1),by omega,i+1,rfl,by omega,g.out,λj d=>?_,?_⟩
    ·by_cases e:j=i
     ·subst e;rw[S4.out.2.2];omega
     ·exact S4.out.2.1 j om
    ·simp only[lk,Nat.reduceEqDiff,if_false,if_true,dO,r,e144,e145,and_self]
   ·refine⟨.inr trivial,?_⟩;rw[decide_eq_false λh=>S4.out.1 h om];exact ef
  ·have eU:i=t.length:=by omega
   subst eU;have fC:=C.ok;rw[List.take_length]at fC;have hT:Bx (decide (Tr N t)=true):=⟨decide_eq_true ⟨fC,P⟩⟩;clear C P fC;repeat' (first|refine aH trivial ?_|(first|apply ah|apply af)<;>intro c)
   refine⟨.inr trivial,?_⟩;rw[hT.out];exact ef
abbrev GR:=Gn × LV × Nat
def grow (r:GR):List LV:=[.int .i64 r.1.name, .int .i64 r.1.par,r.2.1, .aR r.2.2, .bool r.1.old, .bool r.1.bO, .bool r.1.gone]
theorem bY (r:GR):(grow r).length=7:=rfl
theorem oW (r:GR) (h:bf r.2.1=true):cells? (.agg (grow r))=some (grow r):=by
 have:(grow r).all bf=true:=by simp only[grow,List.all_cons,List.all_nil,Bool.and_true,h];rfl
 simp only[cells?,this,if_true]
theorem n8 (a b:Int) {v:LV}(h:bf v=true):cells? (.agg [.int .i64 a, .int .i64 b,v])=some [.int .i64 a, .int .i64 b,v]:=by
 have:[LV.int .i64 a, .int .i64 b,v].all bf=true:=by simp only[List.all_cons,List.all_nil,Bool.and_true,h];rfl
 simp only[cells?,this,if_true]
theorem zM (M:Nat):cells? (.aR M)=some [.aR M]:=rfl
theorem fq (k:IntKind) (b:Int):cells? (.int k b)=some [.int k b]:=rfl
theorem vt {s:St}{v:LV}{aZ n M:Nat}{cells:List LV}{K:List Int}(h:Sg s v aZ cells n) (hm:ey s M K):¬ aQ v M:=by
 intro a;obtain⟨_,⟨rfl,_⟩ | ⟨j,r,rfl,_,h2⟩⟩:=h
 ·exact bE M a
 ·have:=aI.1 a;subst this;obtain⟨E,h3,_⟩:=hm;rw[h2]at h3;cases h3
structure GS (s:St) (lo:Nat) (v:LV) (R:List GR):Prop where
  sg:Sg s v 7 (dm grow R) R.length
  kS:∀ r∈R,aP r.2.1 r.1.set
  mp:xe s R.length (λi=>(R.getD i default).2.2) (λi=>(R.getD i default).1.kept)
  low:(∀ id,aQ v id->lo<=id)/\∀ r∈R,lo<=r.2.2
theorem GS.nil (s:St) (a:Nat):GS s a .aq []:=⟨Sg.nil s 7,λr h=>absurd h (by simp),xe.zero _ _ _,λid h=>absurd h (bE id),λr h=>absurd h (by simp)⟩
theorem GS.mono {s s':St}{a:Nat}{v:LV}{R:List GR}(h:GS s a v R) (b:s.n<=s'.n) (c:∀ id,id<s.n->s'.get id=s.get id):GS s' a v R:=
 ⟨h.sg.mono b λid d=>c id (h.sg.lt d),h.kS,h.mp.keep b λj e=>c _ (h.mp.lt j e),h.low⟩
theorem GS.Cb {s:St}{b:Nat}{v:LV}{R:List GR}(h:GS s b v R):∀ r∈R,r.2.2<s.n:=λr c=>by
 obtain⟨i,a,rfl⟩:=List.getElem_of_mem c;have:=h.mp.lt i a;simpa[gD,a] using this
theorem GS.snoc {s s':St}{d:Nat}{v:LV}{R:List GR}(h:GS s d v R) {g:Gn}{c:LV}{M:Nat}(hm:ey s M g.kept) (m:∀ r∈R,r.2.2<M) (hl:d<=M/\M<s.n) (o:aP c g.set) {j:Nat}(u:s.n<=j) (p:Sg s' (.aE j 0 (R.length+1) 7) 7 (dm grow R++grow (g,c,M)) (R.length+1)) (q:s.n<=s'.n) (f:∀ id,id<s.n->¬ aQ v id->s'.get id=s.get id):GS s' d (.aE j 0 (R.length+1) 7) (R++[(g,c,M)]):=by
 have k:∀ i,i<R.length->(R++[(g,c,M)]).getD i default=R.getD i default:=λi b=>by simp[gD,List.getElem?_append_left b]
 have l:(R++[(g,c,M)]).getD R.length default=(g,c,M):=by simp[gD]
 refine⟨by rw[List.length_append,List.length_singleton,gh,oq];exact p,λr a=>?_,?_,λid t=>by have:=aI.1 t;omega,λr a=>?_⟩
 ·rcases List.mem_append.1 a with a | a
  ·exact h.kS r a
  ·rw[List.mem_singleton.1 a];exact o
 ·rw[List.length_append,List.length_singleton];refine h.mp.snoc (M:=M) q (λi b=>f _ (h.mp.lt i b) (vt h.sg (h.mp.ms i b))) (λi b=>?_) om (by simp only[l];exact hm.keep (f _ hl.2 (vt h.sg hm))) (λi=>?_) (λi b=>by simp only[k i b])
  ·have:=m (R.getD i default) (by rw[gD,gE b];simp);omega
  ·by_cases e:i=R.length
   ·subst e;simp only[l,if_true]
   ·rw[if_neg e];by_cases b:i<R.length
    ·simp only[k i b]
    ·have h1:(R++[(g,c,M)]).getD i default=default:=by rw[gD,List.getElem?_eq_none (by rw[List.length_append,List.length_singleton];omega)];rfl
     have h2:R.getD i default=default:=by rw[gD,List.getElem?_eq_none om];rfl
     simp only[h1,h2]
 ·rcases List.mem_append.1 a with a | a
  ·exact h.low.2 r a
  ·rw[List.mem_singleton.1 a];exact hl.1
theorem EX {α a:Type}(f:Nat->α->a) (l:List α) (x:α):(l++[x]).mapIdx f=l.mapIdx f++[f l.length x]:=by simp[List.mapIdx_append]
def Sr (N:Nat) (t:List Nd):Prop:=∀ n∈t,∀ x∈n.set,0<=x/\x<(N:Int)
theorem RE {bv:LV}{B:Bu}{K N O:LV}(hB:vo bv B K N) {t:List Nd}{rs:List (Int × Int × LV)}(z:jK O t rs) {a:Nat}(D:Sr B.next.length t) (ct:∀ q,q<B.next.length->a<(B.next.getD q []).length) (mK:∀ q,(fQ B q a).length<=1000000)
 (YW:∀ q,q<B.next.length->∀ m∈fQ B q a,0<=m.1/\m.1<B.next.length) (s:St) :
 aM Tryz.prog GL (.fn (.func 92) [] []) [bv,O, .int .i64 (a:Int)] s (λr s'=>∃ R,GS s' s.n r R/\R.map (·.1)=grown B.next.length (λq=>fQ B q a) t/\s.n<=s'.n/\∀ id,id<s.n->s'.get id=s.get id):=by
 have bV:=hB.closed;have yS:=λ(vu:LV) (set:List Int) (h1:aP vu set) (h2:∀ x∈set,0<=x/\x<B.next.length) (p:Int × Bool->Bool) (fv:LV) hp s=>HA hB h1 (a:=a) (p:=p) (fv:=fv) h2 ct mK hp s;obtain⟨rfl,hs,hn⟩:=hB;have mD:=hn.closed;have m9:=hs.closed;have BL:=z.closed;obtain⟨vs,fI⟩:=hn;have mJ:=hs.sl.cell;have nW:=fI.sl.cell;have kn:=z.sl.len;have hlm:=z.lim;have E:∀ (set:List Int) (p:Int × Bool->Bool),(∀ x∈set,0<=x/\x<(B.next.length:Int))->∀ k,k∈vz (λq=>fQ B q a) set p↔k∈canon B.next.length (vz (λq=>fQ B q a) set p):=λset p u k=>by
  rw[nO];refine⟨λh=>⟨h,?_⟩,λh=>h.1⟩;unfold vz at h;obtain⟨x,hx,h⟩:=List.mem_flatMap.1 h;obtain⟨m,hm,rfl⟩:=List.mem_map.1 h;have:=u x hx;exact YW x.toNat om m (List.mem_filter.1 hm).1
 refine bM (first:=[]) (caps:=[]) Tryz.func92 br c92 bw (aX.mono (Q:=λo e s'=>(o = .normal∨o = .jmp .ret)/\∃ R,GS s' s.n (e.at 6) R/\R.map (·.1)=grown B.next.length (λq=>fQ B q a) t/\s.n<=s'.n/\∀ id,id<s.n->s'.get id=s.get id) ?_ λo e s' P=>by
  obtain⟨h1,h2⟩:=P;exact⟨h1,_,by simp[l92,aW,bD],h2⟩)
 refine Cd.out (ev3 λe e0 e1 I=>?_);unfold l92;dsimp only[jA,jG,qN,qF,qS,qI,qA,qB,qC,qO,qJ,qX,qm,ql,qR];repeat' (first|refine aG @kn ?_|(first|apply ah|apply af)<;>intro c)
 refine aN (λm e s1=>∃ (k:Nat) (v:LV) (R:List GR),m=t.length - k/\k<=t.length/\s.n<=s1.n/\GS s1 s.n v R/\R.map (·.1)=(t.take k).map (uI B.next.length λq=>fQ B q a)/\(∀ id,id<s.n->s1.get id=s.get id)/\e.at 1=O/\e.at 2 = .int .i64 (a:Int)/\e.at 3 = .aY [.int .i64 B.L,K,N] 0/\e.at 7=v/\e.at 14=O/\e.at 15 = .int .i64 (t.length:Int)/\e.at 16 = .int .i64 (k:Int)) _
  ⟨0, .aq,[],rfl,by omega,by omega,GS.nil _ _,by simp,λid w=>rfl,ef,ef,ef,ef,ef,ef,by simp only[lk,Nat.reduceEqDiff,if_false,if_true];rfl⟩ ?_
 clear e0 e1 I;clear e;rintro m e s1 ⟨k,v,R,rfl,hk,eu,f,i,ho,e1,I,e3,e7,S,Xz,e16⟩;by_cases y:k<t.length
 ·have iN:(k:Int)<(t.length:Int):=by omega
  have T:=@bQ k om;have kG:=λs=>z.get y s;have fM:=z.nd k y;have U:=take_one t default y;have V:t.getD k default∈t:=by rw[gD,gE y];simp
  have u:=fM.set;have uA:=u.sl.cell;generalize t.getD k default=n at *;generalize (rs.getD k default).2.2=xv at *;have X:=λs=>yS xv n.set u (D n V) (λ_=>true) _ gr1_ok s;have b:=Bx.mk (And.intro f (And.intro i (And.intro ho U)));have F:((s1.new (.cells .mut [.int .i64 0, .int .i64 0, .aq])).put s1.n (.cells .mut [.int .i64 n.name, .int .i64 n.par,xv])).get s1.n=some (.cells .mut [.int .i64 n.name, .int .i64 n.par,xv]):=by rw[St.az,if_pos rfl]
  have Y:=f.mono (s':=(s1.new (.cells .mut [.int .i64 0, .int .i64 0, .aq])).put s1.n (.cells .mut [.int .i64 n.name, .int .i64 n.par,xv])) (by simp) λid w=>by rw[St.az,if_neg om,St.aA,if_neg om]
  have Z:∀ id,id<s.n->((s1.new (.cells .mut [.int .i64 0, .int .i64 0, .aq])).put s1.n (.cells .mut [.int .i64 n.name, .int .i64 n.par,xv])).get id=s.get id:=λid w=>by rw[St.az,if_neg om,St.aA,if_neg om];exact ho id w
  have jk:((s1.new (.cells .mut [.int .i64 0, .int .i64 0, .aq])).put s1.n (.cells .mut [.int .i64 n.name, .int .i64 n.par,xv])).n=s1.n+1:=rfl;have A:=Bx.mk (And.intro Y Z);clear f i ho U Y Z;repeat' (first|refine aG (aj (@cU _ _ _ z.sl) @kG) ?_|(first|apply ah|apply af)<;>intro c)
  generalize (s1.new (.cells .mut [.int .i64 0, .int .i64 0, .aq])).put s1.n (.cells .mut [.int .i64 n.name, .int .i64 n.par,xv])=s2 at *;repeat' (first|refine aG @F ?_|(first|apply ah|apply af)<;>intro c)
  refine bK wN (fv:=.fn (.func 103) [] []) (vs:=[.agg [.int .i64 B.L,K,N],xv, .int .i64 (a:Int), .fn (.func 104) [] []]) ef ef (aM.mono (X _) λr s3 P=>⟨trivial,?_⟩);obtain⟨M,rfl,hM1,G,Xn,C⟩:=P;simp only[Env.aB];have J:=(C _ om).trans F;have H:=A.out.1.mono om C;have l:=Xn.mem (E n.set (λ_=>true) (D n V));have dH:∀ r∈R,r.2.2<M:=λr D=>by have:=A.out.1.Cb r D;omega
  have SD:=H.sg;have Ak:R.length<=3000:=by
   have:=congrArg List.length b.out.2.1;simp only[List.length_map,List.length_take]at this;omega
  have d:=Bx.mk (And.intro H (And.intro l (And.intro dH u)));clear X Xn H l dH u;repeat' (first|refine aG @J ?_|(first|apply ah|apply af)<;>intro c)
  refine cC (vs:=grow (uI B.next.length (λq=>fQ B q a) n,xv,M)) wN (by simp[bt,Ws,Nat.reduceEqDiff,Nat.reduceAdd,Nat.reduceLeDiff,reduceIte,List.map,aU,n8 _ _ uA,splice,grow,uI]) ?_;refine qb (n:=R.length) (aZ:=7) (xv:=.agg (grow (uI B.next.length (λq=>fQ B q a) n,xv,M))) (yv:=v) (vs:=grow (uI B.next.length (λq=>fQ B q a) n,xv,M)) (cells:=dm grow R) ef (oW _ uA) rfl rfl (kQ.aR (M:=M) (by simp[grow])) ef SD (by decide) om (λs4 j a1 a2 a3 a4 a5 a6=>?_);have Vz:=d.out.1.snoc (g:=uI B.next.length (λq=>fQ B q a) n) d.out.2.1 d.out.2.2.1 ⟨by omega,G⟩ d.out.2.2.2 a1 a4 a5 a6;have eL:∀ id,id<s.n->s4.get id=s.get id:=λid w=>by
   rw[a6 id om λhu=>by have:=d.out.1.low.1 id hu;omega,C id om];exact A.out.2 id w
  have eg:=Bx.mk (And.intro Vz eL);clear Vz eL a3 a4 a6 d A SD J F C;repeat' (first|refine aG @T ?_|(first|apply ah|apply af)<;>intro c)
  refine⟨t.length - (k+1),by omega,k+1,_,_,rfl,by omega,by omega,eg.out.1,?_,eg.out.2,?_⟩
  ·rw[List.map_append,b.out.2.1,b.out.2.2.2,List.map_append];rfl
  ·simp only[lk,Nat.reduceEqDiff,if_false,if_true,T,e1,I,e3,S,Xz,and_self]
 ·have rO:k=t.length:=by omega
  subst rO;rw[List.take_length]at i;have b:=Bx.mk (And.intro f (And.intro i ho));clear f i ho;repeat' (first|refine aG @kn ?_|(first|apply ah|apply af)<;>intro c)
  refine aN (λm e s2=>∃ (k:Nat) (v:LV) (R:List GR),m=t.length - k/\k<=t.length/\s.n<=s2.n/\GS s2 s.n v R/\R.map (·.1)=t.map (uI B.next.length λq=>fQ B q a)++(t.take k).mapIdx (rf B.next.length λq=>fQ B q a)/\(∀ id,id<s.n->s2.get id=s.get id)/\e.at 2 = .int .i64 (a:Int)/\e.at 3 = .aY [.int .i64 B.L,K,N] 0/\e.at 7=v/\e.at 32=O/\e.at 33 = .int .i64 (t.length:Int)/\e.at 34 = .int .i64 (k:Int)) _
   ⟨0,v,R,rfl,by omega,eu,b.out.1,by rw[b.out.2.1];simp,b.out.2.2,ef,ef,ef,ef,ef,by simp only[lk,Nat.reduceEqDiff,if_false,if_true];rfl⟩ ?_
  clear e1 I e3 e7 S Xz e16 b eu y c;clear e s1 v R;rintro m e s1 ⟨k,v,R,rfl,hk,eu,f,i,ho,I,e3,e7,NW,NV,e34⟩;by_cases y:k<t.length
  ·have iN:(k:Int)<(t.length:Int):=by omega
   have T:=@bQ k om;have kG:=λs=>z.get y s;have fM:=z.nd k y;have U:=take_one t default y;have V:t.getD k default∈t:=by rw[gD,gE y];simp
   have u:=fM.set;have uA:=u.sl.cell;generalize t.getD k default=n at *;generalize (rs.getD k default).2.2=xv at *;have X:=λs=>yS xv n.set u (D n V) (λm=>m.2) _ gr2_ok s;have b:=Bx.mk (And.intro f (And.intro i (And.intro ho U)));have F:((s1.new (.cells .mut [.int .i64 0, .int .i64 0, .aq])).put s1.n (.cells .mut [.int .i64 n.name, .int .i64 n.par,xv])).get s1.n=some (.cells .mut [.int .i64 n.name, .int .i64 n.par,xv]):=by rw[St.az,if_pos rfl]
   have Y:=f.mono (s':=(s1.new (.cells .mut [.int .i64 0, .int .i64 0, .aq])).put s1.n (.cells .mut [.int .i64 n.name, .int .i64 n.par,xv])) (by simp) λid w=>by rw[St.az,if_neg om,St.aA,if_neg om]
   have Z:∀ id,id<s.n->((s1.new (.cells .mut [.int .i64 0, .int .i64 0, .aq])).put s1.n (.cells .mut [.int .i64 n.name, .int .i64 n.par,xv])).get id=s.get id:=λid w=>by rw[St.az,if_neg om,St.aA,if_neg om];exact ho id w
   have jk:((s1.new (.cells .mut [.int .i64 0, .int .i64 0, .aq])).put s1.n (.cells .mut [.int .i64 n.name, .int .i64 n.par,xv])).n=s1.n+1:=rfl;have A:=Bx.mk (And.intro Y Z);clear f i ho U Y Z;repeat' (first|refine aG (aj (@cU _ _ _ z.sl) @kG) ?_|(first|apply ah|apply af)<;>intro c)
   generalize (s1.new (.cells .mut [.int .i64 0, .int .i64 0, .aq])).put s1.n (.cells .mut [.int .i64 n.name, .int .i64 n.par,xv])=s2 at *;repeat' (first|refine aG @F ?_|(first|apply ah|apply af)<;>intro c)
   refine bK wN (fv:=.fn (.func 103) [] []) (vs:=[.agg [.int .i64 B.L,K,N],xv, .int .i64 (a:Int), .fn (.func 105) [] []]) ef ef (aM.mono (X _) λr s3 P=>⟨trivial,?_⟩);obtain⟨M,rfl,hM1,G,Xn,C⟩:=P;simp only[Env.aB];have J:=(C _ om).trans F;have H:=A.out.1.mono om C;have l:=Xn.mem (E n.set (λm=>m.2) (D n V));have dH:∀ r∈R,r.2.2<M:=λr D=>by have:=A.out.1.Cb r D;omega
   have SD:=H.sg;have Ak:R.length<=6000:=by
    have:=congrArg List.length b.out.2.1;simp only[List.length_map,List.length_append,List.length_mapIdx,List.length_take]at this;omega
   have d:=Bx.mk (And.intro H (And.intro l dH));clear X Xn H l dH u;repeat' (first|refine aG @J ?_|(first|apply ah|apply af)<;>intro c)
   refine cC (vs:=[.int .i64 0, .int .i64 (k:Int), .aq]) wN (by simp[bt,Ws,Nat.reduceAdd,Nat.reduceLeDiff,reduceIte,List.map,aU,splice]) ?_;repeat' (first|refine aG @J ?_|(first|apply ah|apply af)<;>intro c)
   refine cC (vs:=grow (rf B.next.length (λq=>fQ B q a) k n, .aq,M)) wN (by simp[bt,Ws,Nat.reduceEqDiff,Nat.reduceAdd,Nat.reduceLeDiff,reduceIte,List.map,aU,n8 (v:=.aq) _ _ rfl,splice,grow,rf]) ?_;refine qb (n:=R.length) (aZ:=7) (xv:=.agg (grow (rf B.next.length (λq=>fQ B q a) k n, .aq,M))) (yv:=v) (vs:=grow (rf B.next.length (λq=>fQ B q a) k n, .aq,M)) (cells:=dm grow R) ef (oW _ rfl) rfl rfl (kQ.aR (M:=M) (by simp[grow])) ef SD (by decide) om (λs4 j a1 a2 a3 a4 a5 a6=>?_);have C8:aP .aq (rf B.next.length (λq=>fQ B q a) k n).set:=⟨.nil,by simp[rf],λx hx=>by simp[rf]at hx⟩;have Vz:=d.out.1.snoc (g:=rf B.next.length (λq=>fQ B q a) k n) d.out.2.1 d.out.2.2 ⟨by omega,G⟩ C8 a1 a4 a5 a6;have eL:∀ id,id<s.n->s4.get id=s.get id:=λid w=>by
    rw[a6 id om λhu=>by have:=d.out.1.low.1 id hu;omega,C id om];exact A.out.2 id w
   have eg:=Bx.mk (And.intro Vz eL);clear Vz eL a3 a4 a6 d A SD J F C C8;repeat' (first|refine aG @T ?_|(first|apply ah|apply af)<;>intro c)
   refine⟨t.length - (k+1),by omega,k+1,_,_,rfl,by omega,by omega,eg.out.1,?_,eg.out.2,?_⟩
   ·have Ix:(t.take k).length=k:=by rw[List.length_take];omega
    rw[List.map_append,b.out.2.1,b.out.2.2.2,EX,Ix,List.append_assoc];rfl
   ·simp only[lk,Nat.reduceEqDiff,if_false,if_true,T,I,e3,NW,NV,and_self]
  ·have rO:k=t.length:=by omega
   subst rO;rw[List.take_length]at i;have b:=Bx.mk (And.intro f (And.intro i ho));clear f i ho;repeat' (first|refine aG trivial ?_|(first|apply ah|apply af)<;>intro c)
   refine⟨.inr trivial,R,?_,b.out.2.1,eu,b.out.2.2⟩;simp only[lk,Nat.reduceEqDiff,if_false,if_true];exact b.out.1
theorem G4 {j k:LV}{B:Bu}{o p:LV}(hB:vo j B o p) {t:List Nd}{rs:List (Int × Int × LV)}(h:jK k t rs):PO 91 [j,k] (.bool (decide (Vb B/\t.length<=B.next.length/\Tr B.next.length t))):=by
 have q:=hB.closed;have r:=h.closed;have a:=oa hB;obtain⟨rfl,hs,l⟩:=hB;have u:=hs.closed;have v:=l.closed;obtain⟨vs,m⟩:=l;have c:=m.sl.len;have w:=hs.sl.cell;have x:=m.sl.cell;have d:=h.sl.len;refine gO (t:=4) hm Tryz.func91 br c91 bw (by simp[LV.closed.au,q,r]) rfl rfl ?_;refine mH λe y z=>?_;unfold l91;dsimp only[jA,jD,qM,qL,qN,qF,qS,qK,qO,qV,qG,qm,qR];by_cases b:Vb B
 ·have i:=b.2.2.1;have n:=K9 h i;rw[decide_eq_true b]at a;by_cases hl:t.length<=B.next.length
  ·have f:decide (Vb B/\t.length<=B.next.length/\Tr B.next.length t)=decide (Tr B.next.length t):=by simp[b,hl]
   rw[f];generalize Tr B.next.length t=s at *;generalize decide s=A at *;clear f b;repeat' (first|refine aH (aj @d @c) ?_|(first|apply ah|apply af)<;>intro g)
   refine dx a ?_;clear a;repeat' (first|refine aH (aj @d @c) ?_|(first|apply ah|apply af)<;>intro g)
   refine tq ff n (wG ef) ef trivial ?_;repeat' (first|refine aH trivial ?_|(first|apply ah|apply af)<;>intro g)
   exact⟨.inr trivial,ef⟩
  ·have f:Bx (decide (Vb B/\t.length<=B.next.length/\Tr B.next.length t)=false):=⟨by simp[hl]⟩;clear n b;repeat' (first|refine aH (aj @d @c) ?_|(first|apply ah|apply af)<;>intro g)
   refine dx a ?_;clear a;repeat' (first|refine aH (aj @d @c) ?_|(first|apply ah|apply af)<;>intro g)
   refine⟨.inr trivial,?_⟩;rw[f.out];exact ef
 ·have f:Bx (decide (Vb B/\t.length<=B.next.length/\Tr B.next.length t)=false):=⟨by simp[b]⟩;rw[decide_eq_false b]at a;clear b;repeat' (first|refine aH (aj @d @c) ?_|(first|apply ah|apply af)<;>intro g)
  refine dx a ?_;clear a;repeat' (first|refine aH (aj @d @c) ?_|(first|apply ah|apply af)<;>intro g)
  refine⟨.inr trivial,?_⟩;rw[f.out];exact ef
theorem Lb {c:LV}{B:Bu}{i j:LV}(hB:vo c B i j) (a:Vb B):PO 50 [c] (.int .i64 ((2*B.next.length:Nat):Int)):=by
 have k:=hB.closed;have b:=oa hB;obtain⟨rfl,hs,d⟩:=hB;have n:=hs.closed;have o:=d.closed;obtain⟨vs,f⟩:=d;have g:=f.sl.len;have p:=hs.sl.cell;have q:=f.sl.cell;have l:=a.2.2.1;have h:IntKind.i64.wrap (2*(B.next.length:Int))=((2*B.next.length:Nat):Int):=by rw[wrap_i64 _ om om];rfl
 rw[decide_eq_true a]at b;clear a;refine gO (t:=2) hm Tryz.func50 br c50 bw (by simp[LV.closed.au,k]) rfl rfl ?_;refine pg λe r=>?_;unfold l50;dsimp only[jA,qN,qF,qS,qC,qO,qT,qG,qm,ql,qR];repeat' (first|refine aH @g ?_|(first|apply ah|apply af)<;>intro m)
 refine dx b ?_;clear b;repeat' (first|refine aH (aj @g @h) ?_|(first|apply ah|apply af)<;>intro m)
 exact⟨.inr trivial,by rw[<- h];exact ef⟩
def xj (B:Bu):List Nd:=if B.start=[] then [] else [⟨1,-1,B.start⟩]
theorem La {m:LV}{B:Bu}{z A:LV}(hB:vo m B z A) (o:Vb B) (hl:B.start.length<=64):PE 21 [m] (λv=>∃ rs,jK v (xj B) rs):=by
 have C:=hB.closed;have a:=oa hB;obtain⟨rfl,hs,p⟩:=hB;have J:=hs.closed;have K:=p.closed;have D:=K2 hs hl;obtain⟨vs,E⟩:=p;have q:=hs.sl.len;have L:=hs.sl.cell;have M:=E.sl.cell;rw[decide_eq_true o]at a;clear o;refine dS Tryz.func21 br c21 bw (by simp[LV.closed.au,C]) ?_;refine pg λe N=>?_;unfold l21;dsimp only[jA,jC,qL,qN,qF,qS,qO,qP,qH,qT,qX,qG,qm,ql,qR];have s:Bx (B.start=[]↔B.start.length=0):=⟨List.length_eq_zero_iff.symm⟩;repeat' (first|refine aH @q ?_|(first|apply ah|apply af)<;>intro b)
 refine dx a ?_;clear a;repeat' (first|refine aH @q ?_|(first|apply ah|apply af)<;>intro b)
 ·refine cK ff D wN ef λr t F=>⟨trivial,?_⟩;simp only[Env.aB];have c:=t.sl.cell;repeat' (first|refine aH @c ?_|(first|apply ah|apply af)<;>intro b)
  have G:cells? (.agg [.int .i64 1, .int .i64 (-1),r])=some [.int .i64 1, .int .i64 (-1),r]:=by
   have:[LV.int .i64 1, .int .i64 (-1),r].all bf=true:=by simp only[List.all_cons,List.all_nil,Bool.and_true,c];rfl
   simp only[cells?,this,if_true]
  have H:cells? r=some [r]:=by
   revert c;cases r<;>simp[bf,cells?]
  refine cC (vs:=[.int .i64 1, .int .i64 (-1),r]) wN (by simp only[bt,List.map,lk,dM,Nat.reduceEqDiff,if_false,if_true,List.map];simp[aU,H,splice,show ∀ (k:IntKind) (x:Int),cells? (.int k x)=some [.int k x] from λ_ _=>rfl]) ?_;refine iw (v:=.aE St.empty.n 0 1 3) (s':=St.empty.new (.cells .mut [.int .i64 1, .int .i64 (-1),r])) (by
   simp only[bq.run,bt,List.map,lk,dM,rH,Nat.reduceEqDiff,if_false,if_true,List.map];simp[aU,G,splice,rep]) ?_
  have u:ek (St.empty.new (.cells .mut [.int .i64 1, .int .i64 (-1),r])) (.aE St.empty.n 0 1 3) 3 [.int .i64 1, .int .i64 (-1),r] 1:=⟨rfl, .inr ⟨_,rfl,by omega,by simp,by rw[St.aA,if_pos rfl]⟩⟩;obtain⟨x,f,w⟩:=FV.row (T:=λ_=>True) (d:=0) u (by simp[LV.closed.au,LV.closed,F]) (λ_ _=>trivial);obtain⟨s',y,-⟩:=rS om f;generalize St.empty.new (.cells .mut [.int .i64 1, .int .i64 (-1),r])=s1 at *;have g:=Bx.mk (And.intro y (And.intro f w));clear y f w u;repeat' (first|refine aH trivial ?_|(first|apply ah|apply af)<;>intro b)
  refine⟨.inr trivial, .aE St.empty.n 0 1 3,by simp[aW,bD],x,s',g.out.1,g.out.2.1.closed,[(1,-1,r)],?_⟩;have dB:B.start≠[]:=λh=>by
   have:=s.out.1 h;omega
  have j:xj B=[⟨1,-1,B.start⟩]:=by unfold xj;rw[if_neg dB]
  rw[j];refine⟨by simpa[dm,eO] using g.out.2.2,rfl,by simp,λi l=>?_⟩;have I:i=0:=by simp at l;omega
  subst I;exact⟨rfl,rfl,t,by unfold bU;simp,by unfold bU;simp⟩
 ·have dB:B.start=[]:=s.out.2 om;have j:xj B=[]:=by unfold xj;rw[if_pos dB]
  rw[j];refine⟨.inr trivial, .aq,by simp[aW,bD], .aq,_,bk rfl,rfl,[],?_⟩;exact⟨.nil,rfl,by simp,λi l=>absurd l (by simp)⟩
end Go.Proofs.YtkbiecjdcjfhaaaGreat
end
