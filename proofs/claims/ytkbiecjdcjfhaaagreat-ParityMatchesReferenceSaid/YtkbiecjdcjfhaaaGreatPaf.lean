/- parity's search: what the letters make of a tree. -/
import Derived.Test.YtkbiecjdcjfhaaaGreatPsr
set_option linter.unusedSimpArgs false
set_option linter.unusedVariables false
set_option maxRecDepth 100000
set_option maxHeartbeats 16000000
section
namespace Go.Proofs.YtkbiecjdcjfhaaaGreat
open Go Go.Pv Go.pR
open Classical
theorem To {B:Bu}(g:B.next.length<=10) (t:List Nd) (a:Nat):TrB (kz B t a):=by
 by_cases d:EP B t
 ·have f:=Kf (zH (F8 (KT (mv:=λq=>fQ B q a) d.2 (by omega))));have e:kz B t a=leave (cW B.next.length (λq=>fQ B q a) t):=by unfold kz;rw[if_pos d];rfl
  have h:(cW B.next.length (λq=>fQ B q a) t).length=2*t.length:=by
   unfold cW named;rw[qh];unfold aJ aD;rw[cI,cI];simp[grown];omega
  have i:=d.1;rw[e];have c:∀ n∈cW B.next.length (λq=>fQ B q a) t,Gp _ n:=f.2;generalize cW B.next.length (λq=>fQ B q a) t=l at *;refine⟨?_,λn b=>?_,λn b=>?_⟩
  ·unfold leave;rw[List.length_map];have:=List.length_filter_le (λn:Gn=>!n.gone) l;omega
  ·obtain⟨m,hm,rfl⟩:=List.mem_map.1 b;exact (c m (List.mem_filter.1 hm).1).len
  ·obtain⟨m,hm,rfl⟩:=List.mem_map.1 b;have:=Bp l m.par (c m (List.mem_filter.1 hm).1).par;show -1<=place l m.par/\place l m.par<=6000;omega
 ·have e:kz B t a=[]:=by unfold kz;rw[if_neg d]
  rw[e];exact⟨by simp,λn b=>absurd b (by simp),λn b=>absurd b (by simp)⟩
noncomputable def jh (B:Bu) (ts:List (List Nd)) (t:List Nd):Nat->List (List Nd)
 | 0=>ts
 | a+1=>gY cq (jh B ts t a) (kz B t a)
theorem Mi {α:Type}(key:α->List UInt8) (l:List α) (x:α):dw key (gY key l x) (key x)=dw key l (key x):=by
 unfold gY;split
 ·rfl
 ·rename_i h;have h1:=rN key l (key x);unfold dw at *;rw[List.findIdx_append,if_neg h];simp;omega
theorem se (B:Bu) (ts:List (List Nd)) (t:List Nd) (a b:Nat):∃ m,jh B ts t (a+b)=jh B ts t a++m/\m.length<=b:=by
 induction b with
 | zero=>exact⟨[],by simp,by simp⟩
 | succ b ih=>
   obtain⟨m,h1,h2⟩:=ih;obtain⟨c,h3,d⟩:=uX cq (jh B ts t (a+b)) (kz B t (a+b));refine⟨m++c,?_,by simp;omega⟩;show gY cq (jh B ts t (a+b)) (kz B t (a+b))=_;rw[h3,h1,List.append_assoc]
theorem xS (B:Bu) (ts:List (List Nd)) (t:List Nd) {a b:Nat}(h:a<b):dw cq (jh B ts t b) (cq (kz B t a))=dw cq (jh B ts t a) (cq (kz B t a))/\dw cq (jh B ts t b) (cq (kz B t a))<(jh B ts t b).length:=by
 have h1:=Mi cq (jh B ts t a) (kz B t a);have h2:=Qq cq (jh B ts t a) (kz B t a);obtain⟨m,h3,-⟩:=se B ts t (a+1) (b - (a+1));rw[show a+1+(b - (a+1))=b by omega]at h3;have c:jh B ts t (a+1)=gY cq (jh B ts t a) (kz B t a):=rfl;rw[h3,c,Ff _ _ _ _ (by rw[h1];exact h2),h1];exact⟨rfl,by rw[List.length_append];omega⟩
theorem Sq (B:Bu) (ts:List (List Nd)) (t:List Nd) (n:Nat) (h:∀ a,a<n->dw cq ts (cq (kz B t a))<ts.length):jh B ts t n=ts:=by
 induction n with
 | zero=>rfl
 | succ n ih=>
   show gY cq (jh B ts t n) (kz B t n)=ts;rw[ih λa b=>h a (by omega)];unfold gY;rw[if_pos (h n (by omega))]
theorem G1 {α:Type} [Inhabited α] (row:α->List LV) (l:List α):dm row l=dN l.length λi=>row (l.getD i default):=by
 unfold dm dN;rw[List.flatMap_def];congr 1;apply List.ext_getElem?;intro i;by_cases h:i<l.length
 ·rw[List.getElem?_map,List.getElem?_map,gE h,List.getElem?_range h];simp[gD,h]
 ·rw[List.getElem?_eq_none (by simpa using h),List.getElem?_eq_none (by simpa using h)]
theorem Cz {n:Nat}{f g:Nat->List LV}(h:∀ i,i<n->f i=g i):dN n f=dN n g:=by
 unfold dN;congr 1;exact List.map_congr_left λi a=>h i (List.mem_range.1 a)
section
variable {s s':St}{Z:Nat}{B:Bu}{sv nv:LV}{most:Int}{ts:List (List Nd)}{xs:List (Nat × List Int)}{O F:Nat->Prop}{tv pv xv:LV}{TN SN:Nat}{td mQ:List LV}{xr:List (Nat × LV)}
theorem SX.memo (h:SX s Z B sv nv most ts xs O F tv pv xv TN SN td mQ xr) {n j jp:Nat}{rows:List (Nat × LV × LV)}(z:n<ts.length) (r:pv = .aE jp 0 ts.length 1) (b:¬ O j) (u:j<s.n) (A:s.get j=some (.cells .mut (dm pF rows))) (hm:Dv s B ts (ts.getD n []) (.aE j 0 rows.length 3)) (C:s'.n=s.n) (v:s'.get jp=some (.cells .mut (mQ.set n (.aE j 0 rows.length 3)))) (ho:∀ id,id≠jp->s'.get id=s.get id) :
 SX s' Z B sv nv most ts xs (λid=>O id∨id=j) (λid=>F id∨id=j) tv pv xv TN SN td (mQ.set n (.aE j 0 rows.length 3)) xr:=by
 subst r;have f:aQ (.aE jp 0 ts.length 1) jp:=aI.2 rfl;have c:=h.ou jp (.inr (.inl f));have w:j≠jp:=λe=>b (e ▸ c.1);have q:mQ.length=ts.length:=by have:=h.p.1;omega
 have k:TN≠jp:=λe=>ek.iS h.p h.tn (e ▸ f);have l:SN≠jp:=λe=>ek.iS h.p h.sn (e ▸ f);have y:∀ id,O id->id≠j:=λid ho e=>b (e ▸ ho);refine⟨(ho Z (λe=>c.2 e.symm)).trans h.dR,h.t.mono (by omega) λid a=>ho id λe=>h.d1 id a (e ▸ f),⟨by rw[List.length_set];exact h.p.1, .inr ⟨jp,rfl,by omega,by have:=h.ol jp c.1;omega,v⟩⟩,h.x.mono (by omega) λid a=>ho id λe=>h.d3 jp f (e ▸ a),(ho TN k).trans h.tn,(ho SN l).trans h.sn,h.tt,λi g=>?_,h.xl,h.xx,⟨.inl h.oZ.1, .inl h.oZ.2.1, .inl h.oZ.2.2⟩,λid a=>⟨.inl (h.ou id a).1,(h.ou id a).2⟩,λi g id a=>?_,λid m=>?_,λid o=>?_,h.d1,h.d2,h.d3,h.ne⟩
 ·by_cases e:i=n
  ·subst e;have d:(mQ.set i (.aE j 0 rows.length 3)).getD i .top = .aE j 0 rows.length 3:=by simp[gD,q,g]
   rw[d];exact hm.keep λid a=>ho id (by have:=aI.1 a;omega)
  ·have d:(mQ.set n (.aE j 0 rows.length 3)).getD i .top=mQ.getD i .top:=by simp[gD,List.getElem?_set_ne (Ne.symm e)]
   rw[d];exact (h.pm i g).keep λid a=>ho id λe=>(h.fo id (h.om i g id a)).2.2.2.2.2.1 (e ▸ f)
 ·by_cases e:i=n
  ·subst e;have d:(mQ.set i (.aE j 0 rows.length 3)).getD i .top = .aE j 0 rows.length 3:=by simp[gD,q,g]
   rw[d]at a;exact .inr (aI.1 a)
  ·have d:(mQ.set n (.aE j 0 rows.length 3)).getD i .top=mQ.getD i .top:=by simp[gD,List.getElem?_set_ne (Ne.symm e)]
   rw[d]at a;exact .inl (h.om i g id a)
 ·rcases m with m | rfl
  ·have:=h.fo id m;exact⟨.inl this.1,this.2⟩
  ·exact⟨.inr rfl,λe=>b (e ▸ h.oZ.1),λe=>b (e ▸ h.oZ.2.1),λe=>b (e ▸ h.oZ.2.2),λa=>b (h.ou _ (.inl a)).1,λa=>b (h.ou _ (.inr (.inl a))).1,λa=>b (h.ou _ (.inr (.inr a))).1⟩
 ·rcases o with o | rfl
  ·have:=h.ol id o;omega
  ·omega
end
theorem Tt {s:St}{Z:Nat}{B:Bu}{sv nv:LV}{most:Int}{ts:List (List Nd)}{xs:List (Nat × List Int)}{O F:Nat->Prop}(hB:vo (.agg [.int .i64 B.L,sv,nv]) B sv nv) (hv:Vb B) (hN:B.next.length<=10) (mK:∀ q a,(fQ B q a).length<=1000000) (hS:SR s Z B sv nv most ts xs O F) {n:Nat}(hn:n<ts.length) (ia:ts.length<=90000) :
 aM Tryz.prog GL (.fn (.func 52) [] []) [.aO Z 0, .int .i64 (n:Int)] s (λr s'=>∃ T U j rows,SR s' Z B sv nv most (jh B ts (ts.getD n []) B.L.toNat) xs T U/\(∀ id,F id->U id)/\(∀ id,O id->T id)/\(∀ id,T id->O id∨s.n<=id)/\r = .aE j 0 rows.length 3/\U j/\s'.get j=some (.cells .mut (dm pF rows))/\(rows.length:Int)=B.L /\
  (∀ a,a<rows.length->(rows.getD a default).1=dw cq (jh B ts (ts.getD n []) B.L.toNat) (cq (kz B (ts.getD n []) a))/\(rows.getD a default).1<(jh B ts (ts.getD n []) B.L.toNat).length/\aP (rows.getD a default).2.1 (Ap B (ts.getD n []) a)/\aP (rows.getD a default).2.2 (Aq B (ts.getD n []) a)) /\
  s.n<=s'.n/\(∀ id,F id->s'.get id=s.get id)/\∀ id,id<s.n->¬ O id->s'.get id=s.get id):=by
 obtain⟨tv,pv,xv,TN,SN,td,mQ,xr,w⟩:=hS;have hL1:=hv.1;have Vx:=hv.2.1;obtain⟨b,S6⟩:∃ b:Nat,B.L=(b:Int):=⟨B.L.toNat,by omega⟩;have hLt:B.L.toNat=b:=by omega
 rw[hLt];refine bM (first:=[]) (caps:=[]) Tryz.func52 br c52 bw (aX.mono (Q:=λo e s'=>(o = .normal∨o = .jmp .ret)/\∃ T U j rows,SR s' Z B sv nv most (jh B ts (ts.getD n []) b) xs T U/\(∀ id,F id->U id)/\(∀ id,O id->T id)/\(∀ id,T id->O id∨s.n<=id)/\e.at 4 = .aE j 0 rows.length 3/\U j/\s'.get j=some (.cells .mut (dm pF rows))/\(rows.length:Int)=B.L /\
    (∀ a,a<rows.length->(rows.getD a default).1=dw cq (jh B ts (ts.getD n []) b) (cq (kz B (ts.getD n []) a))/\(rows.getD a default).1<(jh B ts (ts.getD n []) b).length/\aP (rows.getD a default).2.1 (Ap B (ts.getD n []) a)/\aP (rows.getD a default).2.2 (Aq B (ts.getD n []) a)) /\
    s.n<=s'.n/\(∀ id,F id->s'.get id=s.get id)/\∀ id,id<s.n->¬ O id->s'.get id=s.get id) ?_ λo e s' hh=>by
  obtain⟨h1,h2⟩:=hh;exact⟨h1,_,by simp[l52,aW,bD],h2⟩)
 refine Cd.out (mH λe e0 e1=>?_);unfold l52;dsimp only[jA,jB,jG,jH,qM,qL,qN,qF,qS,qI,qA,qB,qC,qD,qX,qY,qm,ql,qR];have ic:=w.dR;have hnI:(n:Int)<(ts.length:Int):=by omega
 obtain⟨jp,NG,hjp,DL⟩:=w.p.pos (by omega);subst NG;have nU:mQ.length=ts.length:=by have:=w.p.1;omega
 have NH:mQ[n]? = some (mQ.getD n .top):=by rw[gD,gE (by omega)];rfl
 have htvc:=w.t.cell;have hxvc:=w.x.cell;rcases w.pm n hn with C8 | ⟨j,rows,ct,hrg,fX,QD⟩
 ·rw[C8]at NH;have c:=Bx.mk w;repeat' (first|refine aH (aj @ic (aj @eF (aj @DL (aj @NH @S6)))) ?_|(first|apply ah|apply af)<;>intro C)
  refine u_mkR (n:=b) (k:=s.n) (m:=3) wN rfl ef ef (by omega) (by decide) rfl ?_;have ng:∀ id,id<s.n->(s.new (.cells .mut (dN b λ_=>[.int .i64 0, .aq, .aq]))).get id=s.get id:=λid d=>by rw[St.aA,if_neg (by omega)]
  have V:(s.new (.cells .mut (dN b λ_=>[.int .i64 0, .aq, .aq]))).get s.n=some (.cells .mut (dN b λ_=>[.int .i64 0, .aq, .aq])):=by rw[St.aA,if_pos rfl]
  have eu:(s.new (.cells .mut (dN b λ_=>[.int .i64 0, .aq, .aq]))).n=s.n+1:=rfl;have g:=w.keep (s':=s.new (.cells .mut (dN b λ_=>[.int .i64 0, .aq, .aq]))) (by omega) λid d=>ng id (w.ol id d);generalize s.new (.cells .mut (dN b λ_=>[.int .i64 0, .aq, .aq]))=s1 at *;generalize hte:ts.getD n []=t at *;repeat' (first|refine aH trivial ?_|(first|apply ah|apply af)<;>intro C)
  refine aN (λm e s1=>∃ (k:Nat) (X:Nat->Prop) (y:Nat->Nat × LV × LV),m=b - k/\k<=b/\SR s1 Z B sv nv most (jh B ts t k) xs X F/\(∀ id,O id->X id)/\(∀ id,X id->O id∨s.n<=id)/\¬ X s.n/\s.n<s1.n/\s1.get s.n=some (.cells .mut (dN b λa=>if a<k then pF (y a) else [.int .i64 0, .aq, .aq])) /\
   (∀ a,a<k->(y a).1=dw cq (jh B ts t a) (cq (kz B t a))/\aP (y a).2.1 (Ap B t a)/\aP (y a).2.2 (Aq B t a))/\(∀ id,F id->s1.get id=s.get id)/\(∀ id,id<s.n->¬ O id->s1.get id=s.get id)/\e.at 0 = .aO Z 0/\e.at 1 = .int .i64 (n:Int)/\e.at 5 = .aE s.n 0 b 3/\e.at 23 = .aE s.n 0 b 3/\e.at 24 = .int .i64 (b:Int)/\e.at 25 = .int .i64 (k:Int)) _
   ⟨0,O,λ_=>default,rfl,by omega,⟨_,_,_,_,_,_,_,_,g⟩,λid h=>h,λid h=>.inl h,λh=>by have:=w.ol _ h;omega,by omega,by simpa using V,λa ha=>absurd ha (by omega),λid G=>ng id (w.ol id (w.fo id G).1),λid d _=>ng id d,ef,ef,ef,ef,ef,by simp only[lk,Nat.reduceEqDiff,if_false,if_true];rfl⟩ ?_
  clear e0 e1 g V ng eu ic DL NH c;clear e s1;rintro m e s1 ⟨k,X,y,rfl,hk,mE,hO1,D,Xm,eu,V,C1,KS,fG,e0,e1,e5,F7,e24,e25⟩;obtain⟨tv1,pv1,xv1,TN1,SN1,Oq,E,xr1,g⟩:=mE;obtain⟨mm,NJ,xD⟩:=se B ts t 0 k;rw[Nat.zero_add]at NJ;have UU:jh B ts t k=ts++mm:=NJ;have WZ:n<(jh B ts t k).length:=by rw[UU,List.length_append];omega
  have hlk:(jh B ts t k).length<=90064:=by rw[UU,List.length_append];omega
  have DI:(jh B ts t k).getD n []=t:=by
   rw[UU,<- hte,gD,List.getElem?_append_left hn,<- gD]
  have hnI1:(n:Int)<((jh B ts t k).length:Int):=by omega
  have htnB:=Bx.mk DI;clear NJ UU xD;by_cases cG:k<b
  ·have iN:(k:Int)<(b:Int):=by omega
   have cD:=@bQ k (by omega);obtain⟨rs,Qx⟩:=g.tt n WZ;rw[DI]at Qx;clear DI;obtain⟨jt,htv,hjt,Y⟩:=g.t.pos (by omega);subst htv;have kn:Oq.length=(jh B ts t k).length:=by have:=g.t.1;omega
   have H:Oq[n]? = some (Oq.getD n .top):=by rw[gD,gE (by omega)];rfl
   have mU:=On hB hv (by omega) Qx (a:=k) (by omega) λq=>mK q k;have zj:=g.dR;have mJ:bf sv=true:=by obtain⟨_,h1,_⟩:=hB;exact h1.sl.cell
   have nW:bf nv=true:=by obtain⟨_,_,_,h2⟩:=hB;exact h2.sl.cell
   generalize Oq.getD n .top=tvn at *;have c:=Bx.mk g;have A:=Bx.mk (And.intro C1 (And.intro KS (And.intro fG V)));clear g C1 KS fG V;repeat' (first|refine aH (aj @zj (aj @eF (aj @Y (aj @H @S6)))) ?_|(first|apply ah|apply af)<;>intro C)
   have hZ1:=c.out.ol Z c.out.oZ.1;have wD:(s1.new (.cells .mut [.aq, .aq])).get Z=some (.cells .mut [.int .i64 B.L,sv,nv, .int .i64 most, .aE jt 0 (jh B ts t k).length 1,pv1, .aR TN1,xv1, .aR SN1]):=by rw[St.aA,if_neg (by omega)];exact zj
   have I:(s1.new (.cells .mut [.aq, .aq])).get jt=some (.cells .mut Oq):=by rw[St.aA,if_neg (by omega)];exact Y
   have hnb2:(s1.new (.cells .mut [.aq, .aq])).get s1.n=some (.cells .mut [.aq, .aq]):=by rw[St.aA,if_pos rfl]
   have J:∀ id,id<s1.n->(s1.new (.cells .mut [.aq, .aq])).get id=s1.get id:=λid d=>by rw[St.aA,if_neg (by omega)]
   have jk:(s1.new (.cells .mut [.aq, .aq])).n=s1.n+1:=rfl;refine j7 (v:=.aO s1.n 0) (s':=s1.new (.cells .mut [.aq, .aq])) rfl rfl rfl ⟨.inr ⟨rfl,by simp[bq.run,rH,Nat.reduceEqDiff,Nat.reduceAdd,Nat.reduceLeDiff,reduceIte,bG,Env.aB,wD,bG,S6]⟩, .inr ⟨rfl,by simp[bq.run,rH,Nat.reduceEqDiff,Nat.reduceAdd,reduceIte,bG,Env.aB,wD,bG]⟩, .inr ⟨rfl,by simp[bq.run,rH,Nat.reduceEqDiff,reduceIte,bG,Env.aB,I,bG,H]⟩,trivial⟩ ?_;simp only[Env.aB];have DP:=c.out.keep (s':=s1.new (.cells .mut [.aq, .aq])) (by omega) λid d=>J id (c.out.ol id d);generalize s1.new (.cells .mut [.aq, .aq])=s2 at *;have gP:=Bx.mk (And.intro DP J);clear DP J wD I zj Y;refine cK ff mU wN (by simp only[List.map,lk,Nat.reduceEqDiff,if_false,if_true,List.map,S6]) λr hr qu=>⟨trivial,?_⟩;simp only[Env.aB];obtain⟨DB,l,u,iJ,rfl,K,AO,hbi⟩:=hr;have SP:=AO.sl.cell;have Rn:=hbi.sl.cell;have htc':=K.sl.cell;clear mU;repeat' (first|refine aH trivial ?_|(first|apply ah|apply af)<;>intro C)
   have QN:(s2.put s1.n (.cells .mut [l,u])).get s1.n=some (.cells .mut [l,u]):=by rw[St.az,if_pos rfl]
   have KI:∀ id,id≠s1.n->(s2.put s1.n (.cells .mut [l,u])).get id=s2.get id:=λid d=>by rw[St.az,if_neg d]
   have o9:(s2.put s1.n (.cells .mut [l,u])).n=s2.n:=rfl;have hnO:¬ X s1.n:=λh=>by have:=c.out.ol _ h;omega
   have KQ:=gP.out.1.keep (s':=s2.put s1.n (.cells .mut [l,u])) (by omega) λid d=>KI id λe=>hnO (e ▸ d);generalize s2.put s1.n (.cells .mut [l,u])=s3 at *;have M:=Jz ⟨_,_,_,_,_,_,_,_,KQ⟩ K (To hN t k) (by omega);have Vq:=Bx.mk (And.intro KQ KI);clear KQ KI;repeat' (first|refine aH @QN ?_|(first|apply ah|apply af)<;>intro C)
   refine bK wN (fv:=.fn (.func 49) [] []) (vs:=[.aO Z 0,DB]) ef ef (aM.mono M λx s4 hh=>?_);obtain⟨rfl,hS4,od,Xq,fD⟩:=hh;have hnb4:s4.get s1.n=some (.cells .mut [l,u]):=(fD _ (by omega) hnO).trans QN;refine⟨⟨.inr ⟨rfl,by simp[bq.run,rH,Nat.reduceEqDiff,Nat.reduceAdd,reduceIte,bG,Env.aB,hnb4,bG]⟩,trivial⟩,?_⟩;simp only[Env.aB];have AT:=Bx.mk (And.intro hS4 (And.intro Xq fD));clear M hS4 Xq fD;have hcg:cells? (.agg [l,u])=some [l,u]:=by
    have:[l,u].all bf=true:=by simp only[List.all_cons,List.all_nil,Bool.and_true,SP,Rn]
    simp only[cells?,this,if_true]
   refine cC (vs:=pF (dw cq (jh B ts t k) (cq (kz B t k)),l,u)) wN (by
    simp only[bt,List.map,lk,Nat.reduceEqDiff,if_false,if_true,List.map];simp[aU,hcg,fq,splice,pF]) ?_
   repeat' (first|refine aH @eF ?_|(first|apply ah|apply af)<;>intro C)
   have nY:s4.get s.n=some (.cells .mut (dN b λa=>if a<k then pF (y a) else [.int .i64 0, .aq, .aq])):=by
    rw[AT.out.2.2 s.n (by omega) Xm,Vq.out.2 s.n (by omega),gP.out.2 s.n eu];exact A.out.2.2.2
   have KL:cells? (.agg (pF (dw cq (jh B ts t k) (cq (kz B t k)),l,u)))=some (pF (dw cq (jh B ts t k) (cq (kz B t k)),l,u)):=by
    have:(pF (dw cq (jh B ts t k) (cq (kz B t k)),l,u)).all bf=true:=by simp only[pF,List.all_cons,List.all_nil,Bool.and_true,SP,Rn];rfl
    simp only[cells?,this,if_true]
   refine OX (i:=s.n) (q:=k) (n:=b) (m:=3) (f:=λa=>if a<k then pF (y a) else [.int .i64 0, .aq, .aq]) (f':=λa=>if a<k+1 then pF (if a=k then (dw cq (jh B ts t k) (cq (kz B t k)),l,u) else y a) else [.int .i64 0, .aq, .aq]) ef ef KL rfl nY (λi=>by split<;>rfl) cG (λj=>by
    by_cases e:j=k
    ·subst e;simp
    ·by_cases e2:j<k
     ·simp[e,e2,show j<k+1 by omega]
     ·simp[e,e2,show ¬ j<k+1 by omega]) (λs5 vI qQ eL=>?_)
   have hsr:SR s5 Z B sv nv most (jh B ts t (k+1)) xs (λid=>X id∨s3.n<=id/\id<s4.n) F:=by
    obtain⟨a1,a2,a3,a4,a5,a6,a7,a8,Z8⟩:=AT.out.1;exact⟨a1,a2,a3,a4,a5,a6,a7,a8,Z8.keep (by omega) λid d=>eL id λe=>by
     rcases d with d | d
     ·exact Xm (e ▸ d)
     ·omega⟩
   have N:∀ a,a<k+1->((λa=>if a=k then (dw cq (jh B ts t k) (cq (kz B t k)),l,u) else y a) a).1=dw cq (jh B ts t a) (cq (kz B t a))/\aP ((λa=>if a=k then (dw cq (jh B ts t k) (cq (kz B t k)),l,u) else y a) a).2.1 (Ap B t a)/\aP ((λa=>if a=k then (dw cq (jh B ts t k) (cq (kz B t k)),l,u) else y a) a).2.2 (Aq B t a):=λa ha=>by
    by_cases e:a=k
    ·subst e;simp only[if_true];exact⟨trivial,AO,hbi⟩
    ·simp only[if_neg e];exact A.out.1 a (by omega)
   have xF:(∀ id,F id->s5.get id=s.get id)/\∀ id,id<s.n->¬ O id->s5.get id=s.get id:=by
    refine⟨λid G=>?_,λid h1 h2=>?_⟩
    ·have hfo:=(c.out.fo id G).1;have dH:=c.out.ol id hfo;rw[eL id (λe=>Xm (e ▸ hfo)),AT.out.2.1 id G,Vq.out.2 id (by omega),gP.out.2 id dH];exact A.out.2.1 id G
    ·rw[eL id (by omega),AT.out.2.2 id (by omega) (λh=>by rcases D id h with h | h;exact h2 h;omega),Vq.out.2 id (by omega),gP.out.2 id (by omega)];exact A.out.2.2.1 id h1 h2
   have eg:=Bx.mk (And.intro hsr (And.intro N (And.intro qQ xF)));clear hsr N qQ xF eL AT Vq gP c A nY;repeat' (first|refine aH @cD ?_|(first|apply ah|apply af)<;>intro C)
   refine⟨b - (k+1),by omega,k+1,_,_,rfl,by omega,eg.out.1,λid h=>.inl (hO1 id h),λid h=>?_,λh=>?_,by omega,eg.out.2.2.1,eg.out.2.1,eg.out.2.2.2.1,eg.out.2.2.2.2,?_⟩
   ·rcases h with h | h
    ·exact D id h
    ·right;omega
   ·rcases h with h | h
    ·exact Xm h
    ·omega
   ·simp only[lk,Nat.reduceEqDiff,if_false,if_true,cD,e0,e1,e5,F7,e24,and_self]
  ·have rO:k=b:=by omega
   subst rO;obtain⟨z,P,hjp1,R⟩:=g.p.pos (by omega);have hpl1:E.length=(jh B ts t k).length:=by have:=g.p.1;omega
   have zj:=g.dR;have Za:=g.ou z (.inr (.inl (by rw[P];exact aI.2 rfl)));have hZp:Z≠z:=λe=>Za.2 e.symm;have hjs:s.n≠z:=λe=>Xm (e ▸ Za.1);subst P;have KB:∃ rows:List (Nat × LV × LV),rows.length=k/\s1.get s.n=some (.cells .mut (dm pF rows))/\∀ a,a<k->rows.getD a default=y a:=by
    have kW:∀ a,a<k->((List.range k).map y).getD a default=y a:=λa ha=>by simp[gD,ha]
    refine⟨(List.range k).map y,by simp,?_,kW⟩;rw[V,G1,List.length_map,List.length_range];congr 2;refine Cz λi hi=>?_;rw[if_pos hi,kW i hi]
   obtain⟨rows,nT,vj,hr3⟩:=KB;have Iw:∀ a,a<rows.length->(rows.getD a default).1=dw cq (jh B ts t k) (cq (kz B t a))/\(rows.getD a default).1<(jh B ts t k).length/\aP (rows.getD a default).2.1 (Ap B t a)/\aP (rows.getD a default).2.2 (Aq B t a):=λa ha=>by
    have ha':a<k:=by omega
    rw[hr3 a ha'];obtain⟨h1,h2,h3⟩:=C1 a ha';obtain⟨i1,i2⟩:=xS B ts t ha';rw[h1,<- i1];exact⟨rfl,i2,h2,h3⟩
   have W5:Dv s1 B (jh B ts t k) ((jh B ts t k).getD n []) (.aE s.n 0 rows.length 3):=.inr ⟨s.n,rows,rfl,vj,by omega,by rw[DI];exact Iw⟩;have iO:=λs' h1 h2 h3=>g.memo (s':=s') (n:=n) (j:=s.n) (jp:=z) (rows:=rows) WZ rfl Xm eu vj W5 h1 h2 h3;have c:=Bx.mk (And.intro iO (And.intro Iw (And.intro KS (And.intro fG (And.intro g vj)))));clear iO Iw KS fG g vj V C1 W5 hr3;rw[<- nT]at e5;have hrlB:=Bx.mk nT;clear nT;repeat' (first|refine aH (aj @zj @eF) ?_|(first|apply ah|apply af)<;>intro C)
   refine OY (i:=z) (o:=n) (n:=1) (v:=.aE s.n 0 rows.length 3) (vs:=[.aE s.n 0 rows.length 3]) (cs:=E) (cs':=E.set n (.aE s.n 0 rows.length 3)) ef ef rfl R rfl (by omega) rfl ?_;have S:(s1.put z (.cells .mut (E.set n (.aE s.n 0 rows.length 3)))).get z=some (.cells .mut (E.set n (.aE s.n 0 rows.length 3))):=by rw[St.az,if_pos rfl]
   have J:∀ id,id≠z->(s1.put z (.cells .mut (E.set n (.aE s.n 0 rows.length 3)))).get id=s1.get id:=λid d=>by rw[St.az,if_neg d]
   have jk:(s1.put z (.cells .mut (E.set n (.aE s.n 0 rows.length 3)))).n=s1.n:=rfl;have wD:=(J Z hZp).trans zj;have hpn2:(E.set n (.aE s.n 0 rows.length 3))[n]? = some (.aE s.n 0 rows.length 3):=by rw[List.getElem?_set_self (by omega)]
   generalize s1.put z (.cells .mut (E.set n (.aE s.n 0 rows.length 3)))=s2 at *;have pO:=c.out.1 s2 jk S J;have cB:=Bx.mk (And.intro pO J);clear pO J R zj;repeat' (first|refine aH (aj @wD (aj @eF (aj @S @hpn2))) ?_|(first|apply ah|apply af)<;>intro C)
   have nT:=hrlB.out;have g:=c.out.2.2.2.2.1;refine⟨.inr trivial,_,_,s.n,rows,⟨_,_,_,_,_,_,_,_,cB.out.1⟩,λid h=>.inl h,λid h=>.inl (hO1 id h),λid h=>?_,ef, .inr rfl,(cB.out.2 s.n hjs).trans c.out.2.2.2.2.2,by omega,c.out.2.1,by omega,λid G=>?_,λid h1 h2=>?_⟩
   ·rcases h with h | rfl
    ·exact D id h
    ·exact .inr (Nat.le_refl _)
   ·rw[cB.out.2 id λe=>(g.fo id G).2.2.2.2.2.1 (e ▸ aI.2 rfl)];exact c.out.2.2.1 id G
   ·rw[cB.out.2 id λe=>by
     rcases D z Za.1 with h | h
     ·exact h2 (e ▸ h)
     ·omega]
    exact c.out.2.2.2.1 id h1 h2
 ·have hmo:=w.om n hn j (by rw[ct];exact aI.2 rfl);rw[ct]at NH;have g9:=Sq B ts (ts.getD n []) b λa ha=>by
   have:=QD a (by omega);rw[<- this.1];exact this.2.1
  have c:=Bx.mk w;have A:=Bx.mk (And.intro QD (And.intro g9 hmo));clear w QD g9 hmo;repeat' (first|refine aH (aj @ic (aj @eF (aj @DL @NH))) ?_|(first|apply ah|apply af)<;>intro C)
  refine⟨.inr trivial,O,F,j,rows,?_,λid h=>h,λid h=>h,λid h=>.inl h,ef,A.out.2.2,hrg,fX,?_,Nat.le_refl _,λ_ _=>trivial,λ_ _ _=>trivial⟩
  ·rw[A.out.2.1];exact⟨_,_,_,_,_,_,_,_,c.out⟩
  ·rw[A.out.2.1];exact A.out.1
abbrev Xs:=List (Nat × List Int)
noncomputable def vA (B:Bu) (t:List Nd) (r:List Int) (a:Nat):List Int:=tj (marks (Ap B t a) (Aq B t a) r.length) r
noncomputable def DE (B:Bu) (t:List Nd) (r:List Int) (a:Nat):Nat:=nJ (marks (Ap B t a) (Aq B t a) r.length) r
noncomputable def kA (B:Bu) (b:List (List Nd)) (t:List Nd) (a:Nat):Nat:=dw cq b (cq (kz B t a))
noncomputable def oo (B:Bu) (b:List (List Nd)) (t:List Nd) (r:List Int) (xs:Xs):Nat->Xs
 | 0=>xs
 | a+1=>gY dr (oo B b t r xs a) (kA B b t a,vA B t r a)
noncomputable def z8 (B:Bu) (b:List (List Nd)) (t:List Nd) (r:List Int) (xs:Xs) (a:Nat):Nat:=dw dr (oo B b t r xs a) (dr (kA B b t a,vA B t r a))
noncomputable def sq (B:Bu) (a:List (List Nd)) (b:Xs):Nat->List (List Nd) × Xs
 | 0=>(a,b)
 | n+1=>
   let c:=sq B a b n;let x:=c.2.getD n default;let t:=c.1.getD x.1 [];(jh B c.1 t B.L.toNat,oo B (jh B c.1 t B.L.toNat) t x.2 c.2 B.L.toNat)
noncomputable def sqN (B:Bu) (b:List (List Nd)) (c:Xs) (n:Nat):List Int:=(List.range B.L.toNat).map λa=>(z8 B (sq B b c (n+1)).1 ((sq B b c n).1.getD ((sq B b c n).2.getD n default).1 []) ((sq B b c n).2.getD n default).2 (sq B b c n).2 a:Int)
noncomputable def sqP (B:Bu) (b:List (List Nd)) (c:Xs) (n:Nat):List Int:=(List.range B.L.toNat).map λa=>(DE B ((sq B b c n).1.getD ((sq B b c n).2.getD n default).1 []) ((sq B b c n).2.getD n default).2 a:Int)
def XD (N:Nat) (ts:List (List Nd)) (xs:Xs):Prop:=∀ x∈xs,x.1<ts.length/\mL x.2/\x.2.length=2*N
theorem Gu {α:Type}{key:α->List UInt8}{l:List α}{x y:α}(h:y∈gY key l x):y∈l∨y=x:=by
 unfold gY at h;split at h
 ·exact .inl h
 ·rcases List.mem_append.1 h with h | h
  ·exact .inl h
  ·exact .inr (List.mem_singleton.1 h)
theorem G0 {B:Bu}{N:Nat}{b:List (List Nd)}{t:List Nd}{r:List Int}{xs:Xs}(h:XD N b xs) (d:mL r) (hl:r.length=2*N) {n:Nat}(c:∀ a,a<n->kA B b t a<b.length):XD N b (oo B b t r xs n):=by
 induction n with
 | zero=>exact h
 | succ n ih=>
   intro x hx;rcases Gu hx with hx | rfl
   ·exact ih (λa e=>c a (by omega)) x hx
   ·exact⟨c n (by omega),Cx d,by show (tj _ r).length=2*N;rw[(lE _ r).length_eq];exact hl⟩
theorem xg (B:Bu) (a:List (List Nd)) (t:List Nd) (r:List Int) (xs:Xs) (n:Nat):∃ m,oo B a t r xs n=xs++m/\m.length<=n:=by
 induction n with
 | zero=>exact⟨[],by simp[oo],by simp⟩
 | succ n ih=>
   obtain⟨m,h1,h2⟩:=ih;obtain⟨b,h3,c⟩:=uX dr (oo B a t r xs n) (kA B a t n,vA B t r n);refine⟨m++b,?_,by simp;omega⟩;show gY dr (oo B a t r xs n) _=_;rw[h3,h1,List.append_assoc]
theorem xV (B:Bu) (a:List (List Nd)) (t:List Nd) (r:List Int) (xs:Xs) {n m:Nat}(h:n<=m):(oo B a t r xs n).length<=(oo B a t r xs m).length:=by
 induction h with
 | refl=>exact Nat.le_refl _
 | step h ih=>
   rename_i m;obtain⟨d,h1,-⟩:=uX dr (oo B a t r xs m) (kA B a t m,vA B t r m);have h2:oo B a t r xs (m+1)=oo B a t r xs m++d:=h1;rw[h2,List.length_append];omega
theorem Tz {Z b most:Nat}{B:Bu}{sv nv:LV}{g:List (List Nd)}{p:Xs}{O F:Nat->Prop}(hB:vo (.agg [.int .i64 B.L,sv,nv]) B sv nv) (hv:Vb B) (hN:B.next.length<=10) (mK:∀ q a,(fQ B q a).length<=1000000) (wu:most<=1000) (y:LV) (s:St) (hS:SR s Z B sv nv (most:Int) g p O F) (hb:s.get b=some (.cells .mut [.aO Z 0])) (pI:b<s.n) (P:¬ O b) (WI:XD B.next.length g p) (ht0:g.length<=1) (Kw:p.length<=most)
 (I:Nat->(Nat->Prop)->St->Prop) (C0:Nat->Prop) (w:bf y=true) (h0:I 0 C0 s) (hCl:∀ n C s1,I n C s1->∀ id,C id->id<s1.n) (G:∀ id,C0 id->¬ O id/\id≠b)
 (gV:∀ n C s1 s2,I n C s1->s1.n<=s2.n->(∀ id,C id->s2.get id=s1.get id)->I n C s2)
 (hy:∀ n C s1 nv pv,I n C s1->aP nv (sqN B g p n)->aP pv (sqP B g p n)->n<(sq B g p n).2.length->(sq B g p (n+1)).2.length<=most->aM Tryz.prog GL y [nv,pv] s1 (λr s2=>r = .bool true/\s1.n<=s2.n/\∃ C',I (n+1) C' s2/\(∀ id,C' id->C id∨s1.n<=id)/\∀ id,id<s1.n->¬ C id->s2.get id=s1.get id)) :
 aM Tryz.prog GL (.fn (.func 51) [] [.aO b 0]) [y] s (λ_ s'=>s.n<=s'.n/\∃ n C O' F' ts xs,I n C s'/\SR s' Z B sv nv (most:Int) ts xs O' F'/\(∀ j,j<n->j<(sq B g p j).2.length)/\(∀ j,j<=n->(sq B g p j).2.length<=most)/\((xs=(sq B g p n).2/\n=xs.length)∨most<xs.length/\n<(sq B g p n).2.length/\most<(sq B g p (n+1)).2.length)):=by
 refine bM (first:=[]) (caps:=[.aO b 0]) Tryz.func51 br c51 bw (aX.mono (Q:=λo e s'=>(o = .normal∨o = .jmp .ret)/\s.n<=s'.n/\∃ n C O' F' ts xs,I n C s'/\SR s' Z B sv nv (most:Int) ts xs O' F'/\(∀ j,j<n->j<(sq B g p j).2.length)/\(∀ j,j<=n->(sq B g p j).2.length<=most)/\((xs=(sq B g p n).2/\n=xs.length)∨most<xs.length/\n<(sq B g p n).2.length/\most<(sq B g p (n+1)).2.length)) ?_ λo e s' hh=>by
  obtain⟨h1,h2⟩:=hh;exact⟨h1, .cE [],by simp[l51,aW],h2⟩)
 refine Cd.out (mH λe e0 e1=>?_);unfold l51;dsimp only[jA,jB,jG,qM,qL,qN,qF,qS,qI,qA,qB,qC,qT,qD,qY,qm,ql,qR];have hL1:=hv.1;have Vx:=hv.2.1;obtain⟨d,S6⟩:∃ d:Nat,B.L=(d:Int):=⟨B.L.toNat,by omega⟩;have hLt:B.L.toNat=d:=by omega
 repeat' (first|refine aG trivial ?_|(first|apply ah|apply af)<;>intro H)
 refine aN (λm e s1=>∃ (n:Nat) (C O1 F1:Nat->Prop),m=most+1 - n/\n<=most/\I n C s1/\SR s1 Z B sv nv (most:Int) (sq B g p n).1 (sq B g p n).2 O1 F1/\XD B.next.length (sq B g p n).1 (sq B g p n).2/\(sq B g p n).1.length<=1+n*64/\(∀ j,j<n->j<(sq B g p j).2.length)/\(∀ j,j<=n->(sq B g p j).2.length<=most)/\n<=(sq B g p n).2.length/\s1.get b=some (.cells .mut [.aO Z 0])/\b<s1.n/\¬ O1 b/\¬ C b/\(∀ id,C id->¬ O1 id)/\s.n<=s1.n/\e.at 0=y/\e.at 1 = .aO b 0/\e.at 3 = .int .i64 (n:Int)) _
  ⟨0,C0,O,F,rfl,by omega,h0,hS,WI,by show g.length<=_;omega,λj hj=>absurd hj (by omega),λj hj=>(Nat.le_zero.1 hj) ▸ Kw,Nat.zero_le _,hb,pI,P,λh=>(G b h).2 rfl,λid h=>(G id h).1,Nat.le_refl _,ef,ef,by simp only[lk,if_true];rfl⟩ ?_
 clear e0 e1 h0 hS hb pI P G;clear e;rintro m e s1 ⟨n,C,O1,F1,rfl,hn,hI,mE,vg,kn,tI,rP,xC,hb,pI,P,hCb,G,eu,e0,e1,e3⟩;have UI:sq B g p (n+1)=(jh B (sq B g p n).1 ((sq B g p n).1.getD ((sq B g p n).2.getD n default).1 []) B.L.toNat,oo B (jh B (sq B g p n).1 ((sq B g p n).1.getD ((sq B g p n).2.getD n default).1 []) B.L.toNat) ((sq B g p n).1.getD ((sq B g p n).2.getD n default).1 []) ((sq B g p n).2.getD n default).2 (sq B g p n).2 B.L.toNat):=rfl;have R:=hy n C;unfold sqN sqP at R;rw[UI]at R;simp only[hLt]at R;have WE:=rP n (Nat.le_refl _);rw[hLt]at UI;have GF:=Bx.mk UI;generalize htsE:(sq B g p n).1=ts at *;generalize YL:(sq B g p n).2=xs at *;obtain⟨tv,pv,xv,TN,SN,td,mQ,xr,hX⟩:=mE;have ic:=hX.dR;have UB:=hX.x.len;have N:=Bx.mk hX;clear hX UI;have FT:=hCl n C s1 hI;have ko:=Bx.mk (And.intro hI (And.intro R gV));clear hI R;have hxl1:=N.out.xl;by_cases fH:n<xs.length
 ·have hnI:(n:Int)<(xs.length:Int):=by omega
  obtain⟨jx,hxv,U0,jR⟩:=N.out.x.pos (by omega);subst hxv;have Kx:xr[n]? = some (xr.getD n default):=by rw[gD,gE (by omega)];rfl
  have Qr:=N.out.xx n fH;have YM:=vg _ (cn fH);generalize hxnE:xs.getD n default=xn at *;obtain⟨kx,r⟩:=xn;simp only at Qr YM;generalize hteq:ts.getD kx []=t at *;repeat' (first|refine aG (aj @hb (aj @ic (aj @UB @S6))) ?_|(first|apply ah|apply af)<;>intro H)
  refine vP (n:=d) (k:=s1.n) (z:=.int .i64 0) wN rfl ef ef (by omega) (by decide) ?_;have lJ:(s1.new (.cells .mut (bz d λ_=>.int .i64 0))).get b=some (.cells .mut [.aO Z 0]):=by rw[St.aA,if_neg (by omega)];exact hb
  have hZ1:=N.out.ol Z N.out.oZ.1;have wD:(s1.new (.cells .mut (bz d λ_=>.int .i64 0))).get Z=some (.cells .mut [.int .i64 B.L,sv,nv, .int .i64 (most:Int),tv,pv, .aR TN, .aE jx 0 xs.length 2, .aR SN]):=by rw[St.aA,if_neg (by omega)];exact ic
  repeat' (first|refine aG (aj @lJ (aj @wD @S6)) ?_|(first|apply ah|apply af)<;>intro H)
  refine vP (n:=d) (k:=s1.n+1) (z:=.int .i64 0) wN rfl ef ef (by omega) (by decide) ?_;have KI:∀ id,id<s1.n->((s1.new (.cells .mut (bz d λ_=>.int .i64 0))).new (.cells .mut (bz d λ_=>.int .i64 0))).get id=s1.get id:=λid J=>by rw[St.aA,if_neg (by simp;omega),St.aA,if_neg (by omega)]
  have hA1:((s1.new (.cells .mut (bz d λ_=>.int .i64 0))).new (.cells .mut (bz d λ_=>.int .i64 0))).get s1.n=some (.cells .mut (bz d λ_=>.int .i64 0)):=by rw[St.aA,if_neg (by simp),St.aA,if_pos rfl]
  have Xr:((s1.new (.cells .mut (bz d λ_=>.int .i64 0))).new (.cells .mut (bz d λ_=>.int .i64 0))).get (s1.n+1)=some (.cells .mut (bz d λ_=>.int .i64 0)):=by rw[St.aA,if_pos (by simp)]
  have o9:((s1.new (.cells .mut (bz d λ_=>.int .i64 0))).new (.cells .mut (bz d λ_=>.int .i64 0))).n=s1.n+2:=rfl;generalize (s1.new (.cells .mut (bz d λ_=>.int .i64 0))).new (.cells .mut (bz d λ_=>.int .i64 0))=s3 at *;clear lJ wD;have KQ:=N.out.keep (s':=s3) (by omega) λid J=>KI id (N.out.ol id J);have xG:=(KI b pI).trans hb;have q6:=KQ.dR;have hgx3:=(KI jx U0).trans jR;have Ae:cz none (.aO jx (n*2)) s3=some (.int .i64 (kx:Int)):=by
   have:=eY DY Kx (k:=0) (v:=.int .i64 ((xr.getD n default).1:Int)) rfl (rest:=[]) (s:=s3) (j:=jx) (md:=.mut) (by rw[List.append_nil];exact hgx3);rw[Qr.1]at this;exact this
  have Z3:=Tt (s:=s3) (n:=kx) hB hv hN mK ⟨_,_,_,_,_,_,_,_,KQ⟩ YM.1 (by omega);rw[hteq,hLt]at Z3;have Vd:=Bx.mk (And.intro KI (And.intro hA1 Xr));clear KQ KI hA1 Xr ic jR;repeat' (first|refine aG (aj @xG (aj @q6 (aj @eF @Ae))) ?_|(first|apply ah|apply af)<;>intro H)
  refine bK wN (fv:=.fn (.func 52) [] []) (vs:=[.aO Z 0, .int .i64 (kx:Int)]) ef ef (aM.mono Z3 λres A hh=>⟨trivial,?_⟩);obtain⟨V,F2,jr,u,hS4,KR,hO2,Vw,rfl,hFj,U6,fX,hrf,od,Xq,fD⟩:=hh;simp only[Env.aB];have MG:A.get b=some (.cells .mut [.aO Z 0]):=(fD b (by omega) P).trans xG;have hA14:A.get s1.n=some (.cells .mut (bz d λ_=>.int .i64 0)):=(fD _ (by omega) λh=>by have:=N.out.ol _ h;omega).trans Vd.out.2.1;have hA24:A.get (s1.n+1)=some (.cells .mut (bz d λ_=>.int .i64 0)):=(fD _ (by omega) λh=>by have:=N.out.ol _ h;omega).trans Vd.out.2.2;have S:¬ V b:=λh=>by rcases Vw b h with h | h;exact P h;omega
  have hO2C:∀ id,C id->¬ V id:=λid w h=>by
   rcases Vw id h with h | h
   ·exact G id w h
   ·have:=FT id w;omega
  have MN:¬ V s1.n/\¬ V (s1.n+1):=⟨λh=>by rcases Vw _ h with h | h;(have:=N.out.ol _ h;omega);omega,λh=>by rcases Vw _ h with h | h;(have:=N.out.ol _ h;omega);omega⟩;have hC4:∀ id,C id->A.get id=s1.get id:=λid w=>(fD id (by have:=FT id w;omega) (G id w)).trans (Vd.out.1 id (FT id w));have hts1l:(jh B ts t d).length<=ts.length+64:=by
   obtain⟨m,h1,h2⟩:=se B ts t 0 d;rw[Nat.zero_add]at h1;have h3:jh B ts t d=ts++m:=h1;rw[h3,List.length_append];omega
  generalize hts1:jh B ts t d=c at *;have hrl':u.length=d:=by omega
  have AT:=Bx.mk (And.intro hS4 (And.intro hrf (And.intro hO2C hC4)));clear Z3 hS4 hrf hO2C hC4 Xq fD Vd hgx3 Ae xG q6;repeat' (first|refine aG trivial ?_|(first|apply ah|apply af)<;>intro H)
  refine aN (λm e l=>∃ (i:Nat) (O3:Nat->Prop),m=d - i/\i<=d/\SR l Z B sv nv (most:Int) c (oo B c t r xs i) O3 F2/\(∀ id,V id->O3 id)/\(∀ id,O3 id->V id∨A.n<=id)/\(oo B c t r xs i).length<=most/\A.n<=l.n /\
   l.get s1.n=some (.cells .mut (bz d λj=>.int .i64 (if j<i then (z8 B c t r xs j:Int) else 0)))/\l.get (s1.n+1)=some (.cells .mut (bz d λj=>.int .i64 (if j<i then (DE B t r j:Int) else 0))) /\
   (∀ id,F2 id->l.get id=A.get id)/\(∀ id,id<A.n->¬ V id->id≠s1.n->id≠s1.n+1->l.get id=A.get id)/\e.at 0=y/\e.at 1 = .aO b 0/\e.at 3 = .int .i64 (n:Int)/\e.at 4 = .aE s1.n 0 d 1/\e.at 5 = .aE (s1.n+1) 0 d 1/\e.at 40 = .aE jr 0 u.length 3/\e.at 41 = .int .i64 (u.length:Int)/\e.at 42 = .int .i64 (i:Int)) _
   ⟨0,V,rfl,by omega,AT.out.1,λid h=>h,λid h=>.inl h,WE,Nat.le_refl _,by simpa using hA14,by simpa using hA24,λ_ _=>rfl,λ_ _ _ _ _=>rfl,ef,ef,ef,ef,ef,ef,ef,by simp only[lk,dM,Nat.reduceEqDiff,if_false,if_true];rfl⟩ ?_
  clear e0 e1 e3 hA14 hA24;clear e;rintro m e l ⟨i,O3,rfl,hi,hS5,Xm,Dj,hxi5,vI,RB,RA,hF5,eL,e0,e1,e3,e4,e5,e40,e41,R4⟩;obtain⟨tv5,pv5,xv5,TN5,SN5,tcs5,pcs5,XJ,X⟩:=hS5;obtain⟨mm,NJ,xD⟩:=xg B c t r xs i;have hn5l:n<(oo B c t r xs i).length:=by rw[NJ,List.length_append];omega
  have UC:(oo B c t r xs i).getD n default=(kx,r):=by
   rw[NJ,gD,List.getElem?_append_left fH,<- gD];exact hxnE
  have GV:l.get b=some (.cells .mut [.aO Z 0]):=(eL b (by omega) S (by omega) (by omega)).trans MG;have hgr5:l.get jr=some (.cells .mut (dm pF u)):=(hF5 jr hFj).trans U6;clear NJ xD;by_cases cy:i<d
  ·have iQ:(i:Int)<(u.length:Int):=by omega
   have hiL:(i:Int)<(d:Int):=by omega
   have dO:=@bQ i (by omega);have lZ:u[i]? = some (u.getD i default):=by rw[gD,gE (by omega)];rfl
   have ct:=AT.out.2.1 i (by omega);have kG:=lV OB lZ (rest:=[]) (s:=l) (j:=jr) (md:=.mut) (by rw[List.append_nil];exact hgr5);generalize u.getD i default=rw1 at *;obtain⟨K,gv,D⟩:=rw1;simp only at ct;unfold pF at kG;simp only at kG;have SP:=ct.2.2.1.sl.cell;have Rn:=ct.2.2.2.sl.cell;obtain⟨jx5,hxv5,hjx5,hgx5⟩:=X.x.pos (by omega);subst hxv5;have hxl5:=X.xl;have WG:XJ[n]? = some (XJ.getD n default):=by rw[gD,gE (by omega)];rfl
   have YK:=X.xx n hn5l;rw[UC]at YK;have hxi5B:Bx (XJ[n]? = some (XJ.getD n default)):=⟨WG⟩;have Y8:Bx ((XJ.getD n default).2=(XJ.getD n default).2):=⟨rfl⟩;obtain⟨T,Y8⟩:∃ T,Bx ((XJ.getD n default).2=T):=⟨_,⟨rfl⟩⟩;rw[Y8.out]at YK;have hnI5:(n:Int)<((oo B c t r xs i).length:Int):=by omega
   have zh:=X.dR;have Ru:=Bx.mk X;have gV:=Hy YK.2 YM.2.1 ct.2.2.1 ct.2.2.2;have KC:=Bx.mk ct;clear ct;have xF:=Bx.mk (And.intro RB (And.intro RA (And.intro hF5 eL)));clear X UC RB RA hF5 eL lZ WG hgr5;repeat' (first|refine aH (aj @eF @kG) ?_|(first|apply ah|apply af)<;>intro H)
   have Y:∀ id,id<l.n->((l.new (.cells .mut [.int .i64 0, .aq, .aq])).put l.n (.cells .mut [.int .i64 (K:Int),gv,D])).get id=l.get id:=λid J=>by rw[St.az,if_neg (by omega),St.aA,if_neg (by omega)]
   have QM:((l.new (.cells .mut [.int .i64 0, .aq, .aq])).put l.n (.cells .mut [.int .i64 (K:Int),gv,D])).get l.n=some (.cells .mut [.int .i64 (K:Int),gv,D]):=by rw[St.az,if_pos rfl]
   have W0:((l.new (.cells .mut [.int .i64 0, .aq, .aq])).put l.n (.cells .mut [.int .i64 (K:Int),gv,D])).n=l.n+1:=rfl;have GU:=(Y b (by omega)).trans GV;have IE:=Ru.out.keep (s':=(l.new (.cells .mut [.int .i64 0, .aq, .aq])).put l.n (.cells .mut [.int .i64 (K:Int),gv,D])) (by omega) λid J=>Y id (Ru.out.ol id J);have hgx6:=(Y jx5 hjx5).trans hgx5;have hlr:=eY DY hxi5B.out (k:=1) (v:=T) (by unfold K7;rw[Y8.out];rfl) (rest:=[]) (s:=(l.new (.cells .mut [.int .i64 0, .aq, .aq])).put l.n (.cells .mut [.int .i64 (K:Int),gv,D])) (j:=jx5) (md:=.mut) (by rw[List.append_nil];exact hgx6);generalize (l.new (.cells .mut [.int .i64 0, .aq, .aq])).put l.n (.cells .mut [.int .i64 (K:Int),gv,D])=s6 at *;have KO:=IE.dR;have MI:=Bx.mk (And.intro IE Y);clear IE Y zh GV hgx5 hgx6 kG;repeat' (first|refine aH (aj @GU (aj @KO (aj @eF (aj @hlr @QM)))) ?_|(first|apply ah|apply af)<;>intro H)
   refine cK ff gV wN ef λres sC qu=>⟨trivial,?_⟩;simp only[Env.aB];obtain⟨Ec,rfl,Y4⟩:=sC;have hrvc:=Y4.sl.cell;clear gV;repeat' (first|refine aH (aj @GU @QM) ?_|(first|apply ah|apply af)<;>intro H)
   have q5:cells? Ec=some [Ec]:=g6 Y4.sl;refine cC (vs:=[.int .i64 (K:Int),Ec]) wN (by
    simp only[bt,List.map,lk,Nat.reduceEqDiff,if_false,if_true,List.map];simp[aU,q5,fq,splice]) ?_
   have NM:K<=1000000:=by have:=KC.out.2.1;omega
   have hrl2:(vA B t r i).length<=6000:=by unfold vA;rw[(lE _ r).length_eq,YM.2.2];omega
   have BK:=Jo (k:=K) ⟨_,_,_,_,_,_,_,_,MI.out.1⟩ (r:=vA B t r i) Y4 hrl2 NM (by omega);refine bK wN (fv:=.fn (.func 48) [] []) (vs:=[.aO Z 0, .agg [.int .i64 (K:Int),Ec]]) ef ef (aM.mono BK λx s7 hh=>⟨trivial,?_⟩);obtain⟨rfl,hS7,hn7,hF7,Fy⟩:=hh;simp only[Env.aB];have hkE:K=kA B c t i:=KC.out.1;have hS7':SR s7 Z B sv nv (most:Int) c (oo B c t r xs (i+1)) (λid=>O3 id∨s6.n<=id/\id<s7.n) F2:=by
    rw[hkE]at hS7;exact hS7
   have xC:dw dr (oo B c t r xs i) (dr (K,vA B t r i))=z8 B c t r xs i:=by rw[hkE];rfl
   rw[xC];have hA17:s7.get s1.n=some (.cells .mut (bz d λj=>.int .i64 (if j<i then (z8 B c t r xs j:Int) else 0))):=by
    rw[Fy _ (by omega) (λh=>by rcases Dj _ h with h | h;exact MN.1 h;omega),MI.out.2 _ (by omega)];exact xF.out.1
   have hA27:s7.get (s1.n+1)=some (.cells .mut (bz d λj=>.int .i64 (if j<i then (DE B t r j:Int) else 0))):=by
    rw[Fy _ (by omega) (λh=>by rcases Dj _ h with h | h;exact MN.2 h;omega),MI.out.2 _ (by omega)];exact xF.out.2.1
   have Z1:s7.get b=some (.cells .mut [.aO Z 0]):=(Fy b (by omega) (λh=>by rcases Dj _ h with h | h;exact S h;omega)).trans GU;have h7F:(∀ id,F2 id->s7.get id=A.get id)/\(∀ id,id<A.n->¬ V id->id≠s1.n->id≠s1.n+1->s7.get id=A.get id):=by
    refine⟨λid hf=>?_,λid h1 h2 h3 h4=>?_⟩
    ·have dH:=Ru.out.ol id (Ru.out.fo id hf).1;rw[hF7 id hf,MI.out.2 id dH];exact xF.out.2.2.1 id hf
    ·rw[Fy id (by omega) (λh=>by rcases Dj _ h with h | h;exact h2 h;omega),MI.out.2 id (by omega)];exact xF.out.2.2.2 id h1 h2 h3 h4
   have h7B:=Bx.mk (And.intro hS7' h7F);clear BK hS7 hS7' hF7 Fy xF MI GU KO QM hlr h7F hkE;repeat' (first|refine aH (aj @eF @Z1) ?_|(first|apply ah|apply af)<;>intro H)
   refine jZ (n:=d) (q:=i) (v:=.int .i64 (z8 B c t r xs i:Int)) (f:=λj=>.int .i64 (if j<i then (z8 B c t r xs j:Int) else 0)) (f':=λj=>.int .i64 (if j<i+1 then (z8 B c t r xs j:Int) else 0)) ef ef rfl hA17 cy (λj=>by
    by_cases e:j=i
    ·subst e;simp
    ·by_cases e2:j<i
     ·simp[e,e2,show j<i+1 by omega]
     ·simp[e,e2,show ¬ j<i+1 by omega]) (λs8 hn8 hg8 SJ=>?_)
   have hA28:=(SJ (s1.n+1) (by omega)).trans hA27;have hb8:=(SJ b (by omega)).trans Z1;repeat' (first|refine aH (aj @eF @hb8) ?_|(first|apply ah|apply af)<;>intro H)
   refine jZ (n:=d) (q:=i) (v:=.int .i64 (DE B t r i:Int)) (f:=λj=>.int .i64 (if j<i then (DE B t r j:Int) else 0)) (f':=λj=>.int .i64 (if j<i+1 then (DE B t r j:Int) else 0)) ef ef rfl hA28 cy (λj=>by
    by_cases e:j=i
    ·subst e;simp
    ·by_cases e2:j<i
     ·simp[e,e2,show j<i+1 by omega]
     ·simp[e,e2,show ¬ j<i+1 by omega]) (λs9 hn9 hg9 M=>?_)
   have hb9:=(M b (by omega)).trans hb8;have hg89:=(M s1.n (by omega)).trans hg8;obtain⟨tv9,pv9,xv9,TN9,SN9,tcs9,pcs9,xr9,U⟩:=h7B.out.1;have hO7A:∀ id,(O3 id∨s6.n<=id/\id<s7.n)->id≠s1.n/\id≠s1.n+1:=λid h=>by
    refine⟨λe=>?_,λe=>?_⟩
    ·subst e;rcases h with h | h
     ·rcases Dj _ h with h | h
      ·exact MN.1 h
      ·omega
     ·omega
    ·subst e;rcases h with h | h
     ·rcases Dj _ h with h | h
      ·exact MN.2 h
      ·omega
     ·omega
   have hX9:=U.keep (s':=s9) (by omega) λid J=>by
    have:=hO7A id J;rw[M id this.2,SJ id this.1]
   have hblk9:=hX9.dR;have hxl9:=hX9.x.len;have h9F:(∀ id,F2 id->s9.get id=A.get id)/\(∀ id,id<A.n->¬ V id->id≠s1.n->id≠s1.n+1->s9.get id=A.get id):=by
    refine⟨λid hf=>?_,λid h1 h2 h3 h4=>?_⟩
    ·have:=hO7A id (.inl (Ru.out.fo id hf).1);rw[M id this.2,SJ id this.1];exact h7B.out.2.1 id hf
    ·rw[M id h4,SJ id h3];exact h7B.out.2.2 id h1 h2 h3 h4
   have E:=Bx.mk (And.intro hX9 (And.intro h9F (And.intro hg89 hg9)));clear hX9 h9F hg89 hg9 hg8 SJ M hA17 hA27 hA28 Z1 hb8 U h7B;repeat' (first|refine aH (aj @hb9 (aj @hblk9 @hxl9)) ?_|(first|apply ah|apply af)<;>intro H)
   ·refine⟨d - (i+1),by omega,i+1,_,rfl,by omega,⟨_,_,_,_,_,_,_,_,E.out.1⟩,λid h=>.inl (Xm id h),λid h=>?_,by omega,by omega,E.out.2.2.1,E.out.2.2.2,E.out.2.1.1,E.out.2.1.2,?_⟩
    ·rcases h with h | h
     ·exact Dj id h
     ·right;omega
    ·simp only[lk,Nat.reduceEqDiff,if_false,if_true,dO,e0,e1,e3,e4,e5,e40,e41,R4,and_self]
   ·refine⟨.inr trivial,by omega,n,C,_,F2,c,_,ko.out.2.2 n C s1 s9 ko.out.1 (by omega) λid w=>?_,⟨_,_,_,_,_,_,_,_,E.out.1⟩,tI,rP, .inr ⟨by omega,by rw[YL];exact fH,?_⟩⟩
    ·have dH:=FT id w;rw[E.out.2.1.2 id (by omega) (AT.out.2.2.1 id w) (by omega) (by omega)];exact AT.out.2.2.2 id w
    ·rw[GF.out];have:=xV B c t r xs (show i+1<=d by omega);show most<(oo B c t r xs d).length;omega
  ·have eU:i=d:=by omega
   subst eU;have YP:∀ f:Nat->Nat,(bz i λj=>.int .i64 (if j<i then (f j:Int) else 0))=ints ((List.range i).map λj=>(f j:Int)):=λf=>by
    unfold bz ints;rw[List.map_map];refine List.map_congr_left λj hj=>?_;simp[List.mem_range.1 hj]
   rw[YP]at RB RA;have hI5:=ko.out.2.2 n C s1 l ko.out.1 (by omega) λid w=>by
    have dH:=FT id w;rw[eL id (by omega) (AT.out.2.2.1 id w) (by omega) (by omega)];exact AT.out.2.2.2 id w
   have hyc:=ko.out.2.1;have hnxl:((List.range i).map λa=>(z8 B c t r xs a:Int)).length=i:=by simp
   have hprl:((List.range i).map λa=>(DE B t r a:Int)).length=i:=by simp
   have je:=lG;have Zh:∀ x∈((List.range i).map λa=>(z8 B c t r xs a:Int)),bU x:=λx hx=>by
    obtain⟨a,ha,rfl⟩:=List.mem_map.1 hx;have ha':=List.mem_range.1 ha;obtain⟨m,h1,h2⟩:=xg B c t r xs a;have h3:=rN dr (oo B c t r xs a) (dr (kA B c t a,vA B t r a));rw[h1,List.length_append]at h3;have h4:z8 B c t r xs a<=xs.length+m.length:=by unfold z8;rw[h1];exact h3
    unfold bU;omega
   have DJ:∀ x∈((List.range i).map λa=>(DE B t r a:Int)),bU x:=λx hx=>by
    obtain⟨a,ha,rfl⟩:=List.mem_map.1 hx;have h3:=Bk (marks (Ap B t a) (Aq B t a) r.length) r;have h4:DE B t r a<=2*r.length+1:=h3.2;have h5:=YM.2.2;unfold bU;omega
   have ve:cY bp (.aE s1.n 0 i 1) l=some (.aF (ints ((List.range i).map λa=>(z8 B c t r xs a:Int))) i,l.put s1.n (.cells .app (ints ((List.range i).map λa=>(z8 B c t r xs a:Int))))):=gQ (len:=i) 38 RB (by simp) (bI _);have hA26:(l.put s1.n (.cells .app (ints ((List.range i).map λa=>(z8 B c t r xs a:Int))))).get (s1.n+1)=some (.cells .mut (ints ((List.range i).map λa=>(DE B t r a:Int)))):=by rw[St.az,if_neg (by omega)];exact RA
   have YI:cY bp (.aE (s1.n+1) 0 i 1) (l.put s1.n (.cells .app (ints ((List.range i).map λa=>(z8 B c t r xs a:Int)))))=some (.aF (ints ((List.range i).map λa=>(DE B t r a:Int))) i,(l.put s1.n (.cells .app (ints ((List.range i).map λa=>(z8 B c t r xs a:Int))))).put (s1.n+1) (.cells .app (ints ((List.range i).map λa=>(DE B t r a:Int))))):=gQ (len:=i) 38 hA26 (by simp) (bI _);have Y:∀ id,id≠s1.n->id≠s1.n+1->((l.put s1.n (.cells .app (ints ((List.range i).map λa=>(z8 B c t r xs a:Int))))).put (s1.n+1) (.cells .app (ints ((List.range i).map λa=>(DE B t r a:Int))))).get id=l.get id:=λid h1 h2=>by rw[St.az,if_neg h2,St.az,if_neg h1]
   have W0:((l.put s1.n (.cells .app (ints ((List.range i).map λa=>(z8 B c t r xs a:Int))))).put (s1.n+1) (.cells .app (ints ((List.range i).map λa=>(DE B t r a:Int))))).n=l.n:=rfl;generalize (l.put s1.n (.cells .app (ints ((List.range i).map λa=>(z8 B c t r xs a:Int))))).put (s1.n+1) (.cells .app (ints ((List.range i).map λa=>(DE B t r a:Int))))=s6 at *;have hI6:=ko.out.2.2 n C l s6 hI5 (by omega) λid w=>Y id (by have:=FT id w;omega) (by have:=FT id w;omega);have hyc6:=hyc s6 (.aF (ints ((List.range i).map λa=>(z8 B c t r xs a:Int))) i) (.aF (ints ((List.range i).map λa=>(DE B t r a:Int))) i) hI6 ⟨by rw[hnxl];exact .aF _ _,by rw[hnxl];omega,Zh⟩ ⟨by rw[hprl];exact .aF _ _,by rw[hprl];omega,DJ⟩ fH hxi5;have zg:aM Tryz.prog GL y [.aE s1.n 0 i 1, .aE (s1.n+1) 0 i 1] l _:=n9 (args':=[.aF (ints ((List.range i).map λa=>(z8 B c t r xs a:Int))) i, .aF (ints ((List.range i).map λa=>(DE B t r a:Int))) i]) (s':=s6) (by simp only[cY.cM,ve,YI,Option.bind_eq_bind,Option.bind_some]) hyc6;have Vv:∀ id,O3 id->id≠s1.n/\id≠s1.n+1/\¬ C id:=λid h=>by
    rcases Dj _ h with h | h
    ·exact⟨λe=>MN.1 (e ▸ h),λe=>MN.2 (e ▸ h),λw=>AT.out.2.2.1 id w h⟩
    ·exact⟨by omega,by omega,λw=>by have:=FT id w;omega⟩
   have IE:=X.keep (s':=s6) (by omega) λid J=>Y id (Vv id J).1 (Vv id J).2.1;have GU:=(Y b (by omega) (by omega)).trans GV;have hO3l:=X.ol;have Z7:=Bx.mk (And.intro IE (And.intro X.ol UC));clear hyc hyc6 ve YI hA26 RB RA hI5 hI6 IE X hF5 eL Y UC;repeat' (first|refine aH trivial ?_|(first|apply ah|apply af)<;>intro H)
   refine bK wN (fv:=y) (vs:=[.aE s1.n 0 i 1, .aE (s1.n+1) 0 i 1]) ef ef (aM.mono zg λx s7 hh=>⟨trivial,?_⟩);obtain⟨rfl,hn7,C',hI7,hC',Fy⟩:=hh;simp only[Env.aB];have DH:=@bQ n (by omega);have U:=Z7.out.1.keep (s':=s7) hn7 λid J=>Fy id (by have:=Z7.out.2.1 id J;omega) (Vv id J).2.2;have Z1:=(Fy b (by omega) hCb).trans GU;have hxs1:XD B.next.length c (oo B c t r xs i):=by
    refine G0 (λx hx=>?_) YM.2.1 YM.2.2 λa ha=>?_
    ·have h:=vg x hx;obtain⟨m,h1,-⟩:=se B ts t 0 i;rw[Nat.zero_add]at h1;have h3:jh B ts t i=ts++m:=h1;rw[hts1]at h3;exact⟨by rw[h3,List.length_append];omega,h.2⟩
    ·have h:=AT.out.2.1 a (by omega);have h1:kA B c t a=(u.getD a default).1:=h.1.symm;rw[h1];exact h.2.1
   obtain⟨mx,hmx1,-⟩:=xg B c t r xs i;have y9:xs.length<=(oo B c t r xs i).length:=by rw[hmx1,List.length_append];omega
   clear hmx1;have Ft:=GF.out;have mF:=Bx.mk (And.intro hI7 (And.intro U (And.intro hxs1 (And.intro hC' Ft))));clear hI7 U hxs1 hC' zg Fy GU Z7 Ft;repeat' (first|refine aH @DH ?_|(first|apply ah|apply af)<;>intro H)
   have Ft:=mF.out.2.2.2.2;refine⟨most+1 - (n+1),by omega,n+1,C',O3,F2,rfl,by omega,mF.out.1,?_,?_,?_,λj hj=>?_,λj hj=>?_,?_,Z1,by omega,λh=>(λh'=>h') (by rcases Dj _ h with h | h;exact S h;omega),λh=>by rcases mF.out.2.2.2.1 b h with h | h;exact hCb h;omega,λid w ho=>?_,by omega,?_⟩
   ·rw[Ft];exact⟨_,_,_,_,_,_,_,_,mF.out.2.1⟩
   ·rw[Ft];exact mF.out.2.2.1
   ·rw[Ft];show c.length<=_;omega
   ·by_cases e:j=n
    ·subst e;rw[YL];exact fH
    ·exact tI j (by omega)
   ·by_cases e:j=n+1
    ·subst e;rw[Ft];exact hxi5
    ·exact rP j (by omega)
   ·rw[Ft];show n+1<=(oo B c t r xs i).length;omega
   ·rcases mF.out.2.2.2.1 id w with h | h
    ·exact (Vv id ho).2.2 h
    ·have:=hO3l id ho;omega
   ·simp only[lk,dM,Nat.reduceEqDiff,if_false,if_true,DH,e0,e1,and_self]
 ·have hnx':n=xs.length:=by omega
  have Ft:=GF.out;repeat' (first|refine aG (aj @hb (aj @ic @UB)) ?_|(first|apply ah|apply af)<;>intro H)
  exact⟨.inl trivial,eu,n,C,O1,F1,ts,xs,ko.out.1,⟨_,_,_,_,_,_,_,_,N.out⟩,tI,rP, .inl ⟨YL.symm,hnx'⟩⟩
end Go.Proofs.YtkbiecjdcjfhaaaGreat
end
