/- parity's search: what the letters make of a tree. -/
import Derived.Test.YtkbiecjdcjfhaaaPsr
set_option linter.unusedSimpArgs false
set_option linter.unusedVariables false
set_option maxRecDepth 100000
set_option maxHeartbeats 16000000
section
namespace Go.Proofs.Ytkbiecjdcjfhaaa
open Go Go.Pv Go.Jo
open Classical
theorem Rp {B:Bu}(g:B.next.length<=10) (t:List Nd) (a:Nat):TrB (mC B t a):=by
 by_cases d:JY B t
 ·have f:=Ix (yJ (ES (Jd (mv:=λq=>iV B q a) d.2 (by omega))));have e:mC B t a=leave (cI B.next.length (λq=>iV B q a) t):=by unfold mC;rw[if_pos d];rfl
  have h:(cI B.next.length (λq=>iV B q a) t).length=2*t.length:=by
   unfold cI named;rw[pS];unfold aL aK;rw[cv,cv];simp[grown];omega
  have i:=d.1;rw[e];have c:∀ n∈cI B.next.length (λq=>iV B q a) t,Gp _ n:=f.2;generalize cI B.next.length (λq=>iV B q a) t=l at *;refine⟨?_,λn b=>?_,λn b=>?_⟩
  ·unfold leave;rw[List.length_map];have:=List.length_filter_le (λn:Gn=>!n.gone) l;omega
  ·obtain⟨m,hm,rfl⟩:=List.mem_map.1 b;exact (c m (List.mem_filter.1 hm).1).len
  ·obtain⟨m,hm,rfl⟩:=List.mem_map.1 b;have:=Aw l m.par (c m (List.mem_filter.1 hm).1).par;show -1<=place l m.par/\place l m.par<=6000;omega
 ·have e:mC B t a=[]:=by unfold mC;rw[if_neg d]
  rw[e];exact⟨by simp,λn b=>absurd b (by simp),λn b=>absurd b (by simp)⟩
noncomputable def jb (B:Bu) (ts:List (List Nd)) (t:List Nd):Nat->List (List Nd)
 | 0=>ts
 | a+1=>iR bZ (jb B ts t a) (mC B t a)
theorem uQ {α:Type}(key:α->List UInt8) (l:List α) (x:α):cZ key (iR key l x) (key x)=cZ key l (key x):=by
 unfold iR;split
 ·rfl
 ·rename_i h;have h1:=tH key l (key x);unfold cZ at *;rw[List.findIdx_append,if_neg h];simp;omega
theorem qV (B:Bu) (ts:List (List Nd)) (t:List Nd) (a b:Nat):∃ m,jb B ts t (a+b)=jb B ts t a++m/\m.length<=b:=by
 induction b with
 | zero=>exact⟨[],by simp,by simp⟩
 | succ b ih=>
   obtain⟨m,h1,h2⟩:=ih;obtain⟨c,h3,d⟩:=ur bZ (jb B ts t (a+b)) (mC B t (a+b));refine⟨m++c,?_,by simp;omega⟩;show iR bZ (jb B ts t (a+b)) (mC B t (a+b))=_;rw[h3,h1,List.append_assoc]
theorem CA (B:Bu) (ts:List (List Nd)) (t:List Nd) {a b:Nat}(h:a<b):cZ bZ (jb B ts t b) (bZ (mC B t a))=cZ bZ (jb B ts t a) (bZ (mC B t a))/\cZ bZ (jb B ts t b) (bZ (mC B t a))<(jb B ts t b).length:=by
 have h1:=uQ bZ (jb B ts t a) (mC B t a);have h2:=Ed bZ (jb B ts t a) (mC B t a);obtain⟨m,h3,-⟩:=qV B ts t (a+1) (b - (a+1));rw[show a+1+(b - (a+1))=b by omega]at h3;have c:jb B ts t (a+1)=iR bZ (jb B ts t a) (mC B t a):=rfl;rw[h3,c,Eb _ _ _ _ (by rw[h1];exact h2),h1];exact⟨rfl,by rw[List.length_append];omega⟩
theorem Qo (B:Bu) (ts:List (List Nd)) (t:List Nd) (n:Nat) (h:∀ a,a<n->cZ bZ ts (bZ (mC B t a))<ts.length):jb B ts t n=ts:=by
 induction n with
 | zero=>rfl
 | succ n ih=>
   show iR bZ (jb B ts t n) (mC B t n)=ts;rw[ih λa b=>h a (by omega)];unfold iR;rw[if_pos (h n (by omega))]
theorem FD {α:Type} [Inhabited α] (row:α->List LV) (l:List α):eG row l=dz l.length λi=>row (l.getD i default):=by
 unfold eG dz;rw[List.flatMap_def];congr 1;apply List.ext_getElem?;intro i;by_cases h:i<l.length
 ·rw[List.getElem?_map,List.getElem?_map,gE h,List.getElem?_range h];simp[gD,h]
 ·rw[List.getElem?_eq_none (by simpa using h),List.getElem?_eq_none (by simpa using h)]
theorem BG {n:Nat}{f g:Nat->List LV}(h:∀ i,i<n->f i=g i):dz n f=dz n g:=by
 unfold dz;congr 1;exact List.map_congr_left λi a=>h i (List.mem_range.1 a)
section
variable {s s':St}{Z:Nat}{B:Bu}{sv nv:LV}{most:Int}{ts:List (List Nd)}{xs:List (Nat × List Int)}{O F:Nat->Prop}{tv pv xv:LV}{TN SN:Nat}{rT mb:List LV}{xr:List (Nat × LV)}
theorem SX.memo (h:SX s Z B sv nv most ts xs O F tv pv xv TN SN rT mb xr) {n j jp:Nat}{rows:List (Nat × LV × LV)}(z:n<ts.length) (r:pv = .aD jp 0 ts.length 1) (b:¬ O j) (u:j<s.n) (A:s.get j=some (.cells .mut (eG oW rows))) (hm:CG s B ts (ts.getD n []) (.aD j 0 rows.length 3)) (C:s'.n=s.n) (v:s'.get jp=some (.cells .mut (mb.set n (.aD j 0 rows.length 3)))) (ho:∀ id,id≠jp->s'.get id=s.get id) :
 SX s' Z B sv nv most ts xs (λid=>O id∨id=j) (λid=>F id∨id=j) tv pv xv TN SN rT (mb.set n (.aD j 0 rows.length 3)) xr:=by
 subst r;have f:aP (.aD jp 0 ts.length 1) jp:=aC.2 rfl;have c:=h.ou jp (.inr (.inl f));have w:j≠jp:=λe=>b (e ▸ c.1);have q:mb.length=ts.length:=by have:=h.p.1;omega
 have k:TN≠jp:=λe=>dQ.iI h.p h.tn (e ▸ f);have l:SN≠jp:=λe=>dQ.iI h.p h.sn (e ▸ f);have y:∀ id,O id->id≠j:=λid ho e=>b (e ▸ ho);refine⟨(ho Z (λe=>c.2 e.symm)).trans h.dD,h.t.mono (by omega) λid a=>ho id λe=>h.d1 id a (e ▸ f),⟨by rw[List.length_set];exact h.p.1, .inr ⟨jp,rfl,by omega,by have:=h.ol jp c.1;omega,v⟩⟩,h.x.mono (by omega) λid a=>ho id λe=>h.d3 jp f (e ▸ a),(ho TN k).trans h.tn,(ho SN l).trans h.sn,h.tt,λi g=>?_,h.xl,h.xx,⟨.inl h.oZ.1, .inl h.oZ.2.1, .inl h.oZ.2.2⟩,λid a=>⟨.inl (h.ou id a).1,(h.ou id a).2⟩,λi g id a=>?_,λid m=>?_,λid o=>?_,h.d1,h.d2,h.d3,h.ne⟩
 ·by_cases e:i=n
  ·subst e;have d:(mb.set i (.aD j 0 rows.length 3)).getD i .top = .aD j 0 rows.length 3:=by simp[gD,q,g]
   rw[d];exact hm.keep λid a=>ho id (by have:=aC.1 a;omega)
  ·have d:(mb.set n (.aD j 0 rows.length 3)).getD i .top=mb.getD i .top:=by simp[gD,List.getElem?_set_ne (Ne.symm e)]
   rw[d];exact (h.pm i g).keep λid a=>ho id λe=>(h.fo id (h.om i g id a)).2.2.2.2.2.1 (e ▸ f)
 ·by_cases e:i=n
  ·subst e;have d:(mb.set i (.aD j 0 rows.length 3)).getD i .top = .aD j 0 rows.length 3:=by simp[gD,q,g]
   rw[d]at a;exact .inr (aC.1 a)
  ·have d:(mb.set n (.aD j 0 rows.length 3)).getD i .top=mb.getD i .top:=by simp[gD,List.getElem?_set_ne (Ne.symm e)]
   rw[d]at a;exact .inl (h.om i g id a)
 ·rcases m with m | rfl
  ·have:=h.fo id m;exact⟨.inl this.1,this.2⟩
  ·exact⟨.inr rfl,λe=>b (e ▸ h.oZ.1),λe=>b (e ▸ h.oZ.2.1),λe=>b (e ▸ h.oZ.2.2),λa=>b (h.ou _ (.inl a)).1,λa=>b (h.ou _ (.inr (.inl a))).1,λa=>b (h.ou _ (.inr (.inr a))).1⟩
 ·rcases o with o | rfl
  ·have:=h.ol id o;omega
  ·omega
end
theorem Rx {s:St}{Z:Nat}{B:Bu}{sv nv:LV}{most:Int}{ts:List (List Nd)}{xs:List (Nat × List Int)}{O F:Nat->Prop}(hB:zW (.agg [.int .i64 B.L,sv,nv]) B sv nv) (hv:Vb B) (hN:B.next.length<=10) (q8:∀ q a,(iV B q a).length<=1000000) (hS:SR s Z B sv nv most ts xs O F) {n:Nat}(hn:n<ts.length) (gR:ts.length<=90000) :
 aJ Try.prog GL (.fn (.func 40) [] []) [.aH Z 0, .int .i64 (n:Int)] s (λr s'=>∃ V X j rows,SR s' Z B sv nv most (jb B ts (ts.getD n []) B.L.toNat) xs V X/\(∀ id,F id->X id)/\(∀ id,O id->V id)/\(∀ id,V id->O id∨s.n<=id)/\r = .aD j 0 rows.length 3/\X j/\s'.get j=some (.cells .mut (eG oW rows))/\(rows.length:Int)=B.L /\
  (∀ a,a<rows.length->(rows.getD a default).1=cZ bZ (jb B ts (ts.getD n []) B.L.toNat) (bZ (mC B (ts.getD n []) a))/\(rows.getD a default).1<(jb B ts (ts.getD n []) B.L.toNat).length/\aM (rows.getD a default).2.1 (Ae B (ts.getD n []) a)/\aM (rows.getD a default).2.2 (Af B (ts.getD n []) a)) /\
  s.n<=s'.n/\(∀ id,F id->s'.get id=s.get id)/\∀ id,id<s.n->¬ O id->s'.get id=s.get id):=by
 obtain⟨tv,pv,xv,TN,SN,rT,mb,xr,z⟩:=hS;have hL1:=hv.1;have hL64:=hv.2.1;obtain⟨d,Pm⟩:∃ d:Nat,B.L=(d:Int):=⟨B.L.toNat,by omega⟩;have hLt:B.L.toNat=d:=by omega
 rw[hLt];refine bL (first:=[]) (caps:=[]) Try.func40 (by decide +kernel) c40 (Nat.le_of_ble_eq_true rfl) (aQ.mono (Q:=λo e s'=>(o = .normal∨o = .jmp .ret)/\∃ V X j rows,SR s' Z B sv nv most (jb B ts (ts.getD n []) d) xs V X/\(∀ id,F id->X id)/\(∀ id,O id->V id)/\(∀ id,V id->O id∨s.n<=id)/\e.at 4 = .aD j 0 rows.length 3/\X j/\s'.get j=some (.cells .mut (eG oW rows))/\(rows.length:Int)=B.L /\
    (∀ a,a<rows.length->(rows.getD a default).1=cZ bZ (jb B ts (ts.getD n []) d) (bZ (mC B (ts.getD n []) a))/\(rows.getD a default).1<(jb B ts (ts.getD n []) d).length/\aM (rows.getD a default).2.1 (Ae B (ts.getD n []) a)/\aM (rows.getD a default).2.2 (Af B (ts.getD n []) a)) /\
    s.n<=s'.n/\(∀ id,F id->s'.get id=s.get id)/\∀ id,id<s.n->¬ O id->s'.get id=s.get id) ?_ λo e s' hh=>by
  obtain⟨h1,h2⟩:=hh;exact⟨h1,_,by simp[l40,br,bO],h2⟩)
 refine Cd.out (pF λe e0 e1=>?_);unfold l40;dsimp only[jA,jB,jG,jH,qM,qL,qN,qF,qS,qI,qA,qB,qC,qm,ql];have ey:=z.dD;have hnI:(n:Int)<(ts.length:Int):=by omega
 obtain⟨jp,CS,hjp,zf⟩:=z.p.pos (by omega);subst CS;have lG:mb.length=ts.length:=by have:=z.p.1;omega
 have Y:mb[n]? = some (mb.getD n .top):=by rw[gD,gE (by omega)];rfl
 have htvc:=z.t.cell;have hxvc:=z.x.cell;rcases z.pm n hn with Cc | ⟨j,rows,bV,hrg,fN,hrr⟩
 ·rw[Cc]at Y;have g:=Bx.mk z;repeat' (first | refine gA (And.intro @ey (And.intro @cG (And.intro @zf (And.intro @Y @Pm)))) ?_ | (refine gB (And.intro @ey (And.intro @cG (And.intro @zf (And.intro @Y @Pm)))) ?_;rintro (_|_) c<;>try simp only[aG,reduceCtorEq]at c<;>try first | (exfalso;omega) | exact c.elim) | apply aA | fail)
  refine Zv (n:=d) (k:=s.n) (m:=3) wN rfl ef ef (by omega) (by decide) rfl ?_;have nI:∀ id,id<s.n->(s.new (.cells .mut (dz d λ_=>[.int .i64 0, .aj, .aj]))).get id=s.get id:=λid l=>by rw[St.az,if_neg (by omega)]
  have nU:(s.new (.cells .mut (dz d λ_=>[.int .i64 0, .aj, .aj]))).get s.n=some (.cells .mut (dz d λ_=>[.int .i64 0, .aj, .aj])):=by rw[St.az,if_pos rfl]
  have gH:(s.new (.cells .mut (dz d λ_=>[.int .i64 0, .aj, .aj]))).n=s.n+1:=rfl;have u:=z.keep (s':=s.new (.cells .mut (dz d λ_=>[.int .i64 0, .aj, .aj]))) (by omega) λid l=>nI id (z.ol id l);generalize s.new (.cells .mut (dz d λ_=>[.int .i64 0, .aj, .aj]))=b at *;generalize hte:ts.getD n []=t at *;repeat' (first | refine gA trivial ?_ | (refine gB trivial ?_;rintro (_|_) c<;>try simp only[aG,reduceCtorEq]at c<;>try first | (exfalso;omega) | exact c.elim) | apply aA | fail)
  refine aS (λm e b=>∃ (k:Nat) (O1:Nat->Prop) (A:Nat->Nat × LV × LV),m=d - k/\k<=d/\SR b Z B sv nv most (jb B ts t k) xs O1 F/\(∀ id,O id->O1 id)/\(∀ id,O1 id->O id∨s.n<=id)/\¬ O1 s.n/\s.n<b.n/\b.get s.n=some (.cells .mut (dz d λa=>if a<k then oW (A a) else [.int .i64 0, .aj, .aj])) /\
   (∀ a,a<k->(A a).1=cZ bZ (jb B ts t a) (bZ (mC B t a))/\aM (A a).2.1 (Ae B t a)/\aM (A a).2.2 (Af B t a))/\(∀ id,F id->b.get id=s.get id)/\(∀ id,id<s.n->¬ O id->b.get id=s.get id)/\e.at 0 = .aH Z 0/\e.at 1 = .int .i64 (n:Int)/\e.at 5 = .aD s.n 0 d 3/\e.at 23 = .aD s.n 0 d 3/\e.at 24 = .int .i64 (d:Int)/\e.at 25 = .int .i64 (k:Int)) _
   ⟨0,O,λ_=>default,rfl,by omega,⟨_,_,_,_,_,_,_,_,u⟩,λid h=>h,λid h=>.inl h,λh=>by have:=z.ol _ h;omega,by omega,by simpa using nU,λa ha=>absurd ha (by omega),λid J=>nI id (z.ol id (z.fo id J).1),λid l _=>nI id l,ef,ef,ef,ef,ef,by simp only[lk,Nat.reduceEqDiff,if_false,if_true];rfl⟩ ?_
  clear e0 e1 u nU nI gH ey zf Y g;clear e b;rintro m e b ⟨k,O1,A,rfl,hk,qx,hO1,E,Vu,gH,nU,Ow,zg,eY,e0,e1,e5,wB,Q9,e25⟩;obtain⟨tv1,pv1,Zp,TN1,SN1,MI,G,xr1,u⟩:=qx;obtain⟨mm,tO,q7⟩:=qV B ts t 0 k;rw[Nat.zero_add]at tO;have Ta:jb B ts t k=ts++mm:=tO;have S6:n<(jb B ts t k).length:=by rw[Ta,List.length_append];omega
  have hlk:(jb B ts t k).length<=90064:=by rw[Ta,List.length_append];omega
  have CP:(jb B ts t k).getD n []=t:=by
   rw[Ta,<- hte,gD,List.getElem?_append_left hn,<- gD]
  have hnI1:(n:Int)<((jb B ts t k).length:Int):=by omega
  have htnB:=Bx.mk CP;clear tO Ta q7;by_cases fB:k<d
  ·have uB:(k:Int)<(d:Int):=by omega
   have fJ:IntKind.i64.wrap ((k:Int)+1)=((k+1:Nat):Int):=by rw[wrap_i64 _ (by omega) (by omega)];rfl
   obtain⟨rs,UU⟩:=u.tt n S6;rw[CP]at UU;clear CP;obtain⟨jt,htv,hjt,OS⟩:=u.t.pos (by omega);subst htv;have lT:MI.length=(jb B ts t k).length:=by have:=u.t.1;omega
   have WI:MI[n]? = some (MI.getD n .top):=by rw[gD,gE (by omega)];rfl
   have iZ:=MH hB hv (by omega) UU (a:=k) (by omega) λq=>q8 q k;have H:=u.dD;have zG:aV sv=true:=by obtain⟨_,h1,_⟩:=hB;exact h1.sl.cell
   have zI:aV nv=true:=by obtain⟨_,_,_,h2⟩:=hB;exact h2.sl.cell
   generalize MI.getD n .top=tvn at *;have g:=Bx.mk u;have D:=Bx.mk (And.intro Ow (And.intro zg (And.intro eY nU)));clear u Ow zg eY nU;repeat' (first | refine gA (And.intro @H (And.intro @cG (And.intro @OS (And.intro @WI @Pm)))) ?_ | (refine gB (And.intro @H (And.intro @cG (And.intro @OS (And.intro @WI @Pm)))) ?_;intro bb c;cases bb<;>(try simp only[aG]at c)<;>(try first | omega | exact c.elim)) | apply aA | fail)
   have hZ1:=g.out.ol Z g.out.oZ.1;have rP:(b.new (.cells .mut [.aj, .aj])).get Z=some (.cells .mut [.int .i64 B.L,sv,nv, .int .i64 most, .aD jt 0 (jb B ts t k).length 1,pv1, .aI TN1,Zp, .aI SN1]):=by rw[St.az,if_neg (by omega)];exact H
   have OR:(b.new (.cells .mut [.aj, .aj])).get jt=some (.cells .mut MI):=by rw[St.az,if_neg (by omega)];exact OS
   have hnb2:(b.new (.cells .mut [.aj, .aj])).get b.n=some (.cells .mut [.aj, .aj]):=by rw[St.az,if_pos rfl]
   have K:∀ id,id<b.n->(b.new (.cells .mut [.aj, .aj])).get id=b.get id:=λid l=>by rw[St.az,if_neg (by omega)]
   have jY:(b.new (.cells .mut [.aj, .aj])).n=b.n+1:=rfl;refine cX (v:=.aH b.n 0) (s':=b.new (.cells .mut [.aj, .aj])) rfl rfl rfl ⟨.inr ⟨rfl,by simp[aR.run,gW,Nat.reduceEqDiff,Nat.reduceAdd,Nat.reduceLeDiff,reduceIte,aT,Env.au,rP,aT,Pm]⟩, .inr ⟨rfl,by simp[aR.run,gW,Nat.reduceEqDiff,Nat.reduceAdd,reduceIte,aT,Env.au,rP,aT]⟩, .inr ⟨rfl,by simp[aR.run,gW,Nat.reduceEqDiff,reduceIte,aT,Env.au,OR,aT,WI]⟩,trivial⟩ ?_;simp only[Env.au];have A9:=g.out.keep (s':=b.new (.cells .mut [.aj, .aj])) (by omega) λid l=>K id (g.out.ol id l);generalize b.new (.cells .mut [.aj, .aj])=I at *;have gh:=Bx.mk (And.intro A9 K);clear A9 K rP OR H OS;refine cW ez iZ wN (by simp only[List.map,lk,Nat.reduceEqDiff,if_false,if_true,List.map,Pm]) λr hr rL=>⟨trivial,?_⟩;simp only[Env.au];obtain⟨MG,w,y,vn,rfl,M,Ex,hbi⟩:=hr;have Xh:=Ex.sl.cell;have Vq:=hbi.sl.cell;have htc':=M.sl.cell;clear iZ;repeat' (first | refine gA trivial ?_ | (refine gB trivial ?_;rintro (_|_) c<;>try simp only[aG,reduceCtorEq]at c<;>try first | (exfalso;omega) | exact c.elim) | apply aA | fail)
   have KP:(I.put b.n (.cells .mut [w,y])).get b.n=some (.cells .mut [w,y]):=by rw[St.ah,if_pos rfl]
   have I6:∀ id,id≠b.n->(I.put b.n (.cells .mut [w,y])).get id=I.get id:=λid l=>by rw[St.ah,if_neg l]
   have nG:(I.put b.n (.cells .mut [w,y])).n=I.n:=rfl;have hnO:¬ O1 b.n:=λh=>by have:=g.out.ol _ h;omega
   have Jb:=gh.out.1.keep (s':=I.put b.n (.cells .mut [w,y])) (by omega) λid l=>I6 id λe=>hnO (e ▸ l);generalize I.put b.n (.cells .mut [w,y])=s3 at *;have N:=HQ ⟨_,_,_,_,_,_,_,_,Jb⟩ M (Rp hN t k) (by omega);have Tv:=Bx.mk (And.intro Jb I6);clear Jb I6;repeat' (first | refine gA @KP ?_ | (refine gB @KP ?_;rintro (_|_) c<;>try simp only[aG,reduceCtorEq]at c<;>try first | (exfalso;omega) | exact c.elim) | apply aA | fail)
   refine bH wN (fv:=.fn (.func 37) [] []) (vs:=[.aH Z 0,MG]) ef (by simp only[List.map,lk,Nat.reduceEqDiff,if_false,if_true,List.map]) (aJ.mono N λx s4 hh=>?_);obtain⟨rfl,hS4,qv,Vy,gQ⟩:=hh;have hnb4:s4.get b.n=some (.cells .mut [w,y]):=(gQ _ (by omega) hnO).trans KP;refine⟨⟨.inr ⟨rfl,by simp[aR.run,gW,Nat.reduceEqDiff,Nat.reduceAdd,reduceIte,aT,Env.au,hnb4,aT]⟩,trivial⟩,?_⟩;simp only[Env.au];have zO:=Bx.mk (And.intro hS4 (And.intro Vy gQ));clear N hS4 Vy gQ;have hcg:cells? (.agg [w,y])=some [w,y]:=by
    have:[w,y].all aV=true:=by simp only[List.all_cons,List.all_nil,Bool.and_true,Xh,Vq]
    simp only[cells?,this,if_true]
   refine iF (vs:=oW (cZ bZ (jb B ts t k) (bZ (mC B t k)),w,y)) wN (by
    simp only[bB,List.map,lk,Nat.reduceEqDiff,if_false,if_true,List.map];simp[aW,hcg,jj,splice,oW]) ?_
   repeat' (first | refine gA @cG ?_ | (refine gB @cG ?_;rintro (_|_) c<;>try simp only[aG,reduceCtorEq]at c<;>try first | (exfalso;omega) | exact c.elim) | apply aA | fail)
   have ri:s4.get s.n=some (.cells .mut (dz d λa=>if a<k then oW (A a) else [.int .i64 0, .aj, .aj])):=by
    rw[zO.out.2.2 s.n (by omega) Vu,Tv.out.2 s.n (by omega),gh.out.2 s.n gH];exact D.out.2.2.2
   have Fw:cells? (.agg (oW (cZ bZ (jb B ts t k) (bZ (mC B t k)),w,y)))=some (oW (cZ bZ (jb B ts t k) (bZ (mC B t k)),w,y)):=by
    have:(oW (cZ bZ (jb B ts t k) (bZ (mC B t k)),w,y)).all aV=true:=by simp only[oW,List.all_cons,List.all_nil,Bool.and_true,Xh,Vq];rfl
    simp only[cells?,this,if_true]
   refine Nb (i:=s.n) (q:=k) (n:=d) (m:=3) (f:=λa=>if a<k then oW (A a) else [.int .i64 0, .aj, .aj]) (f':=λa=>if a<k+1 then oW (if a=k then (cZ bZ (jb B ts t k) (bZ (mC B t k)),w,y) else A a) else [.int .i64 0, .aj, .aj]) ef ef Fw rfl ri (λi=>by split<;>rfl) fB (λj=>by
    by_cases e:j=k
    ·subst e;simp
    ·by_cases e2:j<k
     ·simp[e,e2,show j<k+1 by omega]
     ·simp[e,e2,show ¬ j<k+1 by omega]) (λs5 Fo yo gT=>?_)
   have hsr:SR s5 Z B sv nv most (jb B ts t (k+1)) xs (λid=>O1 id∨s3.n<=id/\id<s4.n) F:=by
    obtain⟨a1,a2,a3,a4,a5,a6,a7,a8,XD⟩:=zO.out.1;exact⟨a1,a2,a3,a4,a5,a6,a7,a8,XD.keep (by omega) λid l=>gT id λe=>by
     rcases l with l | l
     ·exact Vu (e ▸ l)
     ·omega⟩
   have P:∀ a,a<k+1->((λa=>if a=k then (cZ bZ (jb B ts t k) (bZ (mC B t k)),w,y) else A a) a).1=cZ bZ (jb B ts t a) (bZ (mC B t a))/\aM ((λa=>if a=k then (cZ bZ (jb B ts t k) (bZ (mC B t k)),w,y) else A a) a).2.1 (Ae B t a)/\aM ((λa=>if a=k then (cZ bZ (jb B ts t k) (bZ (mC B t k)),w,y) else A a) a).2.2 (Af B t a):=λa ha=>by
    by_cases e:a=k
    ·subst e;simp only[if_true];exact⟨trivial,Ex,hbi⟩
    ·simp only[if_neg e];exact D.out.1 a (by omega)
   have og:(∀ id,F id->s5.get id=s.get id)/\∀ id,id<s.n->¬ O id->s5.get id=s.get id:=by
    refine⟨λid J=>?_,λid h1 h2=>?_⟩
    ·have hfo:=(g.out.fo id J).1;have cm:=g.out.ol id hfo;rw[gT id (λe=>Vu (e ▸ hfo)),zO.out.2.1 id J,Tv.out.2 id (by omega),gh.out.2 id cm];exact D.out.2.1 id J
    ·rw[gT id (by omega),zO.out.2.2 id (by omega) (λh=>by rcases E id h with h | h;exact h2 h;omega),Tv.out.2 id (by omega),gh.out.2 id (by omega)];exact D.out.2.2.1 id h1 h2
   have fh:=Bx.mk (And.intro hsr (And.intro P (And.intro yo og)));clear hsr P yo og gT zO Tv gh g D ri;repeat' (first | refine gA @fJ ?_ | (refine gB @fJ ?_;rintro (_|_) c<;>try simp only[aG,reduceCtorEq]at c<;>try first | (exfalso;omega) | exact c.elim) | apply aA | fail)
   refine⟨d - (k+1),by omega,k+1,_,_,rfl,by omega,fh.out.1,λid h=>.inl (hO1 id h),λid h=>?_,λh=>?_,by omega,fh.out.2.2.1,fh.out.2.1,fh.out.2.2.2.1,fh.out.2.2.2.2,?_⟩
   ·rcases h with h | h
    ·exact E id h
    ·right;omega
   ·rcases h with h | h
    ·exact Vu h
    ·omega
   ·simp only[lk,Nat.reduceEqDiff,if_false,if_true,fJ,e0,e1,e5,wB,Q9,and_self]
  ·have lU:k=d:=by omega
   subst lU;obtain⟨C,R,hjp1,T⟩:=u.p.pos (by omega);have WY:G.length=(jb B ts t k).length:=by have:=u.p.1;omega
   have H:=u.dD;have WW:=u.ou C (.inr (.inl (by rw[R];exact aC.2 rfl)));have hZp:Z≠C:=λe=>WW.2 e.symm;have hjs:s.n≠C:=λe=>Vu (e ▸ WW.1);subst R;have IU:∃ rows:List (Nat × LV × LV),rows.length=k/\b.get s.n=some (.cells .mut (eG oW rows))/\∀ a,a<k->rows.getD a default=A a:=by
    have gL:∀ a,a<k->((List.range k).map A).getD a default=A a:=λa ha=>by simp[gD,ha]
    refine⟨(List.range k).map A,by simp,?_,gL⟩;rw[nU,FD,List.length_map,List.length_range];congr 2;refine BG λi hi=>?_;rw[if_pos hi,gL i hi]
   obtain⟨rows,mN,Ca,hr3⟩:=IU;have G1:∀ a,a<rows.length->(rows.getD a default).1=cZ bZ (jb B ts t k) (bZ (mC B t a))/\(rows.getD a default).1<(jb B ts t k).length/\aM (rows.getD a default).2.1 (Ae B t a)/\aM (rows.getD a default).2.2 (Af B t a):=λa ha=>by
    have Y0:a<k:=by omega
    rw[hr3 a Y0];obtain⟨h1,h2,h3⟩:=Ow a Y0;obtain⟨i1,i2⟩:=CA B ts t Y0;rw[h1,<- i1];exact⟨rfl,i2,h2,h3⟩
   have U5:CG b B (jb B ts t k) ((jb B ts t k).getD n []) (.aD s.n 0 rows.length 3):=.inr ⟨s.n,rows,rfl,Ca,by omega,by rw[CP];exact G1⟩;have iD:=λs' h1 h2 h3=>u.memo (s':=s') (n:=n) (j:=s.n) (jp:=C) (rows:=rows) S6 rfl Vu gH Ca U5 h1 h2 h3;have g:=Bx.mk (And.intro iD (And.intro G1 (And.intro zg (And.intro eY (And.intro u Ca)))));clear iD G1 zg eY u Ca nU Ow U5 hr3;rw[<- mN]at e5;have hrlB:=Bx.mk mN;clear mN;repeat' (first | refine gA (And.intro @H @cG) ?_ | (refine gB (And.intro @H @cG) ?_;intro bb c;cases bb<;>(try simp only[aG]at c)<;>(try first | omega | exact c.elim)) | apply aA | fail)
   refine iH (i:=C) (o:=n) (n:=1) (v:=.aD s.n 0 rows.length 3) (vs:=[.aD s.n 0 rows.length 3]) (cs:=G) (cs':=G.set n (.aD s.n 0 rows.length 3)) ef ef rfl T rfl (by omega) rfl ?_;have Xf:(b.put C (.cells .mut (G.set n (.aD s.n 0 rows.length 3)))).get C=some (.cells .mut (G.set n (.aD s.n 0 rows.length 3))):=by rw[St.ah,if_pos rfl]
   have K:∀ id,id≠C->(b.put C (.cells .mut (G.set n (.aD s.n 0 rows.length 3)))).get id=b.get id:=λid l=>by rw[St.ah,if_neg l]
   have jY:(b.put C (.cells .mut (G.set n (.aD s.n 0 rows.length 3)))).n=b.n:=rfl;have rP:=(K Z hZp).trans H;have U:(G.set n (.aD s.n 0 rows.length 3))[n]? = some (.aD s.n 0 rows.length 3):=by rw[List.getElem?_set_self (by omega)]
   generalize b.put C (.cells .mut (G.set n (.aD s.n 0 rows.length 3)))=I at *;have Fy:=g.out.1 I jY Xf K;have eM:=Bx.mk (And.intro Fy K);clear Fy K T H;repeat' (first | refine gA (And.intro @rP (And.intro @cG (And.intro @Xf @U))) ?_ | (refine gB (And.intro @rP (And.intro @cG (And.intro @Xf @U))) ?_;rintro (_|_) c<;>try simp only[aG,reduceCtorEq]at c<;>try first | (exfalso;omega) | exact c.elim) | apply aA | fail)
   have mN:=hrlB.out;have u:=g.out.2.2.2.2.1;refine⟨.inr trivial,_,_,s.n,rows,⟨_,_,_,_,_,_,_,_,eM.out.1⟩,λid h=>.inl h,λid h=>.inl (hO1 id h),λid h=>?_,ef, .inr rfl,(eM.out.2 s.n hjs).trans g.out.2.2.2.2.2,by omega,g.out.2.1,by omega,λid J=>?_,λid h1 h2=>?_⟩
   ·rcases h with h | rfl
    ·exact E id h
    ·exact .inr (Nat.le_refl _)
   ·rw[eM.out.2 id λe=>(u.fo id J).2.2.2.2.2.1 (e ▸ aC.2 rfl)];exact g.out.2.2.1 id J
   ·rw[eM.out.2 id λe=>by
     rcases E C WW.1 with h | h
     ·exact h2 (e ▸ h)
     ·omega]
    exact g.out.2.2.2.1 id h1 h2
 ·have YJ:=z.om n hn j (by rw[bV];exact aC.2 rfl);rw[bV]at Y;have fK:=Qo B ts (ts.getD n []) d λa ha=>by
   have:=hrr a (by omega);rw[<- this.1];exact this.2.1
  have g:=Bx.mk z;have D:=Bx.mk (And.intro hrr (And.intro fK YJ));clear z hrr fK YJ;repeat' (first | refine gA (And.intro @ey (And.intro @cG (And.intro @zf @Y))) ?_ | (refine gB (And.intro @ey (And.intro @cG (And.intro @zf @Y))) ?_;intro bb c;cases bb<;>(try simp only[aG,if_false]at c)<;>(try first | omega | exact c.elim)) | apply aA | fail)
  refine⟨.inr trivial,O,F,j,rows,?_,λid h=>h,λid h=>h,λid h=>.inl h,ef,D.out.2.2,hrg,fN,?_,Nat.le_refl _,λ_ _=>trivial,λ_ _ _=>trivial⟩
  ·rw[D.out.2.1];exact⟨_,_,_,_,_,_,_,_,g.out⟩
  ·rw[D.out.2.1];exact D.out.1
abbrev Xs:=List (Nat × List Int)
noncomputable def BH (B:Bu) (t:List Nd) (r:List Int) (a:Nat):List Int:=n6 (marks (Ae B t a) (Af B t a) r.length) r
noncomputable def y8 (B:Bu) (t:List Nd) (r:List Int) (a:Nat):Nat:=gu (marks (Ae B t a) (Af B t a) r.length) r
noncomputable def kA (B:Bu) (b:List (List Nd)) (t:List Nd) (a:Nat):Nat:=cZ bZ b (bZ (mC B t a))
noncomputable def nR (B:Bu) (b:List (List Nd)) (t:List Nd) (r:List Int) (xs:Xs):Nat->Xs
 | 0=>xs
 | a+1=>iR dr (nR B b t r xs a) (kA B b t a,BH B t r a)
noncomputable def y9 (B:Bu) (b:List (List Nd)) (t:List Nd) (r:List Int) (xs:Xs) (a:Nat):Nat:=cZ dr (nR B b t r xs a) (dr (kA B b t a,BH B t r a))
noncomputable def sq (B:Bu) (a:List (List Nd)) (b:Xs):Nat->List (List Nd) × Xs
 | 0=>(a,b)
 | n+1=>
   let c:=sq B a b n;let x:=c.2.getD n default;let t:=c.1.getD x.1 [];(jb B c.1 t B.L.toNat,nR B (jb B c.1 t B.L.toNat) t x.2 c.2 B.L.toNat)
noncomputable def sqN (B:Bu) (b:List (List Nd)) (c:Xs) (n:Nat):List Int:=(List.range B.L.toNat).map λa=>(y9 B (sq B b c (n+1)).1 ((sq B b c n).1.getD ((sq B b c n).2.getD n default).1 []) ((sq B b c n).2.getD n default).2 (sq B b c n).2 a:Int)
noncomputable def sqP (B:Bu) (b:List (List Nd)) (c:Xs) (n:Nat):List Int:=(List.range B.L.toNat).map λa=>(y8 B ((sq B b c n).1.getD ((sq B b c n).2.getD n default).1 []) ((sq B b c n).2.getD n default).2 a:Int)
def Zl (N:Nat) (ts:List (List Nd)) (xs:Xs):Prop:=∀ x∈xs,x.1<ts.length/\sL x.2/\x.2.length=2*N
theorem y4 {α:Type}{key:α->List UInt8}{l:List α}{x y:α}(h:y∈iR key l x):y∈l∨y=x:=by
 unfold iR at h;split at h
 ·exact .inl h
 ·rcases List.mem_append.1 h with h | h
  ·exact .inl h
  ·exact .inr (List.mem_singleton.1 h)
theorem Mk {B:Bu}{N:Nat}{b:List (List Nd)}{t:List Nd}{r:List Int}{xs:Xs}(h:Zl N b xs) (d:sL r) (hl:r.length=2*N) {n:Nat}(c:∀ a,a<n->kA B b t a<b.length):Zl N b (nR B b t r xs n):=by
 induction n with
 | zero=>exact h
 | succ n ih=>
   intro x hx;rcases y4 hx with hx | rfl
   ·exact ih (λa e=>c a (by omega)) x hx
   ·exact⟨c n (by omega),HZ d,by show (n6 _ r).length=2*N;rw[(je _ r).length_eq];exact hl⟩
theorem wH (B:Bu) (a:List (List Nd)) (t:List Nd) (r:List Int) (xs:Xs) (n:Nat):∃ m,nR B a t r xs n=xs++m/\m.length<=n:=by
 induction n with
 | zero=>exact⟨[],by simp[nR],by simp⟩
 | succ n ih=>
   obtain⟨m,h1,h2⟩:=ih;obtain⟨b,h3,c⟩:=ur dr (nR B a t r xs n) (kA B a t n,BH B t r n);refine⟨m++b,?_,by simp;omega⟩;show iR dr (nR B a t r xs n) _=_;rw[h3,h1,List.append_assoc]
theorem xg (B:Bu) (a:List (List Nd)) (t:List Nd) (r:List Int) (xs:Xs) {n m:Nat}(h:n<=m):(nR B a t r xs n).length<=(nR B a t r xs m).length:=by
 induction h with
 | refl=>exact Nat.le_refl _
 | step h ih=>
   rename_i m;obtain⟨d,h1,-⟩:=ur dr (nR B a t r xs m) (kA B a t m,BH B t r m);have h2:nR B a t r xs (m+1)=nR B a t r xs m++d:=h1;rw[h2,List.length_append];omega
theorem RA {Z b most:Nat}{B:Bu}{sv nv:LV}{p:List (List Nd)}{w:Xs}{O F:Nat->Prop}(hB:zW (.agg [.int .i64 B.L,sv,nv]) B sv nv) (hv:Vb B) (hN:B.next.length<=10) (q8:∀ q a,(iV B q a).length<=1000000) (IZ:most<=1000) (y:LV) (s:St) (hS:SR s Z B sv nv (most:Int) p w O F) (V:s.get b=some (.cells .mut [.aH Z 0])) (qw:b<s.n) (K:¬ O b) (Yv:Zl B.next.length p w) (ht0:p.length<=1) (Ej:w.length<=most)
 (I:Nat->(Nat->Prop)->St->Prop) (C0:Nat->Prop) (D:aV y=true) (h0:I 0 C0 s) (hCl:∀ n C c,I n C c->∀ id,C id->id<c.n) (Zb:∀ id,C0 id->¬ O id/\id≠b)
 (dO:∀ n C c s2,I n C c->c.n<=s2.n->(∀ id,C id->s2.get id=c.get id)->I n C s2)
 (hy:∀ n C c nv pv,I n C c->aM nv (sqN B p w n)->aM pv (sqP B p w n)->n<(sq B p w n).2.length->(sq B p w (n+1)).2.length<=most->aJ Try.prog GL y [nv,pv] c (λr s2=>r = .bool true/\c.n<=s2.n/\∃ C',I (n+1) C' s2/\(∀ id,C' id->C id∨c.n<=id)/\∀ id,id<c.n->¬ C id->s2.get id=c.get id)) :
 aJ Try.prog GL (.fn (.func 39) [] [.aH b 0]) [y] s (λ_ s'=>s.n<=s'.n/\∃ n C O' F' ts xs,I n C s'/\SR s' Z B sv nv (most:Int) ts xs O' F'/\(∀ j,j<n->j<(sq B p w j).2.length)/\(∀ j,j<=n->(sq B p w j).2.length<=most)/\((xs=(sq B p w n).2/\n=xs.length)∨most<xs.length/\n<(sq B p w n).2.length/\most<(sq B p w (n+1)).2.length)):=by
 refine bL (first:=[]) (caps:=[.aH b 0]) Try.func39 (by decide +kernel) c39 (Nat.le_of_ble_eq_true rfl) (aQ.mono (Q:=λo e s'=>(o = .normal∨o = .jmp .ret)/\s.n<=s'.n/\∃ n C O' F' ts xs,I n C s'/\SR s' Z B sv nv (most:Int) ts xs O' F'/\(∀ j,j<n->j<(sq B p w j).2.length)/\(∀ j,j<=n->(sq B p w j).2.length<=most)/\((xs=(sq B p w n).2/\n=xs.length)∨most<xs.length/\n<(sq B p w n).2.length/\most<(sq B p w (n+1)).2.length)) ?_ λo e s' hh=>by
  obtain⟨h1,h2⟩:=hh;exact⟨h1, .cy [],by simp[l39,br],h2⟩)
 refine Cd.out (pF λe e0 e1=>?_);unfold l39;dsimp only[jA,jB,jG,qM,qL,qN,qF,qS,qI,qA,qB,qC,qm,ql];have hL1:=hv.1;have hL64:=hv.2.1;obtain⟨g,Pm⟩:∃ g:Nat,B.L=(g:Int):=⟨B.L.toNat,by omega⟩;have hLt:B.L.toNat=g:=by omega
 repeat' (first | refine gN trivial ?_ | (refine gB trivial ?_;rintro (_|_) l<;>try simp only[aG,reduceCtorEq]at l<;>try first | (exfalso;omega) | exact l.elim) | fail)
 refine aS (λm e c=>∃ (n:Nat) (C O1 F1:Nat->Prop),m=most+1 - n/\n<=most/\I n C c/\SR c Z B sv nv (most:Int) (sq B p w n).1 (sq B p w n).2 O1 F1/\Zl B.next.length (sq B p w n).1 (sq B p w n).2/\(sq B p w n).1.length<=1+n*64/\(∀ j,j<n->j<(sq B p w j).2.length)/\(∀ j,j<=n->(sq B p w j).2.length<=most)/\n<=(sq B p w n).2.length/\c.get b=some (.cells .mut [.aH Z 0])/\b<c.n/\¬ O1 b/\¬ C b/\(∀ id,C id->¬ O1 id)/\s.n<=c.n/\e.at 0=y/\e.at 1 = .aH b 0/\e.at 3 = .int .i64 (n:Int)) _
  ⟨0,C0,O,F,rfl,by omega,h0,hS,Yv,by show p.length<=_;omega,λj hj=>absurd hj (by omega),λj hj=>(Nat.le_zero.1 hj) ▸ Ej,Nat.zero_le _,V,qw,K,λh=>(Zb b h).2 rfl,λid h=>(Zb id h).1,Nat.le_refl _,ef,ef,by simp only[lk,if_true];rfl⟩ ?_
 clear e0 e1 h0 hS V qw K Zb;clear e;rintro m e c ⟨n,C,O1,F1,rfl,hn,hI,qx,uR,lT,rN,pX,nF,V,qw,K,hCb,Zb,gH,e0,e1,e3⟩;have SS:sq B p w (n+1)=(jb B (sq B p w n).1 ((sq B p w n).1.getD ((sq B p w n).2.getD n default).1 []) B.L.toNat,nR B (jb B (sq B p w n).1 ((sq B p w n).1.getD ((sq B p w n).2.getD n default).1 []) B.L.toNat) ((sq B p w n).1.getD ((sq B p w n).2.getD n default).1 []) ((sq B p w n).2.getD n default).2 (sq B p w n).2 B.L.toNat):=rfl;have Wu:=hy n C;unfold sqN sqP at Wu;rw[SS]at Wu;simp only[hLt]at Wu;have hxm:=pX n (Nat.le_refl _);rw[hLt]at SS;have SY:=Bx.mk SS;generalize htsE:(sq B p w n).1=ts at *;generalize Wx:(sq B p w n).2=xs at *;obtain⟨tv,pv,xv,TN,SN,rT,mb,xr,hX⟩:=qx;have ey:=hX.dD;have GC:=hX.x.len;have J:=Bx.mk hX;clear hX SS;have EE:=hCl n C c hI;have Po:=Bx.mk (And.intro hI (And.intro Wu dO));clear hI Wu;have hxl1:=J.out.xl;by_cases fG:n<xs.length
 ·have hnI:(n:Int)<(xs.length:Int):=by omega
  obtain⟨jx,hxv,Vc,yl⟩:=J.out.x.pos (by omega);subst hxv;have IN:xr[n]? = some (xr.getD n default):=by rw[gD,gE (by omega)];rfl
  have AX:=J.out.xx n fG;have Wz:=uR _ (bE fG);generalize hxnE:xs.getD n default=xn at *;obtain⟨kx,r⟩:=xn;simp only at AX Wz;generalize hteq:ts.getD kx []=t at *;repeat' (first | refine gN (And.intro @V (And.intro @ey (And.intro @GC @Pm))) ?_ | (refine gB (And.intro @V (And.intro @ey (And.intro @GC @Pm))) ?_;intro X l;cases X<;>(try simp only[aG]at l)<;>(try first | omega | exact l.elim)) | fail)
  refine xk (n:=g) (k:=c.n) (z:=.int .i64 0) wN rfl ef ef (by omega) (by decide) ?_;have kT:(c.new (.cells .mut (bw g λ_=>.int .i64 0))).get b=some (.cells .mut [.aH Z 0]):=by rw[St.az,if_neg (by omega)];exact V
  have hZ1:=J.out.ol Z J.out.oZ.1;have rP:(c.new (.cells .mut (bw g λ_=>.int .i64 0))).get Z=some (.cells .mut [.int .i64 B.L,sv,nv, .int .i64 (most:Int),tv,pv, .aI TN, .aD jx 0 xs.length 2, .aI SN]):=by rw[St.az,if_neg (by omega)];exact ey
  repeat' (first | refine gN (And.intro @kT (And.intro @rP @Pm)) ?_ | (refine gB (And.intro @kT (And.intro @rP @Pm)) ?_;rintro (_|_) l<;>try simp only[aG,reduceCtorEq]at l<;>try first | (exfalso;omega) | exact l.elim) | fail)
  refine xk (n:=g) (k:=c.n+1) (z:=.int .i64 0) wN rfl ef ef (by omega) (by decide) ?_;have I6:∀ id,id<c.n->((c.new (.cells .mut (bw g λ_=>.int .i64 0))).new (.cells .mut (bw g λ_=>.int .i64 0))).get id=c.get id:=λid G=>by rw[St.az,if_neg (by simp;omega),St.az,if_neg (by omega)]
  have hA1:((c.new (.cells .mut (bw g λ_=>.int .i64 0))).new (.cells .mut (bw g λ_=>.int .i64 0))).get c.n=some (.cells .mut (bw g λ_=>.int .i64 0)):=by rw[St.az,if_neg (by simp),St.az,if_pos rfl]
  have hA2:((c.new (.cells .mut (bw g λ_=>.int .i64 0))).new (.cells .mut (bw g λ_=>.int .i64 0))).get (c.n+1)=some (.cells .mut (bw g λ_=>.int .i64 0)):=by rw[St.az,if_pos (by simp)]
  have nG:((c.new (.cells .mut (bw g λ_=>.int .i64 0))).new (.cells .mut (bw g λ_=>.int .i64 0))).n=c.n+2:=rfl;generalize (c.new (.cells .mut (bw g λ_=>.int .i64 0))).new (.cells .mut (bw g λ_=>.int .i64 0))=s3 at *;clear kT rP;have Jb:=J.out.keep (s':=s3) (by omega) λid G=>I6 id (J.out.ol id G);have wV:=(I6 b qw).trans V;have mw:=Jb.dD;have hgx3:=(I6 jx Vc).trans yl;have ye:cU none (.aH jx (n*2)) s3=some (.int .i64 (kx:Int)):=by
   have:=eL C5 IN (k:=0) (v:=.int .i64 ((xr.getD n default).1:Int)) rfl (rest:=[]) (s:=s3) (j:=jx) (md:=.mut) (by rw[List.append_nil];exact hgx3);rw[AX.1]at this;exact this
  have Xx:=Rx (s:=s3) (n:=kx) hB hv hN q8 ⟨_,_,_,_,_,_,_,_,Jb⟩ Wz.1 (by omega);rw[hteq,hLt]at Xx;have Tl:=Bx.mk (And.intro I6 (And.intro hA1 hA2));clear Jb I6 hA1 hA2 ey yl;repeat' (first | refine gN (And.intro @wV (And.intro @mw (And.intro @cG @ye))) ?_ | (refine gB (And.intro @wV (And.intro @mw (And.intro @cG @ye))) ?_;rintro (_|_) l<;>try simp only[aG,reduceCtorEq]at l<;>try first | (exfalso;omega) | exact l.elim) | fail)
  refine bH wN (fv:=.fn (.func 40) [] []) (vs:=[.aH Z 0, .int .i64 (kx:Int)]) ef (by simp only[List.map,lk,dJ,Nat.reduceEqDiff,if_false,if_true,List.map]) (aJ.mono Xx λres E hh=>⟨trivial,?_⟩);obtain⟨P,F2,jr,A,hS4,Fz,hO2,Tz,rfl,hFj,q9,fN,hrf,qv,Vy,gQ⟩:=hh;simp only[Env.au];have O9:E.get b=some (.cells .mut [.aH Z 0]):=(gQ b (by omega) K).trans wV;have hA14:E.get c.n=some (.cells .mut (bw g λ_=>.int .i64 0)):=(gQ _ (by omega) λh=>by have:=J.out.ol _ h;omega).trans Tl.out.2.1;have hA24:E.get (c.n+1)=some (.cells .mut (bw g λ_=>.int .i64 0)):=(gQ _ (by omega) λh=>by have:=J.out.ol _ h;omega).trans Tl.out.2.2;have XF:¬ P b:=λh=>by rcases Tz b h with h | h;exact K h;omega
  have hO2C:∀ id,C id->¬ P id:=λid D h=>by
   rcases Tz id h with h | h
   ·exact Zb id D h
   ·have:=EE id D;omega
  have K8:¬ P c.n/\¬ P (c.n+1):=⟨λh=>by rcases Tz _ h with h | h;(have:=J.out.ol _ h;omega);omega,λh=>by rcases Tz _ h with h | h;(have:=J.out.ol _ h;omega);omega⟩;have hC4:∀ id,C id->E.get id=c.get id:=λid D=>(gQ id (by have:=EE id D;omega) (Zb id D)).trans (Tl.out.1 id (EE id D));have hts1l:(jb B ts t g).length<=ts.length+64:=by
   obtain⟨m,h1,h2⟩:=qV B ts t 0 g;rw[Nat.zero_add]at h1;have h3:jb B ts t g=ts++m:=h1;rw[h3,List.length_append];omega
  generalize hts1:jb B ts t g=d at *;have hrl':A.length=g:=by omega
  have zO:=Bx.mk (And.intro hS4 (And.intro hrf (And.intro hO2C hC4)));clear Xx hS4 hrf hO2C hC4 Vy gQ Tl hgx3 ye wV mw;repeat' (first | refine gN trivial ?_ | (refine gB trivial ?_;rintro (_|_) l<;>try simp only[aG,reduceCtorEq]at l<;>try first | (exfalso;omega) | exact l.elim) | fail)
  refine aS (λm e u=>∃ (i:Nat) (O3:Nat->Prop),m=g - i/\i<=g/\SR u Z B sv nv (most:Int) d (nR B d t r xs i) O3 F2/\(∀ id,P id->O3 id)/\(∀ id,O3 id->P id∨E.n<=id)/\(nR B d t r xs i).length<=most/\E.n<=u.n /\
   u.get c.n=some (.cells .mut (bw g λj=>.int .i64 (if j<i then (y9 B d t r xs j:Int) else 0)))/\u.get (c.n+1)=some (.cells .mut (bw g λj=>.int .i64 (if j<i then (y8 B t r j:Int) else 0))) /\
   (∀ id,F2 id->u.get id=E.get id)/\(∀ id,id<E.n->¬ P id->id≠c.n->id≠c.n+1->u.get id=E.get id)/\e.at 0=y/\e.at 1 = .aH b 0/\e.at 3 = .int .i64 (n:Int)/\e.at 4 = .aD c.n 0 g 1/\e.at 5 = .aD (c.n+1) 0 g 1/\e.at 40 = .aD jr 0 A.length 3/\e.at 41 = .int .i64 (A.length:Int)/\e.at 42 = .int .i64 (i:Int)) _
   ⟨0,P,rfl,by omega,zO.out.1,λid h=>h,λid h=>.inl h,hxm,Nat.le_refl _,by simpa using hA14,by simpa using hA24,λ_ _=>rfl,λ_ _ _ _ _=>rfl,ef,ef,ef,ef,ef,ef,ef,by simp only[lk,dJ,Nat.reduceEqDiff,if_false,if_true];rfl⟩ ?_
  clear e0 e1 e3 hA14 hA24;clear e;rintro m e u ⟨i,O3,rfl,hi,hS5,Vu,Y,hxi5,Fo,Pr,Pq,hF5,gT,e0,e1,e3,e4,e5,e40,e41,L9⟩;obtain⟨tv5,pv5,xv5,TN5,SN5,tcs5,pcs5,VK,R⟩:=hS5;obtain⟨mm,tO,q7⟩:=wH B d t r xs i;have hn5l:n<(nR B d t r xs i).length:=by rw[tO,List.length_append];omega
  have SH:(nR B d t r xs i).getD n default=(kx,r):=by
   rw[tO,gD,List.getElem?_append_left fG,<- gD];exact hxnE
  have CX:u.get b=some (.cells .mut [.aH Z 0]):=(gT b (by omega) XF (by omega) (by omega)).trans O9;have hgr5:u.get jr=some (.cells .mut (eG oW A)):=(hF5 jr hFj).trans q9;clear tO q7;by_cases cM:i<g
  ·have tP:(i:Int)<(A.length:Int):=by omega
   have hiL:(i:Int)<(g:Int):=by omega
   have jX:IntKind.i64.wrap ((i:Int)+1)=((i+1:Nat):Int):=by rw[wrap_i64 _ (by omega) (by omega)];rfl
   have oP:A[i]? = some (A.getD i default):=by rw[gD,gE (by omega)];rfl
   have bV:=zO.out.2.1 i (by omega);have dS:=nB MR oP (rest:=[]) (s:=u) (j:=jr) (md:=.mut) (by rw[List.append_nil];exact hgr5);generalize A.getD i default=rw1 at *;obtain⟨H,gv,X7⟩:=rw1;simp only at bV;unfold oW at dS;simp only at dS;have Xh:=bV.2.2.1.sl.cell;have Vq:=bV.2.2.2.sl.cell;obtain⟨jx5,hxv5,hjx5,hgx5⟩:=R.x.pos (by omega);subst hxv5;have hxl5:=R.xl;have UR:VK[n]? = some (VK.getD n default):=by rw[gD,gE (by omega)];rfl
   have Ww:=R.xx n hn5l;rw[SH]at Ww;have hxi5B:Bx (VK[n]? = some (VK.getD n default)):=⟨UR⟩;have WU:Bx ((VK.getD n default).2=(VK.getD n default).2):=⟨rfl⟩;obtain⟨M,WU⟩:∃ M,Bx ((VK.getD n default).2=M):=⟨_,⟨rfl⟩⟩;rw[WU.out]at Ww;have hnI5:(n:Int)<((nR B d t r xs i).length:Int):=by omega
   have tS:=R.dD;have Pg:=Bx.mk R;have dO:=FZ Ww.2 Wz.2.1 bV.2.2.1 bV.2.2.2;have UX:=Bx.mk bV;clear bV;have og:=Bx.mk (And.intro Pr (And.intro Pq (And.intro hF5 gT)));clear R SH Pr Pq hF5 gT oP UR hgr5;repeat' (first | refine gA (And.intro @cG @dS) ?_ | (refine gB (And.intro @cG @dS) ?_;intro X l;cases X<;>(try simp only[aG]at l)<;>(try first | omega | exact l.elim)) | apply aA | fail)
   have T:∀ id,id<u.n->((u.new (.cells .mut [.int .i64 0, .aj, .aj])).put u.n (.cells .mut [.int .i64 (H:Int),gv,X7])).get id=u.get id:=λid G=>by rw[St.ah,if_neg (by omega),St.az,if_neg (by omega)]
   have GI:((u.new (.cells .mut [.int .i64 0, .aj, .aj])).put u.n (.cells .mut [.int .i64 (H:Int),gv,X7])).get u.n=some (.cells .mut [.int .i64 (H:Int),gv,X7]):=by rw[St.ah,if_pos rfl]
   have hn6:((u.new (.cells .mut [.int .i64 0, .aj, .aj])).put u.n (.cells .mut [.int .i64 (H:Int),gv,X7])).n=u.n+1:=rfl;have Ck:=(T b (by omega)).trans CX;have Fx:=Pg.out.keep (s':=(u.new (.cells .mut [.int .i64 0, .aj, .aj])).put u.n (.cells .mut [.int .i64 (H:Int),gv,X7])) (by omega) λid G=>T id (Pg.out.ol id G);have hgx6:=(T jx5 hjx5).trans hgx5;have hlr:=eL C5 hxi5B.out (k:=1) (v:=M) (by unfold Jp;rw[WU.out];rfl) (rest:=[]) (s:=(u.new (.cells .mut [.int .i64 0, .aj, .aj])).put u.n (.cells .mut [.int .i64 (H:Int),gv,X7])) (j:=jx5) (md:=.mut) (by rw[List.append_nil];exact hgx6);generalize (u.new (.cells .mut [.int .i64 0, .aj, .aj])).put u.n (.cells .mut [.int .i64 (H:Int),gv,X7])=s6 at *;have A7:=Fx.dD;have K6:=Bx.mk (And.intro Fx T);clear Fx T tS CX hgx5 hgx6 dS;repeat' (first | refine gA (And.intro @Ck (And.intro @A7 (And.intro @cG (And.intro @hlr @GI)))) ?_ | (refine gB (And.intro @Ck (And.intro @A7 (And.intro @cG (And.intro @hlr @GI)))) ?_;rintro (_|_) l<;>try simp only[aG,reduceCtorEq]at l<;>try first | (exfalso;omega) | exact l.elim) | apply aA | fail)
   refine cW ez dO wN (by simp only[List.map,lk,Nat.reduceEqDiff,if_false,if_true,List.map]) λres o7 rL=>⟨trivial,?_⟩;simp only[Env.au];obtain⟨Qy,rfl,WN⟩:=o7;have hrvc:=WN.sl.cell;clear dO;repeat' (first | refine gA (And.intro @Ck @GI) ?_ | (refine gB (And.intro @Ck @GI) ?_;rintro (_|_) l<;>try simp only[aG,reduceCtorEq]at l<;>try first | (exfalso;omega) | exact l.elim) | apply aA | fail)
   have mZ:cells? Qy=some [Qy]:=pJ WN.sl;refine iF (vs:=[.int .i64 (H:Int),Qy]) wN (by
    simp only[bB,List.map,lk,Nat.reduceEqDiff,if_false,if_true,List.map];simp[aW,mZ,jj,splice]) ?_
   have Ew:H<=1000000:=by have:=UX.out.2.1;omega
   have hrl2:(BH B t r i).length<=6000:=by unfold BH;rw[(je _ r).length_eq,Wz.2.2];omega
   have Ei:=HF (k:=H) ⟨_,_,_,_,_,_,_,_,K6.out.1⟩ (r:=BH B t r i) WN hrl2 Ew (by omega);refine bH wN (fv:=.fn (.func 36) [] []) (vs:=[.aH Z 0, .agg [.int .i64 (H:Int),Qy]]) ef (by simp only[List.map,lk,Nat.reduceEqDiff,if_false,if_true,List.map]) (aJ.mono Ei λx U hh=>⟨trivial,?_⟩);obtain⟨rfl,hS7,hn7,hF7,KN⟩:=hh;simp only[Env.au];have hkE:H=kA B d t i:=UX.out.1;have hS7':SR U Z B sv nv (most:Int) d (nR B d t r xs (i+1)) (λid=>O3 id∨s6.n<=id/\id<U.n) F2:=by
    rw[hkE]at hS7;exact hS7
   have nF:cZ dr (nR B d t r xs i) (dr (H,BH B t r i))=y9 B d t r xs i:=by rw[hkE];rfl
   rw[nF];have hA17:U.get c.n=some (.cells .mut (bw g λj=>.int .i64 (if j<i then (y9 B d t r xs j:Int) else 0))):=by
    rw[KN _ (by omega) (λh=>by rcases Y _ h with h | h;exact K8.1 h;omega),K6.out.2 _ (by omega)];exact og.out.1
   have hA27:U.get (c.n+1)=some (.cells .mut (bw g λj=>.int .i64 (if j<i then (y8 B t r j:Int) else 0))):=by
    rw[KN _ (by omega) (λh=>by rcases Y _ h with h | h;exact K8.2 h;omega),K6.out.2 _ (by omega)];exact og.out.2.1
   have Vs:U.get b=some (.cells .mut [.aH Z 0]):=(KN b (by omega) (λh=>by rcases Y _ h with h | h;exact XF h;omega)).trans Ck;have h7F:(∀ id,F2 id->U.get id=E.get id)/\(∀ id,id<E.n->¬ P id->id≠c.n->id≠c.n+1->U.get id=E.get id):=by
    refine⟨λid hf=>?_,λid h1 h2 h3 h4=>?_⟩
    ·have cm:=Pg.out.ol id (Pg.out.fo id hf).1;rw[hF7 id hf,K6.out.2 id cm];exact og.out.2.2.1 id hf
    ·rw[KN id (by omega) (λh=>by rcases Y _ h with h | h;exact h2 h;omega),K6.out.2 id (by omega)];exact og.out.2.2.2 id h1 h2 h3 h4
   have h7B:=Bx.mk (And.intro hS7' h7F);clear Ei hS7 hS7' hF7 KN og K6 Ck A7 GI hlr h7F hkE;repeat' (first | refine gA (And.intro @cG @Vs) ?_ | (refine gB (And.intro @cG @Vs) ?_;rintro (_|_) l<;>try simp only[aG,reduceCtorEq]at l<;>try first | (exfalso;omega) | exact l.elim) | apply aA | fail)
   refine kX (n:=g) (q:=i) (v:=.int .i64 (y9 B d t r xs i:Int)) (f:=λj=>.int .i64 (if j<i then (y9 B d t r xs j:Int) else 0)) (f':=λj=>.int .i64 (if j<i+1 then (y9 B d t r xs j:Int) else 0)) ef ef rfl hA17 cM (λj=>by
    by_cases e:j=i
    ·subst e;simp
    ·by_cases e2:j<i
     ·simp[e,e2,show j<i+1 by omega]
     ·simp[e,e2,show ¬ j<i+1 by omega]) (λs8 hn8 hg8 QJ=>?_)
   have hA28:=(QJ (c.n+1) (by omega)).trans hA27;have Vr:=(QJ b (by omega)).trans Vs;repeat' (first | refine gA (And.intro @cG @Vr) ?_ | (refine gB (And.intro @cG @Vr) ?_;rintro (_|_) l<;>try simp only[aG,reduceCtorEq]at l<;>try first | (exfalso;omega) | exact l.elim) | apply aA | fail)
   refine kX (n:=g) (q:=i) (v:=.int .i64 (y8 B t r i:Int)) (f:=λj=>.int .i64 (if j<i then (y8 B t r j:Int) else 0)) (f':=λj=>.int .i64 (if j<i+1 then (y8 B t r j:Int) else 0)) ef (by simp only[lk,Nat.reduceEqDiff,if_false,if_true];rfl) rfl hA28 cM (λj=>by
    by_cases e:j=i
    ·subst e;simp
    ·by_cases e2:j<i
     ·simp[e,e2,show j<i+1 by omega]
     ·simp[e,e2,show ¬ j<i+1 by omega]) (λs9 S8 hg9 YG=>?_)
   have hb9:=(YG b (by omega)).trans Vr;have hg89:=(YG c.n (by omega)).trans hg8;obtain⟨tv9,pv9,xv9,TN9,SN9,tcs9,pcs9,xr9,N⟩:=h7B.out.1;have hO7A:∀ id,(O3 id∨s6.n<=id/\id<U.n)->id≠c.n/\id≠c.n+1:=λid h=>by
    refine⟨λe=>?_,λe=>?_⟩
    ·subst e;rcases h with h | h
     ·rcases Y _ h with h | h
      ·exact K8.1 h
      ·omega
     ·omega
    ·subst e;rcases h with h | h
     ·rcases Y _ h with h | h
      ·exact K8.2 h
      ·omega
     ·omega
   have hX9:=N.keep (s':=s9) (by omega) λid G=>by
    have:=hO7A id G;rw[YG id this.2,QJ id this.1]
   have Vo:=hX9.dD;have hxl9:=hX9.x.len;have h9F:(∀ id,F2 id->s9.get id=E.get id)/\(∀ id,id<E.n->¬ P id->id≠c.n->id≠c.n+1->s9.get id=E.get id):=by
    refine⟨λid hf=>?_,λid h1 h2 h3 h4=>?_⟩
    ·have:=hO7A id (.inl (Pg.out.fo id hf).1);rw[YG id this.2,QJ id this.1];exact h7B.out.2.1 id hf
    ·rw[YG id h4,QJ id h3];exact h7B.out.2.2 id h1 h2 h3 h4
   have XP:=Bx.mk (And.intro hX9 (And.intro h9F (And.intro hg89 hg9)));clear hX9 h9F hg89 hg9 hg8 QJ YG hA17 hA27 hA28 Vs Vr N h7B;repeat' (first | refine gA (And.intro @hb9 (And.intro @Vo @hxl9)) ?_ | (refine gB (And.intro @hb9 (And.intro @Vo @hxl9)) ?_;intro X l;cases X<;>(try simp only[aG]at l)<;>(try first | omega | exact l.elim)) | apply aA | fail)
   ·refine⟨g - (i+1),by omega,i+1,_,rfl,by omega,⟨_,_,_,_,_,_,_,_,XP.out.1⟩,λid h=>.inl (Vu id h),λid h=>?_,by omega,by omega,XP.out.2.2.1,XP.out.2.2.2,XP.out.2.1.1,XP.out.2.1.2,?_⟩
    ·rcases h with h | h
     ·exact Y id h
     ·right;omega
    ·simp only[lk,Nat.reduceEqDiff,if_false,if_true,jX,e0,e1,e3,e4,e5,e40,e41,L9,and_self]
   ·refine⟨.inr trivial,by omega,n,C,_,F2,d,_,Po.out.2.2 n C c s9 Po.out.1 (by omega) λid D=>?_,⟨_,_,_,_,_,_,_,_,XP.out.1⟩,rN,pX, .inr ⟨by omega,by rw[Wx];exact fG,?_⟩⟩
    ·have cm:=EE id D;rw[XP.out.2.1.2 id (by omega) (zO.out.2.2.1 id D) (by omega) (by omega)];exact zO.out.2.2.2 id D
    ·rw[SY.out];have:=xg B d t r xs (show i+1<=g by omega);show most<(nR B d t r xs g).length;omega
  ·have dc:i=g:=by omega
   subst dc;have hvx:∀ f:Nat->Nat,(bw i λj=>.int .i64 (if j<i then (f j:Int) else 0))=ints ((List.range i).map λj=>(f j:Int)):=λf=>by
    unfold bw ints;rw[List.map_map];refine List.map_congr_left λj hj=>?_;simp[List.mem_range.1 hj]
   rw[hvx]at Pr Pq;have hI5:=Po.out.2.2 n C c u Po.out.1 (by omega) λid D=>by
    have cm:=EE id D;rw[gT id (by omega) (zO.out.2.2.1 id D) (by omega) (by omega)];exact zO.out.2.2.2 id D
   have Yt:=Po.out.2.1;have hnxl:((List.range i).map λa=>(y9 B d t r xs a:Int)).length=i:=by simp
   have hprl:((List.range i).map λa=>(y8 B t r a:Int)).length=i:=by simp
   have tN:maxLen=9223372036854775807:=by decide
   have W3:∀ x∈((List.range i).map λa=>(y9 B d t r xs a:Int)),cF x:=λx hx=>by
    obtain⟨a,ha,rfl⟩:=List.mem_map.1 hx;have Y0:=List.mem_range.1 ha;obtain⟨m,h1,h2⟩:=wH B d t r xs a;have h3:=tH dr (nR B d t r xs a) (dr (kA B d t a,BH B t r a));rw[h1,List.length_append]at h3;have h4:y9 B d t r xs a<=xs.length+m.length:=by unfold y9;rw[h1];exact h3
    unfold cF;omega
   have KH:∀ x∈((List.range i).map λa=>(y8 B t r a:Int)),cF x:=λx hx=>by
    obtain⟨a,ha,rfl⟩:=List.mem_map.1 hx;have h3:=An (marks (Ae B t a) (Af B t a) r.length) r;have h4:y8 B t r a<=2*r.length+1:=h3.2;have h5:=Wz.2.2;unfold cF;omega
   have ux:cK aY (.aD c.n 0 i 1) u=some (.aB (ints ((List.range i).map λa=>(y9 B d t r xs a:Int))) i,u.put c.n (.cells .app (ints ((List.range i).map λa=>(y9 B d t r xs a:Int))))):=kU (len:=i) 38 Pr (by simp) (bD _);have hA26:(u.put c.n (.cells .app (ints ((List.range i).map λa=>(y9 B d t r xs a:Int))))).get (c.n+1)=some (.cells .mut (ints ((List.range i).map λa=>(y8 B t r a:Int)))):=by rw[St.ah,if_neg (by omega)];exact Pq
   have SG:cK aY (.aD (c.n+1) 0 i 1) (u.put c.n (.cells .app (ints ((List.range i).map λa=>(y9 B d t r xs a:Int)))))=some (.aB (ints ((List.range i).map λa=>(y8 B t r a:Int))) i,(u.put c.n (.cells .app (ints ((List.range i).map λa=>(y9 B d t r xs a:Int))))).put (c.n+1) (.cells .app (ints ((List.range i).map λa=>(y8 B t r a:Int))))):=kU (len:=i) 38 hA26 (by simp) (bD _);have T:∀ id,id≠c.n->id≠c.n+1->((u.put c.n (.cells .app (ints ((List.range i).map λa=>(y9 B d t r xs a:Int))))).put (c.n+1) (.cells .app (ints ((List.range i).map λa=>(y8 B t r a:Int))))).get id=u.get id:=λid h1 h2=>by rw[St.ah,if_neg h2,St.ah,if_neg h1]
   have hn6:((u.put c.n (.cells .app (ints ((List.range i).map λa=>(y9 B d t r xs a:Int))))).put (c.n+1) (.cells .app (ints ((List.range i).map λa=>(y8 B t r a:Int))))).n=u.n:=rfl;generalize (u.put c.n (.cells .app (ints ((List.range i).map λa=>(y9 B d t r xs a:Int))))).put (c.n+1) (.cells .app (ints ((List.range i).map λa=>(y8 B t r a:Int))))=s6 at *;have hI6:=Po.out.2.2 n C u s6 hI5 (by omega) λid D=>T id (by have:=EE id D;omega) (by have:=EE id D;omega);have hyc6:=Yt s6 (.aB (ints ((List.range i).map λa=>(y9 B d t r xs a:Int))) i) (.aB (ints ((List.range i).map λa=>(y8 B t r a:Int))) i) hI6 ⟨by rw[hnxl];exact .aB _ _,by rw[hnxl];omega,W3⟩ ⟨by rw[hprl];exact .aB _ _,by rw[hprl];omega,KH⟩ fG hxi5;have yw:aJ Try.prog GL y [.aD c.n 0 i 1, .aD (c.n+1) 0 i 1] u _:=nM (args':=[.aB (ints ((List.range i).map λa=>(y9 B d t r xs a:Int))) i, .aB (ints ((List.range i).map λa=>(y8 B t r a:Int))) i]) (s':=s6) (by simp only[cK.cu,ux,SG,Option.bind_eq_bind,Option.bind_some]) hyc6;have Ty:∀ id,O3 id->id≠c.n/\id≠c.n+1/\¬ C id:=λid h=>by
    rcases Y _ h with h | h
    ·exact⟨λe=>K8.1 (e ▸ h),λe=>K8.2 (e ▸ h),λD=>zO.out.2.2.1 id D h⟩
    ·exact⟨by omega,by omega,λD=>by have:=EE id D;omega⟩
   have Fx:=R.keep (s':=s6) (by omega) λid G=>T id (Ty id G).1 (Ty id G).2.1;have Ck:=(T b (by omega) (by omega)).trans CX;have hO3l:=R.ol;have XC:=Bx.mk (And.intro Fx (And.intro R.ol SH));clear Yt hyc6 ux SG hA26 Pr Pq hI5 hI6 Fx R hF5 gT T SH;repeat' (first | refine gA trivial ?_ | (refine gB trivial ?_;intro X l;cases X<;>(try simp only[aG]at l)<;>(try first | omega | exact l.elim)) | apply aA | fail)
   refine bH wN (fv:=y) (vs:=[.aD c.n 0 i 1, .aD (c.n+1) 0 i 1]) ef (by simp only[List.map,lk,Nat.reduceEqDiff,if_false,if_true,List.map]) (aJ.mono yw λx U hh=>⟨trivial,?_⟩);obtain⟨rfl,hn7,C',hI7,hC',KN⟩:=hh;simp only[Env.au];have On:IntKind.i64.wrap ((n:Int)+1)=((n+1:Nat):Int):=by rw[wrap_i64 _ (by omega) (by omega)];rfl
   have N:=XC.out.1.keep (s':=U) hn7 λid G=>KN id (by have:=XC.out.2.1 id G;omega) (Ty id G).2.2;have Vs:=(KN b (by omega) hCb).trans Ck;have hxs1:Zl B.next.length d (nR B d t r xs i):=by
    refine Mk (λx hx=>?_) Wz.2.1 Wz.2.2 λa ha=>?_
    ·have h:=uR x hx;obtain⟨m,h1,-⟩:=qV B ts t 0 i;rw[Nat.zero_add]at h1;have h3:jb B ts t i=ts++m:=h1;rw[hts1]at h3;exact⟨by rw[h3,List.length_append];omega,h.2⟩
    ·have h:=zO.out.2.1 a (by omega);have h1:kA B d t a=(A.getD a default).1:=h.1.symm;rw[h1];exact h.2.1
   obtain⟨mx,hmx1,-⟩:=wH B d t r xs i;have U8:xs.length<=(nR B d t r xs i).length:=by rw[hmx1,List.length_append];omega
   clear hmx1;have x8:=SY.out;have Co:=Bx.mk (And.intro hI7 (And.intro N (And.intro hxs1 (And.intro hC' x8))));clear hI7 N hxs1 hC' yw KN Ck XC x8;repeat' (first | refine gA @On ?_ | (refine gB @On ?_;rintro (_|_) l<;>try simp only[aG,reduceCtorEq]at l<;>try first | (exfalso;omega) | exact l.elim) | apply aA | fail)
   have x8:=Co.out.2.2.2.2;refine⟨most+1 - (n+1),by omega,n+1,C',O3,F2,rfl,by omega,Co.out.1,?_,?_,?_,λj hj=>?_,λj hj=>?_,?_,Vs,by omega,λh=>(λh'=>h') (by rcases Y _ h with h | h;exact XF h;omega),λh=>by rcases Co.out.2.2.2.1 b h with h | h;exact hCb h;omega,λid D ho=>?_,by omega,?_⟩
   ·rw[x8];exact⟨_,_,_,_,_,_,_,_,Co.out.2.1⟩
   ·rw[x8];exact Co.out.2.2.1
   ·rw[x8];show d.length<=_;omega
   ·by_cases e:j=n
    ·subst e;rw[Wx];exact fG
    ·exact rN j (by omega)
   ·by_cases e:j=n+1
    ·subst e;rw[x8];exact hxi5
    ·exact pX j (by omega)
   ·rw[x8];show n+1<=(nR B d t r xs i).length;omega
   ·rcases Co.out.2.2.2.1 id D with h | h
    ·exact (Ty id ho).2.2 h
    ·have:=hO3l id ho;omega
   ·simp only[lk,dJ,Nat.reduceEqDiff,if_false,if_true,On,e0,e1,and_self]
 ·have hnx':n=xs.length:=by omega
  have x8:=SY.out;repeat' (first | refine gN (And.intro @V (And.intro @ey @GC)) ?_ | (refine gB (And.intro @V (And.intro @ey @GC)) ?_;intro X l;cases X<;>(try simp only[aG]at l)<;>(try first | omega | exact l.elim)) | fail)
  exact⟨.inl trivial,gH,n,C,O1,F1,ts,xs,Po.out.1,⟨_,_,_,_,_,_,_,_,J.out⟩,rN,pX, .inl ⟨Wx.symm,hnx'⟩⟩
end Go.Proofs.Ytkbiecjdcjfhaaa
end
