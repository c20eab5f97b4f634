/- slices.Sort of numbers in memory, of none, too. -/
import Derived.Test.YtkbiecjdcjfhaaaGreatTbase
import Derived.Test.YtkbiecjdcjfhaaaGreatLaysn
import Derived.Test.YtkbiecjdcjfhaaaGreatPvKM
import Derived.Test.YtkbiecjdcjfhaaaGreatPvCall
import Derived.Test.YtkbiecjdcjfhaaaGreatTdiv
import Derived.Test.YtkbiecjdcjfhaaaGreatTval
set_option linter.unusedSimpArgs false
set_option linter.unusedVariables false
set_option maxRecDepth 100000
set_option maxHeartbeats 16000000
section
namespace Go.Proofs.YtkbiecjdcjfhaaaGreat
open Go Go.Pv Go.Sort Go.RowKit
open Classical
noncomputable def TG:Nat->Option bh:=JC Tryz.prog GL []
theorem tabG:fT Tryz.prog GL TG []:=A9 br br
theorem Tp:fu Tryz.prog GL (.fn (.func 98) [] []) [.aq] (.cE []) :=
 bX (ow:=false) tabG (n:=20000) br
def OA (l:List Int):List Int:=l.mergeSort λx y=>decide (x<=y)
theorem OC {s:St}{v:LV}{l:List Int}(a:ek s v 1 (ints l) l.length) (hl:l.length<=1000000):aM Tryz.prog GL (.fn (.func 98) [] []) [v] s (λr s'=>ek s' v 1 (ints (OA l)) l.length/\s'.n=s.n/\∀ id,¬ aQ v id->s'.get id=s.get id):=by
 have b:(OA l).length=l.length:=List.length_mergeSort l;obtain⟨i,⟨rfl,h0⟩ | ⟨j,rfl,h1,h2,h3⟩⟩:=a
 ·have c:l=[]:=List.length_eq_zero_iff.1 h0;subst c;exact iD ff Tp ⟨⟨by simp[OA], .inl ⟨rfl,rfl⟩⟩,rfl,λid _=>rfl⟩
 ·refine aM.mono (SorI.Nf (rest:=[]) Tryz.func98 br (body:=(Tryz.f98.body).getD default) (by kernel_rfl) (λdR off cap zs w d f g=>AnyG.slices_Sort_int sortI dR off cap zs w d f g) (by rw[List.append_nil];exact h3) h1 om) ?_;rintro r' s' rfl;refine⟨⟨by simp[b], .inr ⟨j,rfl,h1,by simpa using h2,by rw[St.az,if_pos rfl,List.append_nil];rfl⟩⟩,rfl,λid h=>by rw[St.az,if_neg λe=>h (aI.2 e)]⟩
open Go Go.Pv Go.pR
theorem PJ {r:GR}(b:bf r.2.1=true) (s:St):aM Tryz.prog GL (.fn (.func 107) [] []) [.agg (grow r)] s (λx s'=>x = .bool r.1.old/\s.n<=s'.n/\∀ id,id<s.n->s'.get id=s.get id):=by
 refine bM (first:=[]) (caps:=[]) Tryz.func107 br c107 bw (aX.mono (Q:=λo e s'=>(o = .normal∨o = .jmp .ret)/\e.at 2 = .bool r.1.old/\s.n<=s'.n/\∀ id,id<s.n->s'.get id=s.get id) ?_ λo e s' c=>by
  obtain⟨h1,h2,h3⟩:=c;exact⟨h1,_,by simp[Yr,aW,bD,h2],rfl,h3⟩)
 refine Cd.out (pg λe d=>?_);have a:=oW r b;unfold Yr;dsimp only[jA,qF,qK,qm,ql,qR];refine mN ?_;refine iC hm ?_;refine iw (v:=.aO s.n 0) (s':=s.new (.cells .mut (grow r))) (by simp only[bq.run,lk,rH,d,a];try rfl) ?_;have f:(s.new (.cells .mut (grow r))).get s.n=some (.cells .mut (grow r)):=by rw[St.aA,if_pos rfl]
 have g:cz none (.aO s.n 4) (s.new (.cells .mut (grow r)))=some (.bool r.1.old):=iW f rfl;have ho:∀ id,id<s.n->(s.new (.cells .mut (grow r))).get id=s.get id:=λid i=>by rw[St.aA,if_neg om]
 have h:s.n<=(s.new (.cells .mut (grow r))).n:=by simp
 generalize s.new (.cells .mut (grow r))=s1 at *;repeat' (first|refine aG @g ?_|(first|apply ah|apply af)<;>intro j)
 exact⟨.inr trivial,ef,h,ho⟩
theorem I6 {v:LV}{R:List GR}{lo:Nat}{s:St}(ff:GS s lo v R) (T:R.length<=6000) :
 aM Tryz.prog GL (.fn (.func 106) [] []) [v, .fn (.func 107) [] []] s (λr s'=>Sg s' r 7 (dm grow (R.filter (·.1.old))) (R.filter (·.1.old)).length/\(∀ id,aQ r id->s.n<=id)/\s.n<=s'.n/\∀ id,id<s.n->s'.get id=s.get id):=by
 have jQ:=ff.sg.len;refine bM (first:=[]) (caps:=[]) Tryz.func106 br c106 bw (aX.mono (Q:=λo e s'=>(o = .normal∨o = .jmp .ret)/\∃ r,e.at 4=r/\Sg s' r 7 (dm grow (R.filter (·.1.old))) (R.filter (·.1.old)).length/\(∀ id,aQ r id->s.n<=id)/\s.n<=s'.n/\∀ id,id<s.n->s'.get id=s.get id) ?_ λo e s' C=>by
  obtain⟨h1,lv,h2,h3⟩:=C;exact⟨h1,_,by simp[Ys,aW,bD,h2],h3⟩)
 refine Cd.out (mH λe e0 t=>?_);unfold Ys;dsimp only[jA,jG,qN,qS,qI,qA,qB,qC,qJ,qX,qm,qR];repeat' (first|refine aG @jQ ?_|(first|apply ah|apply af)<;>intro i)
 refine aN (λm e s1=>∃ (k:Nat) (lv:LV),m=R.length - k/\k<=R.length/\(Sg s1 lv 7 (dm grow ((R.take k).filter (·.1.old))) ((R.take k).filter (·.1.old)).length/\(∀ id,aQ lv id->s.n<=id)/\s.n<=s1.n/\∀ id,id<s.n->s1.get id=s.get id)/\e.at 1 = .fn (.func 107) [] []/\e.at 5=lv/\e.at 8=v/\e.at 9 = .int .i64 (R.length:Int)/\e.at 10 = .int .i64 (k:Int)) _
  ⟨0, .aq,rfl,by omega,⟨Sg.nil _ _,λid h=>absurd h (bE id),Nat.le_refl _,λ_ _=>rfl⟩,ef,ef,ef,ef,by simp only[lk,Nat.reduceEqDiff,if_false,if_true];rfl⟩ ?_
 clear e0 t;clear e;rintro m e s1 ⟨k,lv,rfl,hk,⟨c,f,p,ho⟩,t,e5,U,V,gW⟩;by_cases D:k<R.length
 ·have iN:(k:Int)<(R.length:Int):=by omega
  have u:=@bQ k om;obtain⟨J,rest,GC,hJ,tJ⟩:=ff.sg.pos om;subst GC;have lZ:R[k]? = some (R.getD k default):=by rw[gD,gE D];rfl
  have X:=take_one R default (k:=k) D;have yR:R.getD k default∈R:=cn D;have sK:=List.length_filter_le (λr:GR=>r.1.old) (R.take k);rw[List.length_take]at sK;generalize R.getD k default=r at *;have E:=(ff.kS _ yR).sl.cell;obtain⟨g,b,M⟩:=r;simp only at E;have F:cz (some 7) (.aO J (k*7)) s1=some (.agg [.int .i64 g.name, .int .i64 g.par,b, .aR M, .bool g.old, .bool g.bO, .bool g.gone]):=lV bY lZ ((ho J hJ).trans tJ);have Y:=Bx.mk X;have H:=Bx.mk (And.intro c (And.intro f (And.intro p ho)));clear X c f p ho;repeat' (first|refine aG (aj @eF @F) ?_|(first|apply ah|apply af)<;>intro i)
  obtain⟨c,f,p,ho⟩:=H.out;have dH:=λid=>c.lt (id:=id);have q:=c.mono (s':=(s1.new (.cells .mut [.int .i64 0, .int .i64 0, .aq, .cm, .bool false, .bool false, .bool false])).put s1.n (.cells .mut [.int .i64 g.name, .int .i64 g.par,b, .aR M, .bool g.old, .bool g.bO, .bool g.gone])) (by simp) λid d=>by
   have:=dH id d;rw[St.az,if_neg om,St.aA,if_neg om]
  have Z:∀ id,id<s.n->((s1.new (.cells .mut [.int .i64 0, .int .i64 0, .aq, .cm, .bool false, .bool false, .bool false])).put s1.n (.cells .mut [.int .i64 g.name, .int .i64 g.par,b, .aR M, .bool g.old, .bool g.bO, .bool g.gone])).get id=s.get id:=λid d=>by rw[St.az,if_neg om,St.aA,if_neg om];exact ho id d
  have w:((s1.new (.cells .mut [.int .i64 0, .int .i64 0, .aq, .cm, .bool false, .bool false, .bool false])).put s1.n (.cells .mut [.int .i64 g.name, .int .i64 g.par,b, .aR M, .bool g.old, .bool g.bO, .bool g.gone])).get s1.n=some (.cells .mut [.int .i64 g.name, .int .i64 g.par,b, .aR M, .bool g.old, .bool g.bO, .bool g.gone]):=by rw[St.az,if_pos rfl]
  have eu:((s1.new (.cells .mut [.int .i64 0, .int .i64 0, .aq, .cm, .bool false, .bool false, .bool false])).put s1.n (.cells .mut [.int .i64 g.name, .int .i64 g.par,b, .aR M, .bool g.old, .bool g.bO, .bool g.gone])).n=s1.n+1:=rfl;generalize (s1.new (.cells .mut [.int .i64 0, .int .i64 0, .aq, .cm, .bool false, .bool false, .bool false])).put s1.n (.cells .mut [.int .i64 g.name, .int .i64 g.par,b, .aR M, .bool g.old, .bool g.bO, .bool g.gone])=s2 at *;clear c ho;repeat' (first|refine aG @w ?_|(first|apply ah|apply af)<;>intro i)
  refine bK wN (fv:=.fn (.func 107) [] []) (vs:=[.agg (grow (g,b,M))]) ef ef (aM.mono (PJ (r:=(g,b,M)) E _) λx I C=>⟨trivial,?_⟩);obtain⟨rfl,o9,y⟩:=C;simp only[Env.aB];have z:=q.mono o9 λid d=>y id (q.lt d);have A:=(y s1.n om).trans w;have hlt3:=λid=>q.lt (id:=id);cases a:g.old with
  | true=>
    have B:Bx ((R.take (k+1)).filter (·.1.old)=(R.take k).filter (·.1.old)++[(g,b,M)]):=⟨by rw[Y.out,List.filter_append];simp[a]⟩;rw[a]at A;generalize (R.take k).filter (·.1.old)=L at *;clear q w F;repeat' (first|refine aG @A ?_|(first|apply ah|apply af)<;>intro i)
    refine qb (n:=L.length) (aZ:=7) (xv:=.agg (grow (g,b,M))) (yv:=lv) (vs:=grow (g,b,M)) (cells:=dm grow L) (by simp only[lk,Nat.reduceEqDiff,if_false,if_true];simp[grow,a]) (oW _ E) rfl rfl (kQ.aR (M:=M) (by simp[grow])) ef z (by decide) om (λN j a1 a2 a3 a4 a5 a6=>?_);have O:Bx (Sg N (.aE j 0 ((R.take (k+1)).filter (·.1.old)).length 7) 7 (dm grow ((R.take (k+1)).filter (·.1.old))) ((R.take (k+1)).filter (·.1.old)).length/\(∀ id,aQ (.aE j 0 ((R.take (k+1)).filter (·.1.old)).length 7) id->s.n<=id)/\s.n<=N.n/\∀ id,id<s.n->N.get id=s.get id):=⟨by
     rw[B.out,List.length_append,List.length_singleton,gh,oq];refine⟨a4,λid S=>by have:=aI.1 S;omega,by omega,λid d=>?_⟩;rw[a6 id om (λS=>by have:=f id S;omega),y id om];exact Z id d⟩
    have wZ:((R.take (k+1)).filter (·.1.old)).length=L.length+1:=by rw[B.out,List.length_append,List.length_singleton]
    clear a3 a4 a6 z A;repeat' (first|refine aG @u ?_|(first|apply ah|apply af)<;>intro i)
    rw[<- wZ];refine⟨R.length - (k+1),by omega,k+1,_,rfl,by omega,O.out,?_⟩;simp only[lk,Nat.reduceEqDiff,if_false,if_true,u,t,U,V,and_self]
  | false=>
    have B:Bx ((R.take (k+1)).filter (·.1.old)=(R.take k).filter (·.1.old)):=⟨by rw[Y.out,List.filter_append];simp[a]⟩;have O:Bx (Sg I lv 7 (dm grow ((R.take (k+1)).filter (·.1.old))) ((R.take (k+1)).filter (·.1.old)).length/\(∀ id,aQ lv id->s.n<=id)/\s.n<=I.n/\∀ id,id<s.n->I.get id=s.get id):=⟨by
     rw[B.out];exact⟨z,f,by omega,λid d=>(y id om).trans (Z id d)⟩⟩
    clear q w F z A;repeat' (first|refine aG @u ?_|(first|apply ah|apply af)<;>intro i)
    refine⟨R.length - (k+1),by omega,k+1,lv,rfl,by omega,O.out,?_⟩;simp only[lk,Nat.reduceEqDiff,if_false,if_true,u,t,e5,U,V,and_self]
 ·have rO:k=R.length:=by omega
  subst rO;rw[List.take_length]at c;have H:=Bx.mk (And.intro c (And.intro f (And.intro p ho)));clear c f p ho;repeat' (first|refine aG trivial ?_|(first|apply ah|apply af)<;>intro i)
  exact⟨.inr trivial,lv,ef,H.out⟩
theorem ER {used:List Int}{f:Nat}(a:∀ x∈used,x<=(f:Int)) {n:Int}(b:0<=n):dV used (f - n.toNat) n=if n+1∈used then dV used (f - (n+1).toNat) (n+1) else n+1:=by
 by_cases h:n+1∈used
 ·have:=a _ h;rw[if_pos h,show f - n.toNat=(f - (n+1).toNat)+1 by omega];show (if n+1∈used then dV used (f - (n+1).toNat) (n+1) else n+1)=_;rw[if_pos h]
 ·rw[if_neg h];cases h2:f - n.toNat with
  | zero=>rfl
  | succ k=>
    show (if n+1∈used then dV used k (n+1) else n+1)=_;rw[if_neg h]
theorem yy {used:List Int} : ∀ (k:Nat) {n:Int},n<dV used k n/\dV used k n<=n+k+1
 | 0,n=>by show n<n+1/\n+1<=n+0+1;omega
 | k+1,n=>by
   have h:=yy (used:=used) k (n:=n+1);show n<(if n+1∈used then dV used k (n+1) else n+1)/\(if n+1∈used then dV used k (n+1) else n+1)<=n+(k+1:Nat)+1;split<;>omega
theorem Uc {v:LV}{a:List GR}{t:Nat}{d:St}{f:Nat}(ff:GS d t v a) (hlen:a.length<=6000) (sH:t<=d.n) (hf:f<=6000) (hu:∀ x∈dW (a.map (·.1)),x<=(f:Int)) :
 aM Tryz.prog GL (.fn (.func 95) [] []) [v] d (λr s'=>∃ R,GS s' t v R/\R.map (·.1)=named f (a.map (·.1))/\d.n<=s'.n/\∀ id,id<t->s'.get id=d.get id):=by
 have jQ:=ff.sg.len;refine bM (first:=[]) (caps:=[]) Tryz.func95 br c95 bw (aX.mono (Q:=λo e s'=>(o = .normal∨o = .jmp .ret)/\∃ R,GS s' t v R/\R.map (·.1)=named f (a.map (·.1))/\d.n<=s'.n/\∀ id,id<t->s'.get id=d.get id) ?_ λo e s' hh=>by
  obtain⟨h1,h2⟩:=hh;exact⟨h1, .cE [],by simp[l95,aW],h2⟩)
 refine Cd.out (pg λe A=>?_);unfold l95;dsimp only[jA,jC,jG,qM,qL,qN,qF,qS,qI,qA,qB,qC,qP,qT,qm,ql,qR];repeat' (first|refine aG trivial ?_|(first|apply ah|apply af)<;>intro p)
 refine jM wN rfl ?_;have I:=ff.mono (s':=d.new (.map [])) (by simp) λid w=>by rw[St.aA,if_neg om]
 have hMa:(d.new (.map [])).get d.n=some (.map []):=by rw[St.aA,if_pos rfl]
 have BQ:(d.new (.map [])).n=d.n+1:=rfl;have hoa:∀ id,id<t->(d.new (.map [])).get id=d.get id:=λid w=>by rw[St.aA,if_neg om]
 generalize d.new (.map [])=s1 at *;have oJ:=I6 I hlen;repeat' (first|refine aG trivial ?_|(first|apply ah|apply af)<;>intro p)
 refine bK wN (fv:=.fn (.func 106) [] []) (vs:=[v, .fn (.func 107) [] []]) ef ef (aM.mono oJ λr s2 hh=>⟨trivial,?_⟩);obtain⟨B,hU,jk,iM⟩:=hh;simp only[Env.aB];have fX:=B.len;have Xk:dW (a.map (·.1))=(a.filter (·.1.old)).map (·.1.name):=by
  unfold dW;rw[List.filter_map,List.map_map];rfl
 have hLl:=List.length_filter_le (λr:GR=>r.1.old) a;have hLs:∀ r∈a.filter (·.1.old),aP r.2.1 r.1.set:=λr hr=>ff.kS r (List.mem_filter.1 hr).1;rw[Xk]at hu;generalize hLE:a.filter (·.1.old)=L at *;have hGb:=I.mono jk iM;have hMb:=(iM d.n om).trans hMa;have hob:∀ id,id<t->s2.get id=d.get id:=λid w=>(iM id om).trans (hoa id w);have j:=Bx.mk (And.intro hGb hob);clear oJ I hMa hoa hGb hob iM;repeat' (first|refine aG @fX ?_|(first|apply ah|apply af)<;>intro p)
 refine aN (λm e s=>∃ k:Nat,m=L.length - k/\k<=L.length/\s2.n<=s.n/\Sg s r 7 (dm grow L) L.length/\GS s t v a/\ey s d.n ((L.take k).map (·.1.name))/\(∀ id,id<t->s.get id=d.get id)/\e.at 0=v/\e.at 2 = .aR d.n/\e.at 9=r/\e.at 10 = .int .i64 (L.length:Int)/\e.at 11 = .int .i64 (k:Int)) _
  ⟨0,rfl,by omega,by omega,B,j.out.1,ey.nil hMb,j.out.2,ef,ef,ef,ef,by simp only[lk,Nat.reduceEqDiff,if_false,if_true];rfl⟩ ?_
 clear A B j hMb;clear e;rintro m e s ⟨k,rfl,hk,o9,B,q,z,ho,A,C,e9,gW,n6⟩;by_cases cG:k<L.length
 ·have iN:(k:Int)<(L.length:Int):=by omega
  have cD:=@bQ k om;obtain⟨J,rest,GC,hJ,N⟩:=B.pos om;subst GC;have hJlo:=hU J (aI.2 rfl);have O:L[k]? = some (L.getD k default):=by rw[gD,gE cG];rfl
  have ep:=take_one L default (k:=k) cG;have yR:L.getD k default∈L:=cn cG;generalize L.getD k default=r at *;have uA:=(hLs _ yR).sl.cell;obtain⟨g,X,M⟩:=r;simp only at uA;have kG:cz (some 7) (.aO J (k*7)) s=some (.agg [.int .i64 g.name, .int .i64 g.par,X, .aR M, .bool g.old, .bool g.bO, .bool g.gone]):=lV bY O N;have lY:Bx ((L.take (k+1)).map (·.1.name)=(L.take k).map (·.1.name)++[g.name]):=⟨by rw[ep,List.map_append];rfl⟩;have S:=Bx.mk (And.intro B (And.intro q (And.intro z ho)));clear ep B q z ho;repeat' (first|refine aG (aj @eF @kG) ?_|(first|apply ah|apply af)<;>intro p)
  obtain⟨B,q,z,ho⟩:=S.out;have ng:∀ id,id<s.n->((s.new (.cells .mut [.int .i64 0, .int .i64 0, .aq, .cm, .bool false, .bool false, .bool false])).put s.n (.cells .mut [.int .i64 g.name, .int .i64 g.par,X, .aR M, .bool g.old, .bool g.bO, .bool g.gone])).get id=s.get id:=λid w=>by rw[St.az,if_neg om,St.aA,if_neg om]
  have fy:((s.new (.cells .mut [.int .i64 0, .int .i64 0, .aq, .cm, .bool false, .bool false, .bool false])).put s.n (.cells .mut [.int .i64 g.name, .int .i64 g.par,X, .aR M, .bool g.old, .bool g.bO, .bool g.gone])).get s.n=some (.cells .mut [.int .i64 g.name, .int .i64 g.par,X, .aR M, .bool g.old, .bool g.bO, .bool g.gone]):=by rw[St.az,if_pos rfl]
  have eu:((s.new (.cells .mut [.int .i64 0, .int .i64 0, .aq, .cm, .bool false, .bool false, .bool false])).put s.n (.cells .mut [.int .i64 g.name, .int .i64 g.par,X, .aR M, .bool g.old, .bool g.bO, .bool g.gone])).n=s.n+1:=rfl;generalize (s.new (.cells .mut [.int .i64 0, .int .i64 0, .aq, .cm, .bool false, .bool false, .bool false])).put s.n (.cells .mut [.int .i64 g.name, .int .i64 g.par,X, .aR M, .bool g.old, .bool g.bO, .bool g.gone])=s3 at *;repeat' (first|refine aG @fy ?_|(first|apply ah|apply af)<;>intro p)
  have Xn:=z.keep (ng d.n om);refine ov Xn ef ef ef (λs4 od W6 T=>?_);have H:∀ id,id<s.n->id≠d.n->s4.get id=s.get id:=λid h1 h2=>(T id h2).trans (ng id h1);have u:=Bx.mk (And.intro (B.mono (s':=s4) om λid w=>by
   have:=aI.1 w;exact H id om om) (And.intro (q.frame (s':=s4) om (λid w=>H id (q.sg.lt w) λe=>by have:=ff.sg.lt (e ▸ w);omega) λr hr=>H _ (q.Cb r hr) λe=>by have:=ff.Cb r hr;omega) (And.intro W6 λid (w:id<t)=>(H id om om).trans (ho id w))))
  clear B q z ho S Xn W6 H T ng kG N;repeat' (first|refine aG @cD ?_|(first|apply ah|apply af)<;>intro p)
  refine⟨L.length - (k+1),by omega,k+1,rfl,by omega,by omega,u.out.1,u.out.2.1,by rw[lY.out];exact u.out.2.2.1,u.out.2.2.2,?_⟩;simp only[lk,Nat.reduceEqDiff,if_false,if_true,cD,A,C,e9,gW,and_self]
 ·have rO:k=L.length:=by omega
  subst rO;rw[List.take_length]at z;have S:=Bx.mk (And.intro q (And.intro z ho));clear B q z ho;repeat' (first|refine aG @jQ ?_|(first|apply ah|apply af)<;>intro p)
  have hl:(a.map (·.1)).length=a.length:=List.length_map ..;generalize W8:a.map (·.1)=l at *;generalize hUE:L.map (·.1.name)=used at *;unfold named;rw[Xk];refine aN (λm e s=>∃ (i:Nat) (R:List GR) (n:Int) (done:List Gn),m=a.length - i/\i<=a.length/\s2.n<=s.n/\GS s t v R/\R.map (·.1)=done++l.drop i/\done.length=i/\dX used f 0 l=done++dX used f n (l.drop i)/\0<=n/\n<=f+i/\ey s d.n used/\(∀ id,id<t->s.get id=d.get id)/\e.at 0=v/\e.at 2 = .aR d.n/\e.at 5 = .int .i64 n/\e.at 20=v/\e.at 21 = .int .i64 (a.length:Int)/\e.at 22 = .int .i64 (i:Int)) _
   ⟨0,a,0,[],rfl,by omega,o9,S.out.1,by rw[W8];simp,rfl,by simp,by omega,by omega,S.out.2.1,S.out.2.2,ef,ef,ef,ef,ef,by simp only[lk,Nat.reduceEqDiff,if_false,if_true];rfl⟩ ?_
  clear A C e9 gW n6 S o9 cG p hk;clear e s;rintro m e s ⟨i,R,n,done,rfl,hi,o9,q,Y,Ix,D,jd,Zl,z,ho,A,C,e5,Z,AV,B6⟩;by_cases cy:i<a.length
  ·have iQ:(i:Int)<(a.length:Int):=by omega
   have dO:=@bQ i om;have Ak:R.length=a.length:=by
    have:=congrArg List.length Y;rw[List.length_map,List.length_append,Ix,List.length_drop]at this;omega
   have MC:i<R.length:=by omega
   have QY:i<l.length:=by omega
   obtain⟨J,rest,GC,hJ,N⟩:=q.sg.pos om;rw[Ak]at GC;subst GC;have hJ0:J<d.n:=ff.sg.lt (aI.2 rfl);have O:R[i]? = some (R.getD i default):=by rw[gD,gE MC];rfl
   have FD:l[i]? = some (l.getD i default):=by rw[gD,gE QY];rfl
   have nT:(R.getD i default).1=l.getD i default:=by
    have h1:=congrArg (λL=>L[i]?) Y;simp only[List.getElem?_map]at h1;rw[O,List.getElem?_append_right om,Ix,Nat.sub_self,List.getElem?_drop,Nat.add_zero,FD]at h1;exact Option.some.inj h1
   rw[<- nT]at FD;have Vg:l.drop i=(R.getD i default).1::l.drop (i+1):=by
    obtain⟨h1,h2⟩:=List.getElem?_eq_some_iff.1 FD;rw[List.drop_eq_getElem_cons h1,h2]
   clear nT;generalize R.getD i default=r at *;obtain⟨g,tl⟩:=r;simp only at FD Vg;have U:=eY bY O (k:=4) (v:=.bool g.old) rfl N;have BS:=eY bY O (k:=6) (v:=.bool g.gone) rfl N;have j:=Bx.mk (And.intro q (And.intro z ho));have E:=Bx.mk (And.intro Y (And.intro D Vg));clear q z ho Y D Vg;by_cases F:(g.old || g.gone)=true
   ·have u:Bx (R.map (·.1)=(done++[g])++l.drop (i+1)/\(done++[g]).length=i+1/\dX used f 0 l=(done++[g])++dX used f n (l.drop (i+1))):=⟨by
     refine⟨by rw[E.out.1,E.out.2.2];simp,by simp[Ix],?_⟩;rw[E.out.2.1,E.out.2.2];show done++(if g.old || g.gone then g::dX used f n (l.drop (i+1)) else _)=_;rw[if_pos F];simp⟩
    clear E;cases h:g.old with
    | true=>
      rw[h]at U;repeat' (first|refine aG (aj @eF (aj @U (aj @BS @dO))) ?_|(first|apply ah|apply af)<;>intro p)
      refine⟨a.length - (i+1),by omega,i+1,R,n,_,rfl,by omega,o9,j.out.1,u.out.1,u.out.2.1,u.out.2.2,jd,by omega,j.out.2.1,j.out.2.2,?_⟩;simp only[lk,Nat.reduceEqDiff,if_false,if_true,dO,A,C,e5,Z,AV,B6,and_self]
    | false=>
      have gL:g.gone=true:=by rw[h]at F;simpa using F
      rw[h]at U;rw[gL]at BS;repeat' (first|refine aG (aj @eF (aj @U (aj @BS @dO))) ?_|(first|apply ah|apply af)<;>intro p)
      refine⟨a.length - (i+1),by omega,i+1,R,n,_,rfl,by omega,o9,j.out.1,u.out.1,u.out.2.1,u.out.2.2,jd,by omega,j.out.2.1,j.out.2.2,?_⟩;simp only[lk,Nat.reduceEqDiff,if_false,if_true,dO,A,C,e5,Z,AV,B6,and_self]
   ·have h:g.old=false:=by simp at F;exact F.1
    have gL:g.gone=false:=by simp at F;exact F.2
    rw[h]at U;rw[gL]at BS;have xC:=yy (used:=used) (f - n.toNat) (n:=n);have u:Bx ((done++[{ g with name:=dV used (f - n.toNat) n }]).length=i+1/\dX used f 0 l=(done++[{ g with name:=dV used (f - n.toNat) n }])++dX used f (dV used (f - n.toNat) n) (l.drop (i+1))):=⟨by
     refine⟨by simp[Ix],?_⟩;rw[E.out.2.1,E.out.2.2];show done++(if g.old || g.gone then _ else { g with name:=dV used (f - n.toNat) n } :: dX used f (dV used (f - n.toNat) n) (l.drop (i+1)))=_;rw[if_neg F];simp⟩
    generalize y:dV used (f - n.toNat) n=x at *;have jP:Bx (x<=f+i+1/\0<x):=⟨by omega⟩;clear F h gL;repeat' (first|refine aG (aj @eF (aj @U @BS)) ?_|(first|apply ah|apply af)<;>intro p)
    refine aN (λm e s'=>∃ n':Int,m=(f+1+i) - n'.toNat/\s'=s/\0<=n'/\n'<x/\dV used (f - n'.toNat) n'=x/\e.at 0 = .aE J 0 a.length 7/\e.at 2 = .aR d.n/\e.at 5 = .int .i64 n'/\e.at 6 = .int .i64 (i:Int)/\e.at 20 = .aE J 0 a.length 7/\e.at 21 = .int .i64 (a.length:Int)/\e.at 22 = .int .i64 (i:Int)) _
     ⟨n,rfl,rfl,jd,by omega,y,ef,ef,ef,ef,ef,ef,ef⟩ ?_
    clear A C e5 Z AV B6 xC U BS y;clear e;rintro m e s' ⟨n,rfl,WN,jd,xC,y,A,C,e5,e6,Z,AV,B6⟩;subst s';have DH:IntKind.i64.wrap (n+1)=n+1:=wrap_i64 _ om (by have:=jP.out;omega);have mU:=ER hu jd;rw[y]at mU;repeat' (first|refine aG @DH ?_|(first|apply ah|apply af)<;>intro p)
    rw[DH];refine lF j.out.2.1 wN ef ef (λb hb=>?_);cases b with
    | true=>
      have kH:=of_decide_eq_true hb;rw[if_pos kH]at mU;have jk:=yy (used:=used) (f - (n+1).toNat) (n:=n+1);rw[<- mU]at jk;have hq:=jP.out;clear hb kH y;repeat' (first|refine aG trivial ?_|(first|apply ah|apply af)<;>intro p)
      refine⟨(f+1+i) - (n+1).toNat,by omega,n+1,rfl,trivial,by omega,by omega,mU.symm,?_⟩;simp only[lk,dM,Nat.reduceEqDiff,if_false,if_true,A,C,e6,Z,AV,B6,and_self]
    | false=>
      have kH:=of_decide_eq_false hb;rw[if_neg kH]at mU;clear hb kH y;repeat' (first|refine aG @eF ?_|(first|apply ah|apply af)<;>intro p)
      refine dJ bY (i:=i) (k:=0) (c:=(g,tl)) (c':=({ g with name:=x },tl)) (rest:=rest) (v:=.int .i64 x) ef rfl ef rfl N O (by decide) rfl (λs4 od H T=>?_);have V:=j.out.1.flag Ak O (g':={ g with name:=x }) rfl rfl H od T;have hJl:=V.low.1 J (aI.2 rfl);have sw:=Bx.mk (And.intro V (And.intro (j.out.2.1.keep (T d.n om)) λid (w:id<t)=>(T id om).trans (j.out.2.2 id w)));have hEq2:Bx ((R.set i ({ g with name:=x },tl)).map (·.1)=(done++[{ g with name:=x }])++l.drop (i+1)):=⟨by
       rw[List.map_set,E.out.1,drop_set done l i _ g Ix FD]⟩
      have hq:=jP.out;clear V H T j N E;repeat' (first|refine aG @dO ?_|(first|apply ah|apply af)<;>intro p)
      refine⟨a.length - (i+1),by omega,i+1,_,x,_,rfl,by omega,by omega,sw.out.1,hEq2.out,u.out.1,u.out.2,by omega,by omega,sw.out.2.1,sw.out.2.2,?_⟩;simp only[lk,dM,Nat.reduceEqDiff,if_false,if_true,dO,mU,A,C,Z,AV,and_self]
  ·have eU:i=a.length:=by omega
   subst eU;rw[<- hl,List.drop_length,List.append_nil]at Y;rw[<- hl,List.drop_length]at D;have j:=Bx.mk (And.intro q ho);clear q ho z;repeat' (first|refine aG trivial ?_|(first|apply ah|apply af)<;>intro p)
   exact⟨.inl trivial,R,j.out.1,by rw[Y,D];simp[dX],by omega,j.out.2⟩
def lW (E:List (Int × LV)) (seen:List Nat):List Int:=seen.map λa=>(E.getD a default).1
theorem E8 (E:List (Int × LV)) (seen:List Nat) (a:Nat):lW E (seen++[a])=lW E seen++[(E.getD a default).1]:=by simp[lW]
theorem CS {E:List (Int × LV)}(g:(E.map (·.1)).Nodup):∀ {seen:List Nat},seen.Nodup->(∀ a∈seen,a<E.length)->(lW E seen).Nodup:=by
 intro seen i hs;unfold lW;rw[List.nodup_iff_pairwise_ne,List.pairwise_map];refine List.Pairwise.imp_of_mem (R:=λa b=>a≠b) (fun {a b} j k m n=>m ?_) (List.nodup_iff_pairwise_ne.1 i);have c:=hs a j;have d:=hs b k;have h1:(E.map (·.1))[a]'(by rw[List.length_map];exact c)=(E.map (·.1))[b]'(by rw[List.length_map];exact d):=by
  simpa[gD,c,d] using n
 have f:=List.pairwise_iff_getElem.1 g;rcases Nat.lt_trichotomy a b with h | h | h
 ·exact absurd h1 (f a b (by rw[List.length_map];exact c) (by rw[List.length_map];exact d) h)
 ·exact h
 ·exact absurd h1.symm (f b a (by rw[List.length_map];exact d) (by rw[List.length_map];exact c) h)
theorem P9 {E:List (Int × LV)}{M b:Nat}(V:(E.map (·.1)).Nodup) (y:LV) (s:St) (hb:s.get b=some (.cells .mut [.aR M])) (I:List Int->St->Prop) (hc:bf y=true) (h0:I [] s) (D:∀ d s1,I d s1->s1.get M=some (.map (mG di E)))
 (X:∀ d s1 s2,I d s1->s.n<=s1.n->s1.n<=s2.n->(∀ i,i≠s.n->i<s1.n->s2.get i=s1.get i)->I d s2)
 (C:∀ d x s1,d.length<E.length->x ∉ d->I d s1->s.n<s1.n->aM Tryz.prog GL y [.int .i64 x] s1 (λr s2=>s1.n<=s2.n/\s2.get s.n=s1.get s.n/\r = .bool true/\I (d++[x]) s2)) :
 aM Tryz.prog GL (.fn (.func 109) [] [.aO b 0]) [y] s (λ_ s'=>s.n<=s'.n/\∃ d,d.Nodup/\(∀ x,x∈d↔x∈E.map (·.1))/\I d s'):=by
 refine bM (first:=[]) (caps:=[.aO b 0]) Tryz.func109 br c109 bw (aX.mono (Q:=λo e s'=>(o = .normal∨o = .jmp .ret)/\s.n<=s'.n/\∃ d,d.Nodup/\(∀ x,x∈d↔x∈E.map (·.1))/\I d s') ?_ λo e s' F=>by
  obtain⟨h1,h2⟩:=F;exact⟨h1, .cE [],by simp[Yp,aW],h2⟩)
 refine Cd.out (mH λe H e1=>?_);unfold Yp;dsimp only[jA,qT,qD,qm,ql,qR];have q:=D [] s h0;have t:=Bx.mk h0;clear h0;repeat' (first|refine aG @hb ?_|(first|apply ah|apply af)<;>intro u)
 refine EF (n:=s.n) (M:=M) rfl ef q ?_;repeat' (first|refine aG trivial ?_|(first|apply ah|apply af)<;>intro u)
 refine aN (λm e s1=>∃ seen:List Nat,m=E.length - seen.length/\seen.Nodup/\(∀ a∈seen,a<E.length)/\s.n<s1.n/\I (lW E seen) s1/\s1.get s.n=some (.iter (some M) (mG di E).length seen (mG di E).length)/\e.at 0=y/\e.at 5 = .aO s.n 0) _
  ⟨[],rfl,List.nodup_nil,λa g=>absurd g (by simp),by simp,X [] s _ t.out (Nat.le_refl _) (by simp) λi J _=>by rw[St.aA,if_neg J],by rw[St.aA,if_pos rfl],ef,ef⟩ ?_
 clear H e1 t q;clear e;rintro m e s1 ⟨seen,rfl,Y,v,eu,L,w,H,e5⟩;have z:=D _ _ L;have N:=Bx.mk L;clear L;refine mN ?_;refine iC hm ?_;refine JR (M:=M) (it:=s.n) (seen:=seen) ef w z (by
  cases seen with
  | nil=>exact .inl rfl
  | cons a l=>right;have:=v a (by simp);rw[fc];omega) (λa g Z=>?_) (λdD=>?_)
 ·rw[fc]at g;have O:E[a]? = some (E.getD a default):=by rw[gD,gE g];rfl
  have kW:=Kk di O;have BK:=Ea V v g Z;have R:(seen++[a]).Nodup:=List.nodup_append.2 ⟨Y,by simp,λx hx y C e=>by rw[List.mem_singleton]at C;subst C;exact Z (e ▸ hx)⟩;have S:∀ x∈seen++[a],x<E.length:=λx hx=>by
   rcases List.mem_append.1 hx with hx | hx
   ·exact v x hx
   ·rw[List.mem_singleton.1 hx];exact g
  have iK:seen.length<E.length:=by
   have:=tX (n:=E.length) R S;rw[List.length_append,List.length_singleton]at this;omega
  have T:(s1.put s.n (.iter (some M) (mG di E).length (seen++[a]) (mG di E).length)).get s.n=some (.iter (some M) (mG di E).length (seen++[a]) (mG di E).length):=by rw[St.az,if_pos rfl]
  have U:=X _ s1 (s1.put s.n (.iter (some M) (mG di E).length (seen++[a]) (mG di E).length)) N.out om (by simp) λi J _=>by rw[St.az,if_neg J]
  have h:=D _ _ U;have jk:(s1.put s.n (.iter (some M) (mG di E).length (seen++[a]) (mG di E).length)).n=s1.n:=rfl;generalize s1.put s.n (.iter (some M) (mG di E).length (seen++[a]) (mG di E).length)=s2 at *;have f:=Bx.mk (And.intro U (And.intro R S));clear U N w z R S;repeat' (first|refine aG trivial ?_|(first|apply ah|apply af)<;>intro u)
  refine EG (M:=M) (i:=a) (last:=(mG di E).length) ef T h rfl (by rw[fc];exact g) ?_;rw[kW];have Iu:=E8 E seen a;have A:(E.getD a default).1 ∉ lW E seen:=BK;generalize (E.getD a default).1=x at *;unfold di;have p:=C (lW E seen) x s2 (by unfold lW;rw[List.length_map];exact iK) A f.out.1 om;rw[<- Iu]at p;repeat' (first|refine aG trivial ?_|(first|apply ah|apply af)<;>intro u)
  refine bK wN (fv:=y) (vs:=[.int .i64 x]) ef ef (aM.mono p λr s3 F=>⟨trivial,?_⟩);obtain⟨o9,QW,rfl,B⟩:=F;simp only[Env.aB];have j:=QW.trans T;have eg:=Bx.mk (And.intro B j);clear p B j QW T h;repeat' (first|refine aG trivial ?_|(first|apply ah|apply af)<;>intro u)
  refine⟨E.length - (seen++[a]).length,by rw[List.length_append,List.length_singleton];omega,seen++[a],rfl,f.out.2.1,f.out.2.2,by omega,eg.out.1,eg.out.2,?_⟩;simp only[lk,dM,Nat.reduceEqDiff,if_false,H,e5,and_self]
 ·have Rt:∀ a,a<E.length->a∈seen:=λa g=>dD a (by rw[fc];exact g) (by rw[fc];exact g);repeat' (first|refine aG trivial ?_|(first|apply ah|apply af)<;>intro u)
  refine⟨.inl trivial,by omega,lW E seen,CS V Y v,λx=>?_,N.out⟩;have:=Be (c:=λ_=>true) (K:=E.map (·.1)) (λk=>Iff.rfl) v Rt x;unfold pY at this;simpa[lW] using this
abbrev DT:bx:=.region [{ dst:=some 5,op:=.mv (.t 7) }]
abbrev Gq:bx:=.block 1 (.region [{ dst:=some 8,op:=.load none (.t 2) },{ dst:=some 9,op:=.mv (.t 5) },{ dst:=some 10,op:=.bu 1 1 [.int .i64 0] [(0,1, .t 9)] },{ dst:=some 11,op:=.append 1 8 (.t 8) (.t 10) },{ dst:=none,op:=.store 1 (.t 2) (.t 11) }])
theorem Nm {E:List (Int × LV)}{M b:Nat}(R:(E.map (·.1)).Nodup) (J:E.length<=6000) (s:St) (S:s.get b=some (.cells .mut [.aR M])) (T:s.get M=some (.map (mG di E))) (C:b<s.n/\M<s.n) :
 aM Tryz.prog GL (.fn (.func 114) [] []) [.aq, .fn (.func 109) [] [.aO b 0]] s (λr s'=>s.n<=s'.n/\(∀ id,id<s.n->s'.get id=s.get id)/\∃ a,a.Nodup/\(∀ x,x∈a↔x∈E.map (·.1))/\ek s' r 1 (ints a) a.length/\(a=[]->r = .aq)/\∀ id,aQ r id->s.n<=id):=by
 refine bM (first:=[]) (caps:=[]) Tryz.func114 br c114 bw (aX.mono (Q:=λo e s'=>(o = .normal∨o = .jmp .ret)/\s.n<=s'.n/\(∀ id,id<s.n->s'.get id=s.get id)/\∃ a,a.Nodup/\(∀ x,x∈a↔x∈E.map (·.1))/\ek s' (e.at 4) 1 (ints a) a.length/\(a=[]->e.at 4 = .aq)/\∀ id,aQ (e.at 4) id->s.n<=id) ?_ λo e s' U=>by
  obtain⟨h1,h2⟩:=U;exact⟨h1,_,by simp[Yn,aW,bD],h2⟩)
 refine Cd.out (mH λe V e1=>?_);unfold Yn;dsimp only[jA,jG,qJ,qX,qm,ql,qR];refine mN ?_;refine iC hm ?_;refine iw (v:=.aO s.n 0) (s':=s.new (.cells .mut [.aq])) (by simp only[bq.run,lk,Ws,rH,V];try rfl) ?_;repeat' (first|refine aG trivial ?_|(first|apply ah|apply af)<;>intro z)
 refine EA (yv:=.fn (.func 109) [] [.aO b 0]) ef ?_;have e2:Env.at (((Tr.set e 2 (LV.aO s.n 0)).set 4 LV.aq).set 6 (LV.fn (.func 109) [] [LV.aO b 0])) 2 = .aO s.n 0:=by simp only[lk,Nat.reduceEqDiff,if_false,if_true]
 generalize (((Tr.set e 2 (LV.aO s.n 0)).set 4 LV.aq).set 6 (LV.fn (.func 109) [] [LV.aO b 0]))=d at *;rw[St.fW];refine aM.mono (P9 (M:=M) (b:=b) R (.rG (s.n+1)) ((s.new (.cells .mut [.aq])).new (.loop .ready none d [7] DT Gq)) (by rw[St.aA,if_neg (by simp;omega),St.aA,if_neg om];exact S)
  (λa st=>st.get (s.n+1)=some (.loop .ready none d [7] DT Gq)/\s.n+2<=st.n/\(∀ id,id<s.n->st.get id=s.get id)/\a.length<=E.length/\∃ v,st.get s.n=some (.cells .mut [v])/\ek st v 1 (ints a) a.length/\(a=[]->v = .aq)/\∀ id,aQ v id->s.n+2<id) rfl ?_ ?_ ?_ ?_) ?_
 ·refine⟨by rw[St.aA,if_pos (by simp)],by simp,λid g=>by rw[St.aA,if_neg (by simp;omega),St.aA,if_neg om],by simp, .aq,by rw[St.aA,if_neg (by simp),St.aA,if_pos rfl],ek.nil _ _,λ_=>rfl,λid c=>absurd c (bE id)⟩
 ·rintro a st ⟨-,-,h1,-⟩;rw[h1 M C.2];exact T
 ·rintro a st Nu ⟨h1,h2,h3,m,v,t,i,h6,f⟩ - D u;simp only[St.fW]at u;exact⟨(u _ om om).trans h1,by omega,λid g=>(u id om om).trans (h3 id g),m,v,(u _ om om).trans t,i.mono D λid c=>u id (by have:=f id c;omega) (i.lt c),h6,f⟩
 ·rintro a x st cG X ⟨h1,h2,h3,m,v,t,i,h6,f⟩ D;simp only[St.fW]at D ⊢;refine Ev h1 rfl λF=>?_;show Cd Tryz.prog GL true F DT (Tr.set d 7 (.int .i64 x)) st _;have H:=i.cell;have p:=Bx.mk (And.intro i (And.intro h6 (And.intro f (And.intro h3 h1))));clear i h6 f h3 h1;repeat' (first|refine aG trivial ?_|(first|apply ah|apply af)<;>intro z)
  refine⟨p.out.2.2.2.2,?_⟩;have I:(st.put (s.n+1) (.loop .busy none d [7] DT Gq)).get s.n=some (.cells .mut [v]):=by rw[St.az,if_neg om];exact t
  have L:(st.put (s.n+1) (.loop .busy none d [7] DT Gq)).get (s.n+1)=some (.loop .busy none d [7] DT Gq):=by rw[St.az,if_pos rfl]
  have w:=p.out.1.mono (s':=st.put (s.n+1) (.loop .busy none d [7] DT Gq)) (by simp) λid c=>by
   have:=p.out.2.2.1 id c;rw[St.az,if_neg om]
  have q:∀ id,id≠s.n+1->(st.put (s.n+1) (.loop .busy none d [7] DT Gq)).get id=st.get id:=λid g=>by rw[St.az,if_neg g]
  have Y:(st.put (s.n+1) (.loop .busy none d [7] DT Gq)).n=st.n:=rfl;generalize st.put (s.n+1) (.loop .busy none d [7] DT Gq)=s1 at *;have f:=p.out.2.2.1;have h3:=p.out.2.2.2.1;repeat' (first|refine aG @I ?_|(first|apply ah|apply af)<;>intro z)
  refine qc (n:=a.length) (aZ:=1) (xv:=.int .i64 x) (yv:=v) (vs:=[.int .i64 x]) (cells:=ints a) ef rfl rfl rfl rfl ef w (by decide) om (λA j a1 a4 a5 a6=>?_);have y:A.get s.n=some (.cells .mut [v]):=by rw[a6 _ om λc=>by have:=f _ c;omega];exact I
  have k:A.get (s.n+1)=some (.loop .busy none d [7] DT Gq):=by rw[a6 _ om λc=>by have:=f _ c;omega];exact L
  have N:A.get (s.n+2)=st.get (s.n+2):=by rw[a6 _ om λc=>by have:=f _ c;omega];exact q _ om
  have O:∀ id,id<s.n->A.get id=s.get id:=λid g=>by
   rw[a6 _ om λc=>by have:=f _ c;omega,q _ om];exact h3 id g
  have B:=Bx.mk (And.intro a4 (And.intro k (And.intro N O)));clear a4 a6 k N O w I L q f h3 p;repeat' (first|refine aG @y ?_|(first|apply ah|apply af)<;>intro z)
  refine⟨.busy,none,d,[7],DT,Gq,by rw[St.az,if_neg om];exact B.out.2.1,by simp;omega,?_,rfl,by rw[St.az,if_pos rfl],by simp;omega,λid g=>?_,by rw[List.length_append,List.length_singleton];omega, .aE j 0 (a.length+1) 1,?_,?_,λh=>absurd h (by simp),λid c=>?_⟩
  ·rw[St.az,if_neg om,St.az,if_neg om];exact B.out.2.2.1
  ·rw[St.az,if_neg om,St.az,if_neg om];exact B.out.2.2.2 id g
  ·rw[St.az,if_neg om,St.az,if_pos rfl]
  ·have Z:ints (a++[x])=ints a++[.int .i64 x]:=by simp[ints]
   rw[Z,List.length_append,List.length_singleton];exact B.out.1.mono (by simp) λid c=>by
    have:=aI.1 c;rw[St.az,if_neg om,St.az,if_neg om]
  ·have:=aI.1 c;omega
 ·rintro r s' ⟨hn,a,fM,gb,h1,h2,h3,m,v,t,i,h6,f⟩;refine⟨.ready,none,d,[7],DT,Gq,h1,by simp,?_⟩;simp only[Dz,Cg];have hg:(s'.put (s.n+1) (.loop .exhausted none d [7] DT Gq)).get s.n=some (.cells .mut [v]):=by rw[St.az,if_neg om];exact t
  have w:=i.mono (s':=s'.put (s.n+1) (.loop .exhausted none d [7] DT Gq)) (by simp) λid c=>by
   have:=f id c;rw[St.az,if_neg om]
  have q:∀ id,id<s.n->(s'.put (s.n+1) (.loop .exhausted none d [7] DT Gq)).get id=s.get id:=λid g=>by rw[St.az,if_neg om];exact h3 id g
  have Y:(s'.put (s.n+1) (.loop .exhausted none d [7] DT Gq)).n=s'.n:=rfl;generalize s'.put (s.n+1) (.loop .exhausted none d [7] DT Gq)=s2 at *;have hB:=Bx.mk (And.intro w (And.intro h6 (And.intro f q)));have H:=i.cell;clear i h6 f w q h3;repeat' (first|refine aG @hg ?_|(first|apply ah|apply af)<;>intro z)
  refine⟨.inr trivial,by omega,hB.out.2.2.2,a,fM,gb,?_⟩;simp only[lk,Nat.reduceEqDiff,if_false,if_true];exact⟨hB.out.1,hB.out.2.1,λid c=>by have:=hB.out.2.2.1 id c;omega⟩
theorem Ut {M:Nat}(s:St):aM Tryz.prog GL (.fn (.func 97) [] []) [.aR M] s (λr s'=>r = .fn (.func 109) [] [.aO s.n 0]/\s'=s.new (.cells .mut [.aR M])):=by
 refine bM (first:=[]) (caps:=[]) Tryz.func97 br c97 bw (aX.mono (Q:=λo e s'=>(o = .normal∨o = .jmp .ret)/\e.at 2 = .fn (.func 109) [] [.aO s.n 0]/\s'=s.new (.cells .mut [.aR M])) ?_ λo e s' a=>by
  obtain⟨h1,h2,h3⟩:=a;exact⟨h1,_,by simp[l97,aW,bD,h2],rfl,h3⟩)
 refine Cd.out (pg λe b=>?_);unfold l97;dsimp only[jA,qm,qR];refine mN ?_;refine iC hm ?_;refine iw (v:=.aO s.n 0) (s':=s.new (.cells .mut [.aR M])) (by simp only[bq.run,lk,Ws,rH,b];try rfl) ?_;repeat' (first|refine aG trivial ?_|(first|apply ah|apply af)<;>intro c)
 exact⟨.inr trivial,ef,trivial⟩
theorem XR {d K:List Int}(h1:d.Nodup) (h2:K.Pairwise (· < ·)) (h3:∀ x,x∈d↔x∈K):OA d=K:=by
 have f:(OA d).Perm d:=List.mergeSort_perm _ _;have hs:(OA d).Pairwise (· <= ·):=by
  have:=List.pairwise_mergeSort (le:=λa b:Int=>decide (a<=b)) (λa b c h1 h2=>by simp at *;omega) (λa b=>by simp;omega) d;exact this.imp λh=>by simpa using h
 have g:(OA d).Nodup:=f.nodup_iff.2 h1;refine Ku ((hs.and (List.nodup_iff_pairwise_ne.1 g)).imp λh=>by omega) h2 λx=>?_;rw[f.mem_iff];exact h3 x
theorem Lg {M b:Nat}{K:List Int}(s:St) (y:K.Pairwise (· < ·)) (z:K.length<=6000) (A:s.get b=some (.cells .mut [.aR M])) (J:ey s M K) (m:b<s.n/\M<s.n) :
 aM Tryz.prog GL (.fn (.func 96) [] []) [.fn (.func 109) [] [.aO b 0]] s (λr s'=>s.n<=s'.n/\(∀ id,id<s.n->s'.get id=s.get id)/\ek s' r 1 (ints K) K.length/\∀ id,aQ r id->s.n<=id):=by
 obtain⟨E,f,d,L,g⟩:=J;have p:K.Nodup:=y.imp λh=>by omega
 have N:E.length=K.length:=by
  have:=((List.perm_ext_iff_of_nodup d p).2 g).length_eq;rwa[List.length_map]at this
 have q:=Nm d om s A f m;have B:aM Tryz.prog GL (.fn (.func 108) [] []) [.fn (.func 109) [] [.aO b 0]] s (λr s'=>s.n<=s'.n/\(∀ id,id<s.n->s'.get id=s.get id)/\∃ a,a.Nodup/\(∀ x,x∈a↔x∈E.map (·.1))/\ek s' r 1 (ints a) a.length/\(a=[]->r = .aq)/\∀ id,aQ r id->s.n<=id):=by
  refine bM (first:=[]) (caps:=[]) Tryz.func108 br c108 bw (aX.mono (Q:=λo e s'=>(o = .normal∨o = .jmp .ret)/\∃ r,e.at 2=r/\s.n<=s'.n/\(∀ id,id<s.n->s'.get id=s.get id)/\∃ a,a.Nodup/\(∀ x,x∈a↔x∈E.map (·.1))/\ek s' r 1 (ints a) a.length/\(a=[]->r = .aq)/\∀ id,aQ r id->s.n<=id) ?_ λo e s' c=>by
   obtain⟨h1,r,h2,h3⟩:=c;exact⟨h1,_,by simp[Yq,aW,bD,h2],h3⟩)
  refine Cd.out (pg λe O=>?_);unfold Yq;dsimp only[jA,qX,qm,qR];repeat' (first|refine aG trivial ?_|(first|apply ah|apply af)<;>intro k)
  refine bK wN (fv:=.fn (.func 114) [] []) (vs:=[.aq, .fn (.func 109) [] [.aO b 0]]) ef ef (aM.mono q λr s2 c=>⟨trivial,?_⟩);simp only[Env.aB];have hB:=Bx.mk c;clear c q;repeat' (first|refine aG trivial ?_|(first|apply ah|apply af)<;>intro k)
  exact⟨.inr trivial,r,ef,hB.out⟩
 refine bM (first:=[]) (caps:=[]) Tryz.func96 br c96 bw (aX.mono (Q:=λo e s'=>(o = .normal∨o = .jmp .ret)/\∃ r,e.at 2=r/\s.n<=s'.n/\(∀ id,id<s.n->s'.get id=s.get id)/\ek s' r 1 (ints K) K.length/\∀ id,aQ r id->s.n<=id) ?_ λo e s' c=>by
  obtain⟨h1,r,h2,h3⟩:=c;exact⟨h1,_,by simp[l96,aW,bD,h2],h3⟩)
 refine Cd.out (pg λe O=>?_);unfold l96;dsimp only[jA,qX,qG,qm,qR];repeat' (first|refine aG trivial ?_|(first|apply ah|apply af)<;>intro k)
 refine bK wN (fv:=.fn (.func 108) [] []) (vs:=[.fn (.func 109) [] [.aO b 0]]) ef ef (aM.mono B λr s2 c=>⟨trivial,?_⟩);simp only[Env.aB];obtain⟨U,C,a,D,F,t,V,i⟩:=c;have X:a.length=E.length:=by
  have:=((List.perm_ext_iff_of_nodup D d).2 F).length_eq;rwa[List.length_map]at this
 have j:=XR D y λx=>(F x).trans (g x);have u:=OC t om;rw[j]at u;have Y:=t.cell;have v:=Bx.mk (And.intro C i);clear q B f A C i t;repeat' (first|refine aG trivial ?_|(first|apply ah|apply af)<;>intro k)
 refine bK wN (fv:=.fn (.func 98) [] []) (vs:=[r]) ef ef (aM.mono u λx w c=>⟨trivial,?_⟩);simp only[Env.aB];obtain⟨H,Z,I⟩:=c;have R:Bx (s.n<=w.n/\(∀ id,id<s.n->w.get id=s.get id)/\ek w r 1 (ints K) K.length/\∀ id,aQ r id->s.n<=id):=⟨by
  refine⟨by omega,λid S=>?_,?_,v.out.2⟩
  ·rw[I id λT=>by have:=v.out.2 id T;omega];exact v.out.1 id S
  ·rw[show K.length=a.length by omega];exact H⟩
 clear u H I;repeat' (first|refine aG trivial ?_|(first|apply ah|apply af)<;>intro k)
 exact⟨.inr trivial,r,ef,R.out⟩
theorem vJ {α a:Type}{f:List a->α->a}{l:List α}{x:a}(h:x∈cw f l):∃ d,∃ m∈l,x=f d m:=by
 have key:∀ (l:List α) (d:List a),x∈l.foldl (λd n=>d++[f d n]) d->x∈d∨∃ b,∃ m∈l,x=f b m:=by
  intro l;induction l with
  | nil=>intro d h;exact .inl h
  | cons y l ih=>
    intro d h;rcases ih _ h with h | ⟨b,m,hm,e⟩
    ·rcases List.mem_append.1 h with h | h
     ·exact .inl h
     ·exact .inr ⟨d,y,by simp,by simpa using h⟩
    ·exact .inr ⟨b,m,by simp[hm],e⟩
 rcases key l [] h with h | h
 ·cases h
 ·exact h
theorem tu {l a:List Gn}(h:a.map (·.par)=l.map (·.par)) (c:jI l):jI a:=by
 intro i b;have hl:a.length=l.length:=by
  have:=congrArg List.length h;simpa using this
 have h1:=congrArg (λL=>L[i]?) h;simp only[List.getElem?_map]at h1;rw[gE b,gE om]at h1;simp only[Option.map_some,Option.some.injEq]at h1;have:=c i om;rw[gD,gE om]at this;rw[gD,gE b];simp only[Option.getD_some] at *;rw[h1];exact this
structure Gp (c:Nat) (n:Gn):Prop where
  inc:n.kept.Pairwise (· < ·)
  len:n.kept.length<=3000
  tQ:∀ x∈n.kept,0<=x/\x<3000
  name:0<=n.name/\n.name<=c
  par : -1<=n.par
theorem KT {N:Nat}{mv:Nat->Mv}{t:List Nd}(c:Tr N t) (g:N<=3000):jI (grown N mv t)/\∀ n∈grown N mv t,Gp (2*N) n:=by
 have d:∀ i,i<t.length->-1<=(t.getD i default).par/\(t.getD i default).par<(i:Int):=λi a=>by
  have h:=c.1 i a;have hl:(t.take i).length=i:=by rw[List.length_take];omega
  rcases Nat.eq_zero_or_pos i with e | e
  ·have:=h.root (by omega);omega
  ·have:=h.par (by omega);omega
 refine⟨λi a=>?_,λn b=>?_⟩
 ·unfold grown at a ⊢;rw[List.length_append,List.length_map,List.length_mapIdx]at a;rw[gD];by_cases h:i<t.length
  ·rw[List.getElem?_append_left (by rw[List.length_map];exact h),List.getElem?_map,gE h];have:=(d i h).2;rw[gD,gE h]at this;exact this
  ·rw[List.getElem?_append_right (by rw[List.length_map];omega),List.length_map,List.getElem?_mapIdx,gE om];show ((i - t.length:Nat):Int)<(i:Int);omega
 ·unfold grown at b;rcases List.mem_append.1 b with b | b
  ·obtain⟨m,hm,rfl⟩:=List.mem_map.1 b;obtain⟨i,a,rfl⟩:=List.getElem_of_mem hm;have h:=c.1 i a;have f:=d i a;rw[gD,gE a]at h f;have h1:=h.name;refine⟨rX _ _,?_,λx hx=>?_,?_,f.1⟩
   ·have:=lq N (vz mv t[i].set λ_=>true);show (canon N _).length<=3000;omega
   ·have:=(nO.1 hx).2;omega
   ·show 0<=t[i].name/\t[i].name<=((2*N:Nat):Int);simp only[Option.getD_some]at h1;omega
  ·obtain⟨k,j,rfl⟩:=List.mem_mapIdx.1 b;refine⟨rX _ _,?_,λx hx=>?_,⟨Int.le_refl 0,?_⟩,?_⟩
   ·have:=lq N (vz mv t[k].set λm=>m.2);show (canon N _).length<=3000;omega
   ·have:=(nO.1 hx).2;omega
   ·show (0:Int)<=((2*N:Nat):Int);omega
   ·show (-1:Int)<=(k:Int);omega
theorem F8 {c:Nat}{l:List Gn}(h:jI l/\∀ n∈l,Gp c n):jI (aD l)/\∀ n∈aD l,Gp c n:=by
 refine⟨tu (B2 l) h.1,λn f=>?_⟩;obtain⟨d,m,hm,rfl⟩:=vJ f;have a:=h.2 m hm;have b:(eW d m).Pairwise (· < ·)/\(eW d m).length<=3000/\∀ x∈eW d m,0<=x/\x<3000:=by
  unfold eW;split
  ·exact⟨a.inc.filter _,Nat.le_trans (List.length_filter_le _ _) a.len,λx hx=>a.tQ x (List.mem_filter.1 hx).1⟩
  ·exact⟨a.inc,a.len,a.tQ⟩
 exact⟨b.1,b.2.1,b.2.2,a.name,a.par⟩
theorem zH {c:Nat}{l:List Gn}(h:jI l/\∀ n∈l,Gp c n):jI (aJ l)/\∀ n∈aJ l,Gp c n:=by
 refine⟨tu (MX l l) h.1,λn b=>?_⟩;obtain⟨d,m,hm,rfl⟩:=vJ b;have a:=h.2 m hm;exact⟨a.inc,a.len,a.tQ,a.name,a.par⟩
theorem yB (used:List Int) (f:Nat):∀ (l:List Gn) (n:Int),(dX used f n l).map (·.par)=l.map (·.par)
 | [],n=>rfl
 | x::l,n=>by
   unfold dX;split
   ·rw[List.map_cons,List.map_cons,yB used f l]
   ·rw[List.map_cons,List.map_cons,yB used f l]
theorem HP {used:List Int}{f:Nat} : ∀ {l:List Gn}{n:Int}{c:Nat},0<=n->n<=c->f<=c->(∀ x∈l,Gp c x)->∀ x∈dX used f n l,Gp (c+l.length) x
 | [],n,c,h0,h1,h2,hl,x,hx=>by cases hx
 | y :: l, n, c, h0, h1, h2, hl, x, hx => by
   have d:∀ {a b:Nat}{z:Gn},a<=b->Gp a z->Gp b z:=λj h=>⟨h.inc,h.len,h.tQ,by have:=h.name;omega,h.par⟩;unfold dX at hx;split at hx
   ·rcases List.mem_cons.1 hx with rfl | hx
    ·exact d om (hl _ (by simp))
    ·exact d (by simp) (HP h0 h1 h2 (λz i=>hl z (by simp[i])) x hx)
   ·have k:=yy (used:=used) (f - n.toNat) (n:=n);rcases List.mem_cons.1 hx with rfl | hx
    ·have g:=hl y (by simp);exact⟨g.inc,g.len,g.tQ,⟨by show 0<=dV used (f - n.toNat) n;omega,by show dV used (f - n.toNat) n<=((c+(y::l).length:Nat):Int);rw[List.length_cons];omega⟩,g.par⟩
    ·have:=HP (c:=c+1) om om om (λz i=>d om (hl z (by simp[i]))) x hx;exact d (by rw[List.length_cons];omega) this
theorem Kf {f:Nat}{l:List Gn}(h:jI l/\∀ n∈l,Gp f n):jI (named f l)/\∀ n∈named f l,Gp (f+l.length) n:=
 ⟨tu (yB _ _ _ _) h.1,HP (Int.le_refl 0) om (Nat.le_refl _) h.2⟩
theorem XL {f:Nat}{l:List Gn}(h:∀ n∈l,Gp f n):∀ x∈dW l,x<=(f:Int):=λx hx=>by
 unfold dW at hx;obtain⟨n,a,rfl⟩:=List.mem_map.1 hx;exact (h n (List.mem_filter.1 a).1).name.2
theorem qh (used:List Int) (f:Nat):∀ (l:List Gn) (n:Int),(dX used f n l).length=l.length
 | [],n=>rfl
 | x::l,n=>by
   unfold dX;split<;>simp[qh used f l]
theorem VD {s:St}{a b:Int}{c:LV}{K:List Int}(h:ek s c 1 (ints K) K.length):∃ Tl s',gC [.int .i64 a, .int .i64 b,c] s=([.int .i64 a, .int .i64 b,Tl],s')/\Sl Tl (ints K) K.length/\s'.n=s.n/\∀ id,¬ aQ c id->s'.get id=s.get id:=by
 obtain⟨k,⟨rfl,h0⟩ | ⟨j,rfl,h1,h2,h3⟩⟩:=h
 ·have d:K=[]:=List.length_eq_zero_iff.1 h0;subst d;exact⟨.aq,s,gw rfl, .nil,rfl,λ_ _=>rfl⟩
 ·refine⟨.aF (ints K) K.length,s.put j (.cells .app (ints K)),?_, .aF _ _,rfl,λid f=>by rw[St.az,if_neg λe=>f (aI.2 e)]⟩;have g:cY bp (.aE j 0 K.length 1) s=some (.aF (ints K) K.length,s.put j (.cells .app (ints K))):=gQ (len:=K.length) 38 h3 (by simp) (bI _);have i:∀ (x:Int) (s:St),cY bp (.int .i64 x) s=some (.int .i64 x,s):=λx s=>bk rfl;simp only[gC,cY.cM,i,g,Option.bind_eq_bind,Option.bind_some]
section
variable {P:Program}{G:bP}{K:Env->St->Prop}{l:List bC}{e:Env}{s s1:St}{fl MZ:Bool}
theorem yh {T:Nat->Prop}{a b bytes aZ n:Nat}{x y:bF}{z:List LV}{xv yv:LV}{vs vs' cells:List LV}(hx:x.ev e=xv) (A:cells? xv=some vs) (o:z.length=aZ) (c:vs.length=aZ) (p:gC vs (s.new (.cells .mut vs))=(vs',s1)) (d:vs'.length=aZ) (J:s1.n=s.n+1) (f:∀ id,id<s.n->¬ T id->s1.get id=s.get id) (q:y.ev (Tr.set e a (.aE s.n 0 1 aZ))=yv) (hs:ek s yv aZ cells n) (B:∀ id,aQ yv id->¬ T id) (C:bytes<=2 ^ 10) (hl:n<=2 ^ 20)
 (h:∀ s' j,s.n<=j->ek s' (.aE j 0 (n+1) aZ) aZ (cells++vs') (n+1)->s.n<=s'.n->(∀ id,id<s.n->¬ aQ yv id->¬ T id->s'.get id=s.get id)->W P G K l (Tr.set (Tr.set e a (.aE s.n 0 1 aZ)) b (.aE j 0 (n+1) aZ)) s') :
 W P G K (⟨some a, .bu aZ 1 z [(0,(aZ,x))],none,[],fl⟩::⟨some b, .append aZ bytes y (.t a),none,[],MZ⟩::l) e s:=by
 have D:aU (rep 1 z) (bt e [(0,(aZ,x))])=some vs:=by
  have h1:splice z 0 vs=vs:=lK (vs:=vs) (z:=z) (by rw[o,c]);have E:rep 1 z=z:=by simp[rep]
  simp only[bt,List.map,E,aU,hx,A,c];rw[if_pos ⟨trivial,by rw[o];omega⟩,h1]
 refine j7 (v:=.aE s.n 0 1 aZ) (s':=s.new (.cells .mut vs)) rfl (by simp only[bq.run,D,Option.bind_eq_bind,Option.bind_some]) (by cases fl<;>rfl) trivial ?_;simp only[Env.aB];have r:rowOf (s.new (.cells .mut vs)) aZ 1 (.aE s.n 0 1 aZ)=some vs:=by
  simp only[rowOf,St.aA,if_true,Nat.le_refl,Nat.one_mul,Nat.zero_add,c,and_self,List.drop_zero];rw[List.take_of_length_le om]
 have u:(n+1)*bytes<=big:=by
  have:(n+1)*bytes<=(2 ^ 20+1)*2 ^ 10:=Nat.mul_le_mul om C;unfold big;omega
 obtain⟨g,hs⟩:=hs;have w:(cells++vs').length=(n+1)*aZ:=by rw[List.length_append,g,d,Nat.add_mul,Nat.one_mul]
 rcases hs with⟨rfl,rfl⟩ | ⟨j,rfl,h1,h2,h3⟩
 ·have F:cells=[]:=List.length_eq_zero_iff.1 (by rw[g,Nat.zero_mul]);subst F;have i:bT aZ bytes .aq vs' 1 s1=some (.aE s1.n 0 1 aZ,s1.new (.cells .mut vs')):=by
   simp only[bT];rw[if_neg om,if_pos ⟨by simpa using u,by rw[d];omega⟩]
  refine eD rfl q (by simp) rfl r p i ?_;refine h _ s1.n om ⟨w, .inr ⟨s1.n,rfl,by omega,by simp,by rw[St.aA,if_pos rfl];rfl⟩⟩ (by simp;omega) λid k _ m=>?_;rw[St.aA,if_neg om];exact f id k m
 ·have H:s1.get j=some (.cells .mut cells):=by rw[f j h2 (B j (aI.2 rfl))];exact h3
  have i:bT aZ bytes (.aE j 0 n aZ) vs' 1 s1=some (.aE s1.n 0 (n+1) aZ,(s1.put j (.cells .ro [])).new (.cells .mut (cells++vs'))):=by
   simp only[bT,if_true,H,Nat.zero_add,g,Nat.le_refl,u,d,Nat.one_mul,and_self,List.drop_zero];rw[List.take_of_length_le om];rfl
  refine eD rfl q (by simp) rfl r p i ?_;refine h _ s1.n om ⟨w, .inr ⟨s1.n,rfl,by omega,by simp,by rw[St.aA,St.eo,if_pos rfl]⟩⟩ (by simp;omega) λid k I m=>?_;have dB:id≠j:=λe=>I (aI.2 e);rw[St.aA,St.eo,if_neg om,St.az,if_neg dB];exact f id k m
end
end Go.Proofs.YtkbiecjdcjfhaaaGreat
end
