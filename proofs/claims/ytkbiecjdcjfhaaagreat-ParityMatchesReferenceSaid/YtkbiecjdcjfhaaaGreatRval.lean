/- The document's Valid of automata. -/
import Derived.Test.YtkbiecjdcjfhaaaGreatValid
import Derived.Test.YtkbiecjdcjfhaaaGreatLitw
set_option linter.unusedSimpArgs false
set_option linter.unusedVariables false
set_option maxRecDepth 100000
set_option maxHeartbeats 16000000
section
namespace Go.Proofs.YtkbiecjdcjfhaaaGreat
open Go Go.Pv
open Classical
theorem Nj (a b:Int × Bool):PO 54 [.agg [.int .i64 a.1, .bool a.2], .agg [.int .i64 b.1, .bool b.2]] (.bool (decide (mlt a b))):=by
 obtain⟨x,p⟩:=a;obtain⟨y,q⟩:=b;refine gO (t:=4) hm Tryz.func54 br c54 bw rfl rfl rfl ?_;refine mH λe d f=>?_;unfold l54;dsimp only[jA,jC,jD,qM,qL,qF,qB,qK,qO,qP,qV,qT,qm,ql,qR];have c:mlt (x,p) (y,q)↔(x<y∨x=y/\p=false/\q=true):=Iff.rfl;cases p<;>cases q;all_goals
  repeat' (first|refine dg trivial ?_|(first|apply ah|apply af)<;>intro g)
  all_goals
   refine⟨.inr trivial,?_⟩;try simp only[lk,dM,Nat.reduceEqDiff,if_false,if_true]
   first
    | exact cg (λh=>by have:=c.1 h;simp at this;try omega)
    | exact gK (c.2 (by simp;try omega))
    | exact gK (c.2 (by simp))
theorem lP {v:LV}{B:Bu}{w x:LV}(hB:vo v B w x):PO 25 [v] (.bool (decide (Vb B))):=by
 have bV:=hB.closed;obtain⟨rfl,hs,hn⟩:=hB;obtain⟨vs,r⟩:=hn;have l:=r.sl.len;have D:=hs.sl.len;have q5:=hs.sl.cell;have wB:=r.sl.cell;have je:=lG;refine gO (t:=2) hm Tryz.func25 br c25 bw (by simp[LV.closed.au,bV]) rfl rfl ?_;refine pg λe e0=>?_;unfold l25;dsimp only[jA,jB,jC,jE,jF,qM,qL,qN,qF,qS,qI,qA,qB,qC,qK,qO,qP,qV,qU,qW,qT,qm,ql,qR];repeat' (first|refine dg (aj @l @D) ?_|(first|apply ah|apply af)<;>intro d)
 all_goals first
  | (refine⟨.inr trivial,?_⟩;simp only[lk,Nat.reduceEqDiff,if_false,if_true];exact cg λh=>by obtain⟨a,b,c,_⟩:=h;omega)
  | skip
 refine aN (λm e s=>∃ i:Nat,m=B.start.length - i/\i<=B.start.length/\(∀ k,k<i->0<=B.start.getD k 0/\B.start.getD k 0<B.next.length/\(0<k->B.start.getD (k - 1) 0<B.start.getD k 0))/\e.at 1 = .aY [.int .i64 B.L,w,x] 0/\e.at 3 = .int .i64 (i:Int)) _
  ⟨0,rfl,by omega,λk f=>absurd f (Nat.not_lt_zero _),ef,by simp only[lk,Nat.reduceEqDiff,if_false,if_true];rfl⟩ ?_
 have h1:1<=B.L:=by omega
 have h2:B.L<=64:=by omega
 have h3:B.next.length<=3000:=by omega
 clear d e0;rintro m e s ⟨i,rfl,hi,N,g,e3⟩;have E:∀ j:Nat,(j:Int)<9223372036854775807->IntKind.i64.wrap ((j:Int)+1)=((j+1:Nat):Int):=λj O=>by rw[wrap_i64 _ om om];rfl
 have Y:∀ j:Nat,0<j->(j:Int)<9223372036854775807->IntKind.i64.wrap ((j:Int) - 1)=((j - 1:Nat):Int):=λj h O=>by rw[wrap_i64 _ om om];omega
 have P:=hs.len;by_cases n:i<B.start.length
 · -- 
  have iQ:(i:Int)<(B.start.length:Int):=by omega
  have Z:((i - 1:Nat):Int)<(B.start.length:Int):=by omega
  have F:=E i om;have u:¬ (0<=B.start.getD i 0/\B.start.getD i 0<B.next.length/\(0<i->B.start.getD (i - 1) 0<B.start.getD i 0))->¬ Vb B:=λo h=>o (h.2.2.2.1 i n);have y:(0<=B.start.getD i 0/\B.start.getD i 0<B.next.length/\(0<i->B.start.getD (i - 1) 0<B.start.getD i 0))->∀ k,k<i+1->0<=B.start.getD k 0/\B.start.getD k 0<B.next.length/\(0<k->B.start.getD (k - 1) 0<B.start.getD k 0):=λo k f=>by
   by_cases h:k<i
   ·exact N k h
   ·obtain rfl:k=i:=by omega
    exact o
  rcases Nat.eq_zero_or_pos i with G | G
  ·subst G;repeat' (first|refine dg (aj @D (aj @l (aj (@cU _ _ _ hs.sl) @bB))) ?_|(first|apply ah|apply af)<;>intro d)
   all_goals first
    | (exfalso;omega)
    | (refine⟨.inr trivial,?_⟩;simp only[lk,Nat.reduceEqDiff,if_false,if_true];exact cg (u λh=>by omega))
    | (refine⟨B.start.length - (0+1),by omega,0+1,rfl,by omega,y ⟨by omega,by omega,λh=>absurd h (Nat.lt_irrefl _)⟩,?_⟩;simp only[lk,dM,Nat.reduceEqDiff,if_false,if_true,F,g,and_self])
  ·have Q:=Y i G om;repeat' (first|refine dg (aj @D (aj @l (aj (@cU _ _ _ hs.sl) (aj @bB @Q)))) ?_|(first|apply ah|apply af)<;>intro d)
   all_goals first
    | (exfalso;omega)
    | (refine⟨.inr trivial,?_⟩;simp only[lk,Nat.reduceEqDiff,if_false,if_true];exact cg (u λh=>by have:=h.2.2 G;omega))
    | (refine⟨B.start.length - (i+1),by omega,i+1,rfl,by omega,y ⟨by omega,by omega,λ_=>by omega⟩,?_⟩;simp only[lk,Nat.reduceEqDiff,if_false,if_true,F,g,and_self])
 · -- 
  have YZ:SOK B.next.length B.start:=λk f=>N k om;repeat' (first|refine dg @D ?_|(first|apply ah|apply af)<;>intro d)
  rotate_left
  ·exfalso;omega
  refine aN (λm e s=>∃ i:Nat,m=B.next.length - i/\i<=B.next.length/\(∀ k,k<i->ROK B.L B.next.length (B.next.getD k []))/\e.at 1 = .aY [.int .i64 B.L,w,x] 0/\e.at 4 = .int .i64 (i:Int)) _
   ⟨0,rfl,by omega,λk f=>absurd f (Nat.not_lt_zero _),ef,by simp only[lk,Nat.reduceEqDiff,if_false,if_true];rfl⟩ ?_
  clear N n d g e3;clear e;rintro m e s ⟨i,rfl,hi,ND,g,p⟩;by_cases n:i<B.next.length
  ·have iQ : (i : Int) < (B.next.length : Int) := by omega
   have F:=E i om;have g1:vs[i]? = some (vs.getD i .top):=r.get n;obtain⟨R,H⟩:=r.row i n;have fX:=H.sl.len;repeat' (first|refine dg (aj @l (aj (@cU _ _ _ r.sl) (aj @g1 @fX))) ?_|(first|apply ah|apply af)<;>intro d)
   ·exfalso;omega
   rotate_left
   ·refine⟨.inr trivial,?_⟩;simp only[lk,Nat.reduceEqDiff,if_false,if_true];exact cg λh=>by
     have:=(h.2.2.2.2 i n).1;omega
   generalize S:B.next.getD i []=row at *;generalize ij:vs.getD i .top=rv at *;have T:B.L=(row.length:Int):=by omega
   refine aN (λm e s=>∃ a:Nat,m=row.length - a/\a<=row.length/\(∀ k,k<a->MOK B.next.length (row.getD k []))/\e.at 1 = .aY [.int .i64 B.L,w,x] 0/\e.at 4 = .int .i64 (i:Int)/\e.at 5 = .int .i64 (a:Int)) _
    ⟨0,rfl,by omega,λk f=>absurd f (Nat.not_lt_zero _),ef,ef,by simp only[lk,Nat.reduceEqDiff,if_false,if_true];rfl⟩ ?_
   clear g p d;clear e;rintro m e s ⟨a,rfl,ha,z,g,p,I⟩;by_cases U:a<row.length
   ·have haI : (a : Int) < (row.length : Int) := by omega
    have haL:(a:Int)<B.L:=by omega
    have WK:=E a om;have g2:R[a]? = some (R.getD a .top):=H.get U;have J:=H.row a U;generalize wq:row.getD a []=ms at *;generalize W3:R.getD a .top=mv at *;have K:=J.sl.len;have V:=J.len;clear T;repeat' (first|refine dg (aj (@cU _ _ _ r.sl) (aj @g1 (aj (@cU _ _ _ H.sl) (aj @g2 @K)))) ?_|(first|apply ah|apply af)<;>intro d)
    ·exfalso;omega
    refine aN (λm e s=>∃ k:Nat,m=ms.length - k/\k<=ms.length/\(∀ j,j<k->0<=(ms.getD j (0,false)).1/\(ms.getD j (0,false)).1<B.next.length/\(0<j->mlt (ms.getD (j - 1) (0,false)) (ms.getD j (0,false))))/\e.at 1 = .aY [.int .i64 B.L,w,x] 0/\e.at 4 = .int .i64 (i:Int)/\e.at 5 = .int .i64 (a:Int)/\e.at 6=mv/\e.at 7 = .int .i64 (k:Int)) _
     ⟨0,rfl,by omega,λk f=>absurd f (Nat.not_lt_zero _),ef,ef,ef,ef,by simp only[lk,Nat.reduceEqDiff,if_false,if_true];rfl⟩ ?_
    clear g p I d;clear e;rintro m e s ⟨k,rfl,f,A,g,p,I,e6,e7⟩;by_cases X:k<ms.length
    ·have iN:(k:Int)<(ms.length:Int):=by omega
     have cD:=E k om;have kG:(dh ms)[k*2]? = some (.int .i64 (ms.getD k (0,false)).1):=mR X;have u:¬ (0<=(ms.getD k (0,false)).1/\(ms.getD k (0,false)).1<B.next.length/\(0<k->mlt (ms.getD (k - 1) (0,false)) (ms.getD k (0,false))))->¬ Vb B:=λo h=>by
      have h5:=(h.2.2.2.2 i n).2 a (by rw[S];exact U);rw[S,wq]at h5;exact o (h5 k X)
     have y:(0<=(ms.getD k (0,false)).1/\(ms.getD k (0,false)).1<B.next.length/\(0<k->mlt (ms.getD (k - 1) (0,false)) (ms.getD k (0,false))))->∀ j,j<k+1->0<=(ms.getD j (0,false)).1/\(ms.getD j (0,false)).1<B.next.length/\(0<j->mlt (ms.getD (j - 1) (0,false)) (ms.getD j (0,false))):=λo j O=>by
      by_cases h:j<k
      ·exact A j h
      ·obtain rfl:j=k:=by omega
       exact o
     rcases Nat.eq_zero_or_pos k with M | M
     ·subst M;repeat' (first|refine dg (aj @K (aj @l (aj (@cU _ _ _ J.sl) @kG))) ?_|(first|apply ah|apply af)<;>intro d)
      all_goals first
       | (exfalso;omega)
       | (refine⟨.inr trivial,?_⟩;simp only[lk,dM,Nat.reduceEqDiff,if_false,if_true];exact cg (u λh=>by omega))
       | (refine⟨ms.length - (0+1),by omega,0+1,rfl,by omega,y ⟨by omega,by omega,λh=>absurd h (Nat.lt_irrefl _)⟩,?_⟩;simp only[lk,dM,Nat.reduceEqDiff,if_false,if_true,cD,g,p,I,e6,and_self])
     ·have Q:=Y k M om;have hkI':((k - 1:Nat):Int)<(ms.length:Int):=by omega
      have pe:=λs=>j9 (s:=s) X;have xE:=λs=>j9 (s:=s) (show k - 1<ms.length by omega);repeat' (first|refine dg (aj @K (aj @l (aj (@cU _ _ _ J.sl) (aj @kG (aj @Q (aj @pe @xE)))))) ?_|(first|apply ah|apply af)<;>intro d)
      all_goals first
       | (exfalso;omega)
       | (refine⟨.inr trivial,?_⟩;simp only[lk,dM,Nat.reduceEqDiff,if_false,if_true];exact cg (u λh=>by omega))
       | skip
      refine cO ff (Nj (ms.getD (k - 1) (0,false)) (ms.getD k (0,false))) (by first | exact wN | (apply wG;(simp only[lk,Nat.reduceEqDiff,reduceIte];(try rfl);done))) ef (λbb d=>⟨by first | trivial | (simp only[dG,aK,bq.run,Env.aB,Env.cp,u6,Nat.reduceEqDiff,Nat.reduceAdd,Nat.reduceLeDiff,reduceIte,bG,iI,List.map,cu,beq_self_eq_true,reduceCtorEq,false_or,true_and,and_true,Option.some.injEq, *];done),?_⟩);simp only[Env.aB];cases bb<;>simp only[decide_eq_true_eq,decide_eq_false_iff_not]at d
      ·repeat' (first|refine dg trivial ?_|(first|apply ah|apply af)<;>intro d)
       refine⟨.inr trivial,?_⟩;simp only[lk,dM,Nat.reduceEqDiff,if_false,if_true];exact cg (u λh=>d (h.2.2 M))
      ·repeat' (first|refine dg trivial ?_|(first|apply ah|apply af)<;>intro d)
       refine⟨ms.length - (k+1),by omega,k+1,rfl,by omega,y ⟨by omega,by omega,λ_=>d⟩,?_⟩;simp only[lk,dM,Nat.reduceEqDiff,if_false,if_true,cD,g,p,I,e6,and_self]
    ·repeat' (first|refine dg @K ?_|(first|apply ah|apply af)<;>intro d)
     ·refine⟨row.length - (a+1),by omega,a+1,rfl,by omega,λj O=>?_,?_⟩
      ·by_cases h:j<a
       ·exact z j h
       ·obtain rfl:j=a:=by omega
        rw[wq];exact λq hq=>A q om
      ·simp only[lk,Nat.reduceEqDiff,if_false,if_true,WK,g,p,and_self]
     ·exfalso;omega
   ·have hnL:¬ ((a:Int)<B.L):=by omega
    have C:ROK B.L B.next.length row:=⟨T.symm,λq hq=>z q om⟩;clear T;repeat' (first|refine dg trivial ?_|(first|apply ah|apply af)<;>intro d)
    ·refine⟨B.next.length - (i+1),by omega,i+1,rfl,by omega,λk f=>?_,?_⟩
     ·by_cases h:k<i
      ·exact ND k h
      ·obtain rfl:k=i:=by omega
       rw[S];exact C
     ·simp only[lk,Nat.reduceEqDiff,if_false,if_true,F,g,and_self]
    ·exfalso;omega
  ·repeat' (first|refine dg @l ?_|(first|apply ah|apply af)<;>intro d)
   ·refine⟨.inr trivial,?_⟩;simp only[lk,Nat.reduceEqDiff,if_false,if_true];exact gK ⟨h1,h2,h3,YZ,λk f=>ND k om⟩
   ·exfalso;omega
theorem OT {v:LV}{B:Bu}{k l:LV}(hB:vo v B k l):PE 5 [v] (λr=>∃ b,r = .bool b/\(b=true->B.next.length<=10/\B.L<=20/\B.start.length<=20)):=by
 have A:=hB.closed;obtain⟨rfl,hs,C⟩:=hB;obtain⟨vs,c⟩:=C;have n:=c.sl.len;have D:=hs.sl.len;have J:=hs.sl.cell;have K:=c.sl.cell;have M:=lG;refine HF (t:=2) hm Tryz.func5 br c5 bw (by simp[LV.closed.au,A]) rfl ?_;refine pg λe E=>?_;unfold l5;dsimp only[jA,jC,qL,qF,qS,qI,qA,qB,qC,qK,qO,qP,qU,qm,ql,qR];have N:∀ (b:Bool) (s:St),∃ r s',cY bp (.bool b) s=some (r,s')/\r.closed=true/\∃ u,r = .bool u/\(u=true->b=true):=λb s=>⟨.bool b,s,bk rfl,rfl,b,rfl,λh=>h⟩;repeat' (first|refine dg (aj @n @D) ?_|(first|apply ah|apply af)<;>intro d)
 all_goals first
  | (refine⟨.inr trivial, .bool false,_,by simp only[lk,Nat.reduceEqDiff,if_false,if_true];exact bk rfl,rfl,false,rfl,λh=>by cases h⟩)
  | skip
 have h1:B.L<=20:=by omega
 have h2:B.start.length<=20:=by omega
 have h3:B.next.length<=10:=by omega
 refine aN (λm e s=>∃ i:Nat,m=B.next.length - i/\i<=B.next.length/\e.at 1 = .aY [.int .i64 B.L,k,l] 0/\e.at 3 = .int .i64 (i:Int)) _
  ⟨0,rfl,by omega,ef,by simp only[lk,Nat.reduceEqDiff,if_false,if_true];rfl⟩ ?_
 clear d E;clear e;rintro m e s ⟨i,rfl,O,f,o⟩;have w:∀ j:Nat,(j:Int)<9223372036854775807->IntKind.i64.wrap ((j:Int)+1)=((j+1:Nat):Int):=λj P=>by rw[wrap_i64 _ om om];rfl
 by_cases x:i<B.next.length
 ·have Q:(i:Int)<(B.next.length:Int):=by omega
  have F:=w i om;have g1:vs[i]? = some (vs.getD i .top):=c.get x;obtain⟨p,g⟩:=c.row i x;have q:=g.sl.len;generalize B.next.getD i []=row at *;generalize vs.getD i .top=R at *;repeat' (first|refine dg (aj @n (aj (@cU _ _ _ c.sl) (aj @g1 @q))) ?_|(first|apply ah|apply af)<;>intro d)
  ·exfalso;omega
  rotate_left
  ·refine⟨.inr trivial, .bool false,_,by simp only[lk,Nat.reduceEqDiff,if_false,if_true];exact bk rfl,rfl,false,rfl,λh=>by cases h⟩
  refine aN (λm e s=>∃ a:Nat,m=row.length - a/\a<=row.length/\e.at 1 = .aY [.int .i64 B.L,k,l] 0/\e.at 3 = .int .i64 (i:Int)/\e.at 4 = .int .i64 (a:Int)) _
   ⟨0,rfl,by omega,ef,ef,by simp only[lk,Nat.reduceEqDiff,if_false,if_true];rfl⟩ ?_
  have y:row.length<=20:=by omega
  clear f o d;clear e;rintro m e s ⟨a,rfl,S,f,o,T⟩;by_cases z:a<row.length
  ·have G:(a:Int)<(row.length:Int):=by omega
   have H:=w a om;have g2:p[a]? = some (p.getD a .top):=g.get z;have I:=(g.row a z).sl.len;generalize row.getD a []=ms at *;generalize p.getD a .top=mv at *;repeat' (first|refine dg (aj (@cU _ _ _ c.sl) (aj @g1 (aj @q (aj (@cU _ _ _ g.sl) (aj @g2 @I))))) ?_|(first|apply ah|apply af)<;>intro d)
   ·exfalso;omega
   ·refine⟨row.length - (a+1),by omega,a+1,rfl,by omega,?_⟩;simp only[lk,Nat.reduceEqDiff,if_false,if_true,H,f,o,and_self]
   ·refine⟨.inr trivial, .bool false,_,by simp only[lk,Nat.reduceEqDiff,if_false,if_true];exact bk rfl,rfl,false,rfl,λh=>by cases h⟩
  ·repeat' (first|refine dg (aj (@cU _ _ _ c.sl) (aj @g1 @q)) ?_|(first|apply ah|apply af)<;>intro d)
   ·refine⟨B.next.length - (i+1),by omega,i+1,rfl,by omega,?_⟩;simp only[lk,Nat.reduceEqDiff,if_false,if_true,F,f,and_self]
   ·exfalso;omega
 ·repeat' (first|refine dg @n ?_|(first|apply ah|apply af)<;>intro d)
  ·refine⟨.inr trivial, .bool true,_,by simp only[lk,Nat.reduceEqDiff,if_false,if_true];exact bk rfl,rfl,true,rfl,λ_=>⟨h3,h1,h2⟩⟩
  ·exfalso;omega
end Go.Proofs.YtkbiecjdcjfhaaaGreat
end
