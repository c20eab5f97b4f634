/- The document's Valid of automata. -/
import Derived.Test.YtkbiecjdcjfhaaaValid
import Derived.Test.YtkbiecjdcjfhaaaLitw
set_option linter.unusedSimpArgs false
set_option linter.unusedVariables false
set_option maxRecDepth 100000
set_option maxHeartbeats 16000000
section
namespace Go.Proofs.Ytkbiecjdcjfhaaa
open Go Go.Pv
open Classical
theorem LF (a b:Int × Bool):PO 29 [.agg [.int .i64 a.1, .bool a.2], .agg [.int .i64 b.1, .bool b.2]] (.bool (decide (mlt a b))):=by
 obtain⟨x,p⟩:=a;obtain⟨y,q⟩:=b;refine lK (t:=4) hm Try.func29 (by decide +kernel) c29 (Nat.le_of_ble_eq_true rfl) rfl rfl rfl ?_;refine pF λe g i=>?_;unfold l29;dsimp only[jA,jC,jD,qM,qL,qF,qB,qK,qO,qP,qm,ql];have c:mlt (x,p) (y,q)↔(x<y∨x=y/\p=false/\q=true):=Iff.rfl;cases p<;>cases q;all_goals
  repeat' (first | refine gA trivial ?_ | (refine gB trivial ?_;intro d f;cases d<;>(try simp only[aG]at f)) | fail)
  all_goals
   refine⟨.inr trivial,?_⟩;try simp only[lk,dJ,Nat.reduceEqDiff,if_false,if_true]
   first
    | exact b8 (λh=>by have:=c.1 h;simp at this;try omega)
    | exact hY (c.2 (by simp;try omega))
    | exact hY (c.2 (by simp))
theorem F5 {v:LV}{B:Bu}{A C:LV}(hB:zW v B A C):PO 12 [v] (.bool (decide (Vb B))):=by
 have cx:=hB.closed;obtain⟨rfl,hs,hn⟩:=hB;obtain⟨vs,o⟩:=hn;have g:=o.sl.len;have p:=hs.sl.len;have mZ:=hs.sl.cell;have uD:=o.sl.cell;have tN:maxLen=9223372036854775807:=by decide
 refine lK (t:=2) hm Try.func12 (by decide +kernel) c12 (Nat.le_of_ble_eq_true rfl) (by simp[LV.closed.aq,cx]) rfl rfl ?_;refine sJ λe e0=>?_;unfold l12;dsimp only[jA,jB,jC,jE,jF,qM,qL,qN,qF,qS,qI,qA,qB,qC,qK,qO,qP,qm,ql];repeat' (first | refine gA (And.intro @g @p) ?_ | (refine gB (And.intro @g @p) ?_;intro f d;cases f<;>(try simp only[aG]at d)) | fail)
 all_goals first
  | (refine⟨.inr trivial,?_⟩;simp only[lk,Nat.reduceEqDiff,if_false,if_true];exact b8 λh=>by obtain⟨a,b,c,_⟩:=h;omega)
  | skip
 refine aS (λm e s=>∃ i:Nat,m=B.start.length - i/\i<=B.start.length/\(∀ k,k<i->0<=B.start.getD k 0/\B.start.getD k 0<B.next.length/\(0<k->B.start.getD (k - 1) 0<B.start.getD k 0))/\e.at 1 = .aX [.int .i64 B.L,A,C] 0/\e.at 3 = .int .i64 (i:Int)) _
  ⟨0,rfl,by omega,λk l=>absurd l (Nat.not_lt_zero _),ef,by simp only[lk,Nat.reduceEqDiff,if_false,if_true];rfl⟩ ?_
 have h1:1<=B.L:=by omega
 have h2:B.L<=64:=by omega
 have h3:B.next.length<=3000:=by omega
 clear d e0;rintro m e s ⟨i,rfl,hi,Q,n,e3⟩;have J:∀ j:Nat,(j:Int)<9223372036854775807->IntKind.i64.wrap ((j:Int)+1)=((j+1:Nat):Int):=λj R=>by rw[wrap_i64 _ om om];rfl
 have SK:∀ j:Nat,0<j->(j:Int)<9223372036854775807->IntKind.i64.wrap ((j:Int) - 1)=((j - 1:Nat):Int):=λj h R=>by rw[wrap_i64 _ om om];omega
 have T:=hs.len;by_cases u:i<B.start.length
 · -- a start
  have tP:(i:Int)<(B.start.length:Int):=by omega
  have hiI':((i - 1:Nat):Int)<(B.start.length:Int):=by omega
  have K:=J i om;have y:¬ (0<=B.start.getD i 0/\B.start.getD i 0<B.next.length/\(0<i->B.start.getD (i - 1) 0<B.start.getD i 0))->¬ Vb B:=λw h=>w (h.2.2.2.1 i u);have D:(0<=B.start.getD i 0/\B.start.getD i 0<B.next.length/\(0<i->B.start.getD (i - 1) 0<B.start.getD i 0))->∀ k,k<i+1->0<=B.start.getD k 0/\B.start.getD k 0<B.next.length/\(0<k->B.start.getD (k - 1) 0<B.start.getD k 0):=λw k l=>by
   by_cases h:k<i
   ·exact Q k h
   ·obtain rfl:k=i:=by omega
    exact w
  rcases Nat.eq_zero_or_pos i with M | M
  ·subst M;repeat' (first | refine gA (And.intro @p (And.intro @g (And.intro (@cw _ _ _ hs.sl) @bu))) ?_ | (refine gB (And.intro @p (And.intro @g (And.intro (@cw _ _ _ hs.sl) @bu))) ?_;intro f d;cases f<;>(try simp only[aG]at d)) | fail)
   all_goals first
    | (exfalso;omega)
    | (refine⟨.inr trivial,?_⟩;simp only[lk,Nat.reduceEqDiff,if_false,if_true];exact b8 (y λh=>by omega))
    | (refine⟨B.start.length - (0+1),by omega,0+1,rfl,by omega,D ⟨by omega,by omega,λh=>absurd h (Nat.lt_irrefl _)⟩,?_⟩;simp only[lk,dJ,Nat.reduceEqDiff,if_false,if_true,K,n,and_self])
  ·have E:=SK i M om;repeat' (first | refine gA (And.intro @p (And.intro @g (And.intro (@cw _ _ _ hs.sl) (And.intro @bu @E)))) ?_ | (refine gB (And.intro @p (And.intro @g (And.intro (@cw _ _ _ hs.sl) (And.intro @bu @E)))) ?_;intro f d;cases f<;>(try simp only[aG]at d)) | fail)
   all_goals first
    | (exfalso;omega)
    | (refine⟨.inr trivial,?_⟩;simp only[lk,Nat.reduceEqDiff,if_false,if_true];exact b8 (y λh=>by have:=h.2.2 M;omega))
    | (refine⟨B.start.length - (i+1),by omega,i+1,rfl,by omega,D ⟨by omega,by omega,λ_=>by omega⟩,?_⟩;simp only[lk,Nat.reduceEqDiff,if_false,if_true,K,n,and_self])
 · -- the VQ
  have El:SOK B.next.length B.start:=λk l=>Q k om;repeat' (first | refine gA @p ?_ | (refine gB @p ?_;intro f d;cases f<;>(try simp only[aG]at d)) | fail)
  rotate_left
  ·exfalso;omega
  refine aS (λm e s=>∃ i:Nat,m=B.next.length - i/\i<=B.next.length/\(∀ k,k<i->ROK B.L B.next.length (B.next.getD k []))/\e.at 1 = .aX [.int .i64 B.L,A,C] 0/\e.at 4 = .int .i64 (i:Int)) _
   ⟨0,rfl,by omega,λk l=>absurd l (Nat.not_lt_zero _),ef,by simp only[lk,Nat.reduceEqDiff,if_false,if_true];rfl⟩ ?_
  clear Q u d n e3;clear e;rintro m e s ⟨i,rfl,hi,L2,n,x⟩;by_cases u:i<B.next.length
  ·have tP : (i : Int) < (B.next.length : Int) := by omega
   have K:=J i om;have g1:vs[i]? = some (vs.getD i .top):=o.get u;obtain⟨U,F⟩:=o.row i u;have fN:=F.sl.len;repeat' (first | refine gA (And.intro @g (And.intro (@cw _ _ _ o.sl) (And.intro @g1 @fN))) ?_ | (refine gB (And.intro @g (And.intro (@cw _ _ _ o.sl) (And.intro @g1 @fN))) ?_;intro f d;cases f<;>(try simp only[aG]at d)) | fail)
   ·exfalso;omega
   rotate_left
   ·refine⟨.inr trivial,?_⟩;simp only[lk,Nat.reduceEqDiff,if_false,if_true];exact b8 λh=>by
     have:=(h.2.2.2.2 i u).1;omega
   generalize V:B.next.getD i []=row at *;generalize mY:vs.getD i .top=rv at *;have X:B.L=(row.length:Int):=by omega
   refine aS (λm e s=>∃ a:Nat,m=row.length - a/\a<=row.length/\(∀ k,k<a->Zm B.next.length (row.getD k []))/\e.at 1 = .aX [.int .i64 B.L,A,C] 0/\e.at 4 = .int .i64 (i:Int)/\e.at 5 = .int .i64 (a:Int)) _
    ⟨0,rfl,by omega,λk l=>absurd l (Nat.not_lt_zero _),ef,ef,by simp only[lk,Nat.reduceEqDiff,if_false,if_true];rfl⟩ ?_
   clear n x d;clear e;rintro m e s ⟨a,rfl,ha,G,n,x,N⟩;by_cases Y:a<row.length
   ·have haI : (a : Int) < (row.length : Int) := by omega
    have haL:(a:Int)<B.L:=by omega
    have US:=J a om;have g2:U[a]? = some (U.getD a .top):=F.get Y;have z:=F.row a Y;generalize rM:row.getD a []=ms at *;generalize zJ:U.getD a .top=mv at *;have r:=z.sl.len;have OH:=z.len;clear X;repeat' (first | refine gA (And.intro (@cw _ _ _ o.sl) (And.intro @g1 (And.intro (@cw _ _ _ F.sl) (And.intro @g2 @r)))) ?_ | (refine gB (And.intro (@cw _ _ _ o.sl) (And.intro @g1 (And.intro (@cw _ _ _ F.sl) (And.intro @g2 @r)))) ?_;intro f d;cases f<;>(try simp only[aG]at d)) | fail)
    ·exfalso;omega
    refine aS (λm e s=>∃ k:Nat,m=ms.length - k/\k<=ms.length/\(∀ j,j<k->0<=(ms.getD j (0,false)).1/\(ms.getD j (0,false)).1<B.next.length/\(0<j->mlt (ms.getD (j - 1) (0,false)) (ms.getD j (0,false))))/\e.at 1 = .aX [.int .i64 B.L,A,C] 0/\e.at 4 = .int .i64 (i:Int)/\e.at 5 = .int .i64 (a:Int)/\e.at 6=mv/\e.at 7 = .int .i64 (k:Int)) _
     ⟨0,rfl,by omega,λk l=>absurd l (Nat.not_lt_zero _),ef,ef,ef,ef,by simp only[lk,Nat.reduceEqDiff,if_false,if_true];rfl⟩ ?_
    clear n x N d;clear e;rintro m e s ⟨k,rfl,l,H,n,x,N,e6,e7⟩;by_cases Z:k<ms.length
    ·have uB:(k:Int)<(ms.length:Int):=by omega
     have fJ:=J k om;have O:(cT ms)[k*2]? = some (.int .i64 (ms.getD k (0,false)).1):=pT Z;have y:¬ (0<=(ms.getD k (0,false)).1/\(ms.getD k (0,false)).1<B.next.length/\(0<k->mlt (ms.getD (k - 1) (0,false)) (ms.getD k (0,false))))->¬ Vb B:=λw h=>by
      have h5:=(h.2.2.2.2 i u).2 a (by rw[V];exact Y);rw[V,rM]at h5;exact w (h5 k Z)
     have D:(0<=(ms.getD k (0,false)).1/\(ms.getD k (0,false)).1<B.next.length/\(0<k->mlt (ms.getD (k - 1) (0,false)) (ms.getD k (0,false))))->∀ j,j<k+1->0<=(ms.getD j (0,false)).1/\(ms.getD j (0,false)).1<B.next.length/\(0<j->mlt (ms.getD (j - 1) (0,false)) (ms.getD j (0,false))):=λw j R=>by
      by_cases h:j<k
      ·exact H j h
      ·obtain rfl:j=k:=by omega
       exact w
     rcases Nat.eq_zero_or_pos k with P | P
     ·subst P;repeat' (first | refine gA (And.intro @r (And.intro @g (And.intro (@cw _ _ _ z.sl) @O))) ?_ | (refine gB (And.intro @r (And.intro @g (And.intro (@cw _ _ _ z.sl) @O))) ?_;intro f d;cases f<;>(try simp only[aG]at d)) | fail)
      all_goals first
       | (exfalso;omega)
       | (refine⟨.inr trivial,?_⟩;simp only[lk,dJ,Nat.reduceEqDiff,if_false,if_true];exact b8 (y λh=>by omega))
       | (refine⟨ms.length - (0+1),by omega,0+1,rfl,by omega,D ⟨by omega,by omega,λh=>absurd h (Nat.lt_irrefl _)⟩,?_⟩;simp only[lk,dJ,Nat.reduceEqDiff,if_false,if_true,fJ,n,x,N,e6,and_self])
     ·have E:=SK k P om;have hkI':((k - 1:Nat):Int)<(ms.length:Int):=by omega
      have o8:=λs=>eW (s:=s) Z;have KW:=λs=>eW (s:=s) (show k - 1<ms.length by omega);repeat' (first | refine gA (And.intro @r (And.intro @g (And.intro (@cw _ _ _ z.sl) (And.intro @O (And.intro @E (And.intro @o8 @KW)))))) ?_ | (refine gB (And.intro @r (And.intro @g (And.intro (@cw _ _ _ z.sl) (And.intro @O (And.intro @E (And.intro @o8 @KW)))))) ?_;intro f d;cases f<;>(try simp only[aG]at d)) | fail)
      all_goals first
       | (exfalso;omega)
       | (refine⟨.inr trivial,?_⟩;simp only[lk,dJ,Nat.reduceEqDiff,if_false,if_true];exact b8 (y λh=>by omega))
       | skip
      refine dN ez (LF (ms.getD (k - 1) (0,false)) (ms.getD k (0,false))) (by first | exact wN | (apply wG;(simp only[lk,Nat.reduceEqDiff,reduceIte];(try rfl);done))) (by simp only[List.map,lk,Nat.reduceEqDiff,reduceIte];try rfl) (λf d=>⟨by first | trivial | (simp only[cH,aE,aR.run,Env.au,Env.bI,svq,Nat.reduceEqDiff,Nat.reduceAdd,Nat.reduceLeDiff,reduceIte,aT,eH,List.map,bC,beq_self_eq_true,reduceCtorEq,false_or,true_and,and_true,Option.some.injEq, *];done),?_⟩);simp only[Env.au];cases f<;>simp only[decide_eq_true_eq,decide_eq_false_iff_not]at d
      ·repeat' (first | refine gA trivial ?_ | (refine gB trivial ?_;rintro (_|_) d<;>try simp only[aG,reduceCtorEq]at d) | fail)
       refine⟨.inr trivial,?_⟩;simp only[lk,dJ,Nat.reduceEqDiff,if_false,if_true];exact b8 (y λh=>d (h.2.2 P))
      ·repeat' (first | refine gA trivial ?_ | (refine gB trivial ?_;rintro (_|_) d<;>try simp only[aG,reduceCtorEq]at d) | fail)
       refine⟨ms.length - (k+1),by omega,k+1,rfl,by omega,D ⟨by omega,by omega,λ_=>d⟩,?_⟩;simp only[lk,dJ,Nat.reduceEqDiff,if_false,if_true,fJ,n,x,N,e6,and_self]
    ·repeat' (first | refine gA @r ?_ | (refine gB @r ?_;intro f d;cases f<;>(try simp only[aG]at d)) | fail)
     ·refine⟨row.length - (a+1),by omega,a+1,rfl,by omega,λj R=>?_,?_⟩
      ·by_cases h:j<a
       ·exact G j h
       ·obtain rfl:j=a:=by omega
        rw[rM];exact λq hq=>H q om
      ·simp only[lk,Nat.reduceEqDiff,if_false,if_true,US,n,x,and_self]
     ·exfalso;omega
   ·have hnL:¬ ((a:Int)<B.L):=by omega
    have I:ROK B.L B.next.length row:=⟨X.symm,λq hq=>G q om⟩;clear X;repeat' (first | refine gA trivial ?_ | (refine gB trivial ?_;intro f d;cases f<;>(try simp only[aG]at d)) | fail)
    ·refine⟨B.next.length - (i+1),by omega,i+1,rfl,by omega,λk l=>?_,?_⟩
     ·by_cases h:k<i
      ·exact L2 k h
      ·obtain rfl:k=i:=by omega
       rw[V];exact I
     ·simp only[lk,Nat.reduceEqDiff,if_false,if_true,K,n,and_self]
    ·exfalso;omega
  ·repeat' (first | refine gA @g ?_ | (refine gB @g ?_;intro f d;cases f<;>(try simp only[aG]at d)) | fail)
   ·refine⟨.inr trivial,?_⟩;simp only[lk,Nat.reduceEqDiff,if_false,if_true];exact hY ⟨h1,h2,h3,El,λk l=>L2 k om⟩
   ·exfalso;omega
theorem M7 {v:LV}{B:Bu}{o p:LV}(hB:zW v B o p):PE 11 [v] (λr=>∃ b,r = .bool b/\(b=true->B.next.length<=10/\B.L<=20/\B.start.length<=20)):=by
 have E:=hB.closed;obtain⟨rfl,hs,F⟩:=hB;obtain⟨vs,d⟩:=F;have g:=d.sl.len;have w:=hs.sl.len;have K:=hs.sl.cell;have M:=d.sl.cell;have N:maxLen=9223372036854775807:=by decide
 refine n9 (t:=2) hm Try.func11 (by decide +kernel) c11 (Nat.le_of_ble_eq_true rfl) (by simp[LV.closed.aq,E]) rfl ?_;refine sJ λe G=>?_;unfold l11;dsimp only[jA,jC,qL,qF,qS,qI,qA,qB,qC,qK,qO,qP,qm,ql];have O:∀ (b:Bool) (s:St),∃ r s',cK aY (.bool b) s=some (r,s')/\r.closed=true/\∃ x,r = .bool x/\(x=true->b=true):=λb s=>⟨.bool b,s,bf rfl,rfl,b,rfl,λh=>h⟩;repeat' (first | refine gA (And.intro @g @w) ?_ | (refine gB (And.intro @g @w) ?_;intro f c;cases f<;>(try simp only[aG]at c)) | fail)
 all_goals first
  | (refine⟨.inr trivial, .bool false,_,by simp only[lk,Nat.reduceEqDiff,if_false,if_true];exact bf rfl,rfl,false,rfl,λh=>by cases h⟩)
  | skip
 have h1:B.L<=20:=by omega
 have h2:B.start.length<=20:=by omega
 have h3:B.next.length<=10:=by omega
 refine aS (λm e s=>∃ i:Nat,m=B.next.length - i/\i<=B.next.length/\e.at 1 = .aX [.int .i64 B.L,o,p] 0/\e.at 3 = .int .i64 (i:Int)) _
  ⟨0,rfl,by omega,ef,by simp only[lk,Nat.reduceEqDiff,if_false,if_true];rfl⟩ ?_
 clear c G;clear e;rintro m e s ⟨i,rfl,P,n,q⟩;have y:∀ j:Nat,(j:Int)<9223372036854775807->IntKind.i64.wrap ((j:Int)+1)=((j+1:Nat):Int):=λj Q=>by rw[wrap_i64 _ om om];rfl
 by_cases z:i<B.next.length
 ·have R:(i:Int)<(B.next.length:Int):=by omega
  have H:=y i om;have g1:vs[i]? = some (vs.getD i .top):=d.get z;obtain⟨u,l⟩:=d.row i z;have k:=l.sl.len;generalize B.next.getD i []=row at *;generalize vs.getD i .top=T at *;repeat' (first | refine gA (And.intro @g (And.intro (@cw _ _ _ d.sl) (And.intro @g1 @k))) ?_ | (refine gB (And.intro @g (And.intro (@cw _ _ _ d.sl) (And.intro @g1 @k))) ?_;intro f c;cases f<;>(try simp only[aG]at c)) | fail)
  ·exfalso;omega
  rotate_left
  ·refine⟨.inr trivial, .bool false,_,by simp only[lk,Nat.reduceEqDiff,if_false,if_true];exact bf rfl,rfl,false,rfl,λh=>by cases h⟩
  refine aS (λm e s=>∃ a:Nat,m=row.length - a/\a<=row.length/\e.at 1 = .aX [.int .i64 B.L,o,p] 0/\e.at 3 = .int .i64 (i:Int)/\e.at 4 = .int .i64 (a:Int)) _
   ⟨0,rfl,by omega,ef,ef,by simp only[lk,Nat.reduceEqDiff,if_false,if_true];rfl⟩ ?_
  have A:row.length<=20:=by omega
  clear n q c;clear e;rintro m e s ⟨a,rfl,U,n,q,V⟩;by_cases C:a<row.length
  ·have I:(a:Int)<(row.length:Int):=by omega
   have J:=y a om;have g2:u[a]? = some (u.getD a .top):=l.get C;have D:=(l.row a C).sl.len;generalize row.getD a []=ms at *;generalize u.getD a .top=mv at *;repeat' (first | refine gA (And.intro (@cw _ _ _ d.sl) (And.intro @g1 (And.intro @k (And.intro (@cw _ _ _ l.sl) (And.intro @g2 @D))))) ?_ | (refine gB (And.intro (@cw _ _ _ d.sl) (And.intro @g1 (And.intro @k (And.intro (@cw _ _ _ l.sl) (And.intro @g2 @D))))) ?_;intro f c;cases f<;>(try simp only[aG]at c)) | fail)
   ·exfalso;omega
   ·refine⟨row.length - (a+1),by omega,a+1,rfl,by omega,?_⟩;simp only[lk,Nat.reduceEqDiff,if_false,if_true,J,n,q,and_self]
   ·refine⟨.inr trivial, .bool false,_,by simp only[lk,Nat.reduceEqDiff,if_false,if_true];exact bf rfl,rfl,false,rfl,λh=>by cases h⟩
  ·repeat' (first | refine gA (And.intro (@cw _ _ _ d.sl) (And.intro @g1 @k)) ?_ | (refine gB (And.intro (@cw _ _ _ d.sl) (And.intro @g1 @k)) ?_;intro f c;cases f<;>(try simp only[aG]at c)) | fail)
   ·refine⟨B.next.length - (i+1),by omega,i+1,rfl,by omega,?_⟩;simp only[lk,Nat.reduceEqDiff,if_false,if_true,H,n,and_self]
   ·exfalso;omega
 ·repeat' (first | refine gA @g ?_ | (refine gB @g ?_;intro f c;cases f<;>(try simp only[aG]at c)) | fail)
  ·refine⟨.inr trivial, .bool true,_,by simp only[lk,Nat.reduceEqDiff,if_false,if_true];exact bf rfl,rfl,true,rfl,λ_=>⟨h3,h1,h2⟩⟩
  ·exfalso;omega
end Go.Proofs.Ytkbiecjdcjfhaaa
end
