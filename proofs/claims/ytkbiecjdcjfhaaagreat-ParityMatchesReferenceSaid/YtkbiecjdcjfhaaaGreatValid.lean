/- buchi.Valid. -/
import Derived.Test.YtkbiecjdcjfhaaaGreatBase
set_option linter.unusedSimpArgs false
set_option linter.unusedVariables false
set_option maxRecDepth 100000
set_option maxHeartbeats 16000000
namespace Go.Proofs.YtkbiecjdcjfhaaaGreat
open Go Go.Pv
open Classical
structure Bu where
  L:Int
  start:List Int
  next:List (List rE)
def vo (v:LV) (B:Bu) (a b:LV):Prop:=v = .agg [.int .i64 B.L,a,b]/\aP a B.start/\z6 b B.next
theorem vo.closed {v:LV}{B:Bu}{a b:LV}(h:vo v B a b):v.closed=true:=by
 obtain⟨rfl,h1,h2⟩:=h;simp[LV.closed,LV.closed.au,h1.closed,h2.closed]
def mlt (a b:Int × Bool):Prop:=a.1<b.1∨a.1=b.1/\a.2=false/\b.2=true
def Uk (a b:Int × Bool):Int:=if a.1<b.1 then -1 else if b.1<a.1 then 1 else if a.2=b.2 then 0 else if b.2=true then -1 else 1
theorem Uj (a b:Int × Bool):Uk a b<0↔mlt a b:=by
 unfold Uk mlt;obtain⟨x,p⟩:=a;obtain⟨y,q⟩:=b;simp only;split
 ·simp;omega
 ·split
  ·simp;omega
  ·cases p<;>cases q<;>simp<;>omega
def MOK (n:Nat) (ms:rE):Prop:=∀ k,k<ms.length->0<=(ms.getD k (0,false)).1/\(ms.getD k (0,false)).1<n/\(0<k->mlt (ms.getD (k - 1) (0,false)) (ms.getD k (0,false)))
def SOK (n:Nat) (st:List Int):Prop:=∀ k,k<st.length->0<=st.getD k 0/\st.getD k 0<n/\(0<k->st.getD (k - 1) 0<st.getD k 0)
def ROK (L:Int) (n:Nat) (row:List rE):Prop:=(row.length:Int)=L/\∀ a,a<row.length->MOK n (row.getD a [])
def Vb (B:Bu):Prop:=1<=B.L/\B.L<=64/\B.next.length<=3000/\SOK B.next.length B.start/\∀ i,i<B.next.length->ROK B.L B.next.length (B.next.getD i [])
theorem j9 {ms:rE}{k:Nat}(h:k<ms.length) {s:St} : cz (some 2) (.aY (dh ms) (k*2)) s=some (.agg [.int .i64 (ms.getD k (0,false)).1, .bool (ms.getD k (0,false)).2]):=by
 have h1:=EW h;have h2:k*2+2<=(dh ms).length:=by rw[m0];omega
 simp only[cz,bG];rw[if_pos h2,h1]
theorem Fa (x:Int):PO 87 [.int .i64 x] (.bool false):=by
 refine gO (t:=2) hm Tryz.func87 br c87 bw rfl rfl rfl ?_;refine pg λe b=>?_;unfold l87;dsimp only[jA,qK,qm,qR];repeat' (first|refine dg trivial ?_|(first|apply ah|apply af)<;>intro a)
 ·exact⟨.inr trivial,ef⟩
 ·exact absurd rfl a
theorem VO (a b:Int):PO 67 [.int .i64 a, .int .i64 b] (.int .i64 (if a<b then -1 else if b<a then 1 else 0)):=by
 refine gO (t:=4) hm Tryz.func67 br c67 bw rfl rfl rfl ?_;refine mH λe d f=>?_;unfold l67;dsimp only[jA,qB,qC,qG,qm,qR];repeat' (first|refine aV trivial ?_|(first|apply ah|apply af)<;>intro c)
 refine dx (Fa a) ?_;repeat' (first|refine aV trivial ?_|(first|apply ah|apply af)<;>intro c)
 refine dx (Fa b) ?_;repeat' (first|refine aV trivial ?_|(first|apply ah|apply af)<;>intro c)
 all_goals
  refine⟨.inr trivial,?_⟩;simp only[lk,Nat.reduceEqDiff,if_false,if_true];repeat' split
  all_goals first | rfl | (exfalso;omega)
theorem IW (a b:Int × Bool):PO 41 [.agg [.int .i64 a.1, .bool a.2], .agg [.int .i64 b.1, .bool b.2]] (.int .i64 (Uk a b)):=by
 obtain⟨x,p⟩:=a;obtain⟨y,q⟩:=b;refine gO (t:=4) hm Tryz.func41 br c41 bw rfl rfl rfl ?_;refine mH λe g h=>?_;unfold l41;dsimp only[jA,jC,qL,qF,qC,qO,qP,qm,ql,qR];repeat' (first|refine aV trivial ?_|(first|apply ah|apply af)<;>intro f)
 refine dx (VO x y) ?_;generalize d:(if x<y then (-1:Int) else if y<x then 1 else 0)=c;cases p<;>cases q;all_goals
  repeat' (first|refine aV trivial ?_|(first|apply ah|apply af)<;>intro f)
  all_goals
   refine⟨.inr trivial,?_⟩;simp only[lk,dM,Nat.reduceEqDiff,if_false,if_true,Uk];revert d;repeat' split
   all_goals first | (intro d;subst d;rfl) | (intro d;exfalso;omega) | (intro d;simp_all;done)
theorem Ov {B:Bu}{a b:LV}(hs:aP a B.start) (c:z6 b B.next) (x:Int):fu Tryz.prog GL (.fn (.func 40) [] [.aY [.int .i64 B.L,a,b] 0]) [.int .i64 x] (.bool (decide (0<=x/\x<(B.next.length:Int)))):=by
 obtain⟨vs,d⟩:=id c;have hl:=d.sl.len;refine q_fnC (t:=3) Tryz.func40 br c40 bw rfl (by simp[LV.closed,LV.closed.au,hs.closed,c.closed]) rfl rfl ?_;have f:(fm ([LV.int .i64 x]++[.aY [.int .i64 B.L,a,b] 0])).at 0 = .int .i64 x:=by rw[bS];rfl
 have g:(fm ([LV.int .i64 x]++[.aY [.int .i64 B.L,a,b] 0])).at 1 = .aY [.int .i64 B.L,a,b] 0:=by rw[bS];rfl
 generalize fm ([LV.int .i64 x]++[.aY [.int .i64 B.L,a,b] 0])=e at *;unfold l40;dsimp only[jA,jD,qM,qL,qF,qS,qB,qK,qV,qm,qR];repeat' (first|refine aV @hl ?_|(first|apply ah|apply af)<;>intro h)
 all_goals (refine⟨.inr trivial,?_⟩;simp only[lk,Nat.reduceEqDiff,if_false,if_true];first | exact gK om | exact cg om)
theorem oa {v:LV}{B:Bu}{o f:LV}(hB:vo v B o f):PO 18 [v] (.bool (decide (Vb B))):=by
 have bV:=hB.closed;obtain⟨rfl,hs,hn⟩:=hB;have gV:=λx=>Ov (B:=B) hs hn x;obtain⟨vs,G⟩:=hn;have fH:=G.sl.len;have iK:=hs.sl.len;have q5:=hs.sl.cell;have wB:=G.sl.cell;have je:=lG;refine gO (t:=2) hm Tryz.func18 br c18 bw (by simp[LV.closed.au,bV]) rfl rfl ?_;refine pg λe e0=>?_;unfold l18;dsimp only[jA,jB,jC,jD,jE,jF,jG,qM,qL,qN,qF,qS,qI,qA,qB,qC,qK,qO,qP,qV,qU,qW,qT,qm,ql,qR];repeat' (first|refine aV (aj @fH @iK) ?_|(first|apply ah|apply af)<;>intro d)
 all_goals first
  | (refine⟨.inr trivial,?_⟩;simp only[lk,Nat.reduceEqDiff,if_false,if_true];exact cg λh=>by obtain⟨a,b,c,_⟩:=h;omega)
  | skip
 refine aN (λm e s=>∃ i:Nat,m=B.start.length - i/\i<=B.start.length/\(∀ k,k<i->0<=B.start.getD k 0/\B.start.getD k 0<B.next.length/\(0<k->B.start.getD (k - 1) 0<B.start.getD k 0))/\e.at 1 = .aY [.int .i64 B.L,o,f] 0/\e.at 3 = .fn (.func 40) [] [.aY [.int .i64 B.L,o,f] 0]/\e.at 28=o/\e.at 29 = .int .i64 (B.start.length:Int)/\e.at 30 = .int .i64 (i:Int)) _
  ⟨0,rfl,by omega,λk p=>absurd p (Nat.not_lt_zero _),ef,ef,ef,ef,by simp only[lk,Nat.reduceEqDiff,if_false,if_true,List.map];rfl⟩ ?_
 have h1:1<=B.L:=by omega
 have h2:B.L<=64:=by omega
 have h3:B.next.length<=3000:=by omega
 clear d e0;rintro m e s ⟨i,rfl,hi,V,u,w,D,E,X⟩;have O:∀ j:Nat,(j:Int)<9223372036854775807->IntKind.i64.wrap ((j:Int)+1)=((j+1:Nat):Int):=λj P=>by rw[wrap_i64 _ om om];rfl
 have Qt:∀ j:Nat,0<j->(j:Int)<9223372036854775807->IntKind.i64.wrap ((j:Int) - 1)=((j - 1:Nat):Int):=λj h P=>by rw[wrap_i64 _ om om];omega
 have Y:=hs.len;by_cases A:i<B.start.length
 · -- 
  have iQ:(i:Int)<(B.start.length:Int):=by omega
  have hiI':((i - 1:Nat):Int)<(B.start.length:Int):=by omega
  have Z:=O i om;repeat' (first|refine dg (aj (@cU _ _ _ hs.sl) @bB) ?_|(first|apply ah|apply af)<;>intro d)
  ·exfalso;omega
  refine EE ff (gV (B.start.getD i 0)) wN ef ef (λbb r=>?_);cases bb<;>simp only[decide_eq_true_eq,decide_eq_false_iff_not]at r
  ·repeat' (first|refine dg trivial ?_|(first|apply ah|apply af)<;>intro d)
   refine⟨.inr trivial,?_⟩;simp only[lk,dM,Nat.reduceEqDiff,if_false,if_true];exact cg λh=>r ⟨(h.2.2.2.1 i A).1,(h.2.2.2.1 i A).2.1⟩
  ·rcases Nat.eq_zero_or_pos i with Q | Q
   ·subst Q;repeat' (first|refine dg trivial ?_|(first|apply ah|apply af)<;>intro d)
    ·refine⟨B.start.length - (0+1),by omega,0+1,rfl,by omega,λk p=>?_,?_⟩
     ·obtain rfl:k=0:=by omega
      exact⟨r.1,r.2,λh=>absurd h (Nat.lt_irrefl _)⟩
     ·simp only[lk,dM,Nat.reduceEqDiff,if_false,if_true,Z,u,w,D,E,and_self]
    all_goals (exfalso;omega)
   ·have nQ:=Qt i Q om;repeat' (first|refine dg (aj (@cU _ _ _ hs.sl) (aj @bB @nQ)) ?_|(first|apply ah|apply af)<;>intro d)
    ·exfalso;omega
    ·refine⟨B.start.length - (i+1),by omega,i+1,rfl,by omega,λk p=>?_,?_⟩
     ·by_cases h:k<i
      ·exact V k h
      ·obtain rfl:k=i:=by omega
       exact⟨r.1,r.2,λ_=>by omega⟩
     ·simp only[lk,dM,Nat.reduceEqDiff,if_false,if_true,Z,u,w,D,E,and_self]
    ·refine⟨.inr trivial,?_⟩;simp only[lk,dM,Nat.reduceEqDiff,if_false,if_true];exact cg λh=>by
      have:=(h.2.2.2.1 i A).2.2 Q;omega
 · -- 
  have YZ:SOK B.next.length B.start:=λk p=>V k om;repeat' (first|refine dg @fH ?_|(first|apply ah|apply af)<;>intro d)
  rotate_left
  ·exfalso;omega
  refine aN (λm e s=>∃ i:Nat,m=B.next.length - i/\i<=B.next.length/\(∀ k,k<i->ROK B.L B.next.length (B.next.getD k []))/\e.at 1 = .aY [.int .i64 B.L,o,f] 0/\e.at 3 = .fn (.func 40) [] [.aY [.int .i64 B.L,o,f] 0]/\e.at 55=f/\e.at 56 = .int .i64 (B.next.length:Int)/\e.at 57 = .int .i64 (i:Int)) _
   ⟨0,rfl,by omega,λk p=>absurd p (Nat.not_lt_zero _),ef,ef,ef,ef,by simp only[lk,Nat.reduceEqDiff,if_false,if_true];rfl⟩ ?_
  clear V A d u w D E X;rintro m e s ⟨i,rfl,hi,ND,u,w,g,l,n⟩;by_cases A:i<B.next.length
  ·have iQ : (i : Int) < (B.next.length : Int) := by omega
   have Z:=O i om;have g1:vs[i]? = some (vs.getD i .top):=G.get A;obtain⟨ws,R⟩:=G.row i A;have fX:=R.sl.len;repeat' (first|refine dg (aj (@cU _ _ _ G.sl) (aj @g1 @fX)) ?_|(first|apply ah|apply af)<;>intro d)
   ·exfalso;omega
   rotate_left
   ·refine⟨.inr trivial,?_⟩;simp only[lk,Nat.reduceEqDiff,if_false,if_true];exact cg λh=>by
     have:=(h.2.2.2.2 i A).1;omega
   generalize ct:B.next.getD i []=row at *;generalize ij:vs.getD i .top=rv at *;have Fv:B.L=(row.length:Int):=by omega
   have F:(∀ a,a<row.length->MOK B.next.length (row.getD a []))->∀ e:Env,e.at 1 = .aY [.int .i64 B.L,o,f] 0->e.at 3 = .fn (.func 40) [] [.aY [.int .i64 B.L,o,f] 0]->e.at 55=f->e.at 56 = .int .i64 (B.next.length:Int)->e.at 57 = .int .i64 ((i+1:Nat):Int) ->
    ∃ m,m<B.next.length - i/\∃ i:Nat,m=B.next.length - i/\i<=B.next.length/\(∀ k,k<i->ROK B.L B.next.length (B.next.getD k []))/\e.at 1 = .aY [.int .i64 B.L,o,f] 0/\e.at 3 = .fn (.func 40) [] [.aY [.int .i64 B.L,o,f] 0]/\e.at 55=f/\e.at 56 = .int .i64 (B.next.length:Int)/\e.at 57 = .int .i64 (i:Int):=λha e h1 h2 h3 h4 S=>⟨B.next.length - (i+1),by omega,i+1,rfl,by omega,λk p=>by
      by_cases h:k<i
      ·exact ND k h
      ·obtain rfl:k=i:=by omega
       rw[ct];exact⟨Fv.symm,ha⟩,h1,h2,h3,h4,S⟩
   refine aN (λm e s=>∃ a:Nat,m=row.length - a/\a<=row.length/\(∀ k,k<a->MOK B.next.length (row.getD k []))/\e.at 1 = .aY [.int .i64 B.L,o,f] 0/\e.at 3 = .fn (.func 40) [] [.aY [.int .i64 B.L,o,f] 0]/\e.at 55=f/\e.at 56 = .int .i64 (B.next.length:Int)/\e.at 57 = .int .i64 (i:Int)/\e.at 66=rv/\e.at 67 = .int .i64 (row.length:Int)/\e.at 68 = .int .i64 (a:Int)) _
    ⟨0,rfl,by omega,λk p=>absurd p (Nat.not_lt_zero _),ef,ef,ef,ef,ef,ef,ef,by simp only[lk,Nat.reduceEqDiff,if_false,if_true];rfl⟩ ?_
   clear u w g l n d ND;rintro m e s ⟨a,rfl,ha,H,u,w,g,l,n,y,z,C⟩;by_cases wE:a<row.length
   ·have haI : (a : Int) < (row.length : Int) := by omega
    have WK:=O a om;have g2:ws[a]? = some (ws.getD a .top):=R.get wE;have T:=R.row a wE;generalize wq:row.getD a []=ms at *;generalize W3:ws.getD a .top=mv at *;have xD:=T.sl.len;have hmlen:=T.len;repeat' (first|refine dg (aj (@cU _ _ _ R.sl) (aj @g2 @xD)) ?_|(first|apply ah|apply af)<;>intro d)
    ·exfalso;omega
    refine aN (λm e s=>∃ k:Nat,m=ms.length - k/\k<=ms.length/\(∀ j,j<k->0<=(ms.getD j (0,false)).1/\(ms.getD j (0,false)).1<B.next.length/\(0<j->mlt (ms.getD (j - 1) (0,false)) (ms.getD j (0,false))))/\e.at 1 = .aY [.int .i64 B.L,o,f] 0/\e.at 3 = .fn (.func 40) [] [.aY [.int .i64 B.L,o,f] 0]/\e.at 55=f/\e.at 56 = .int .i64 (B.next.length:Int)/\e.at 57 = .int .i64 (i:Int)/\e.at 66=rv/\e.at 67 = .int .i64 (row.length:Int)/\e.at 68 = .int .i64 (a:Int)/\e.at 9=mv/\e.at 72=mv/\e.at 73 = .int .i64 (ms.length:Int)/\e.at 74 = .int .i64 (k:Int)) _
     ⟨0,rfl,by omega,λk p=>absurd p (Nat.not_lt_zero _),ef,ef,ef,ef,ef,ef,ef,ef,ef,ef,ef,by simp only[lk,Nat.reduceEqDiff,if_false,if_true];rfl⟩ ?_
    clear u w g l n y z C d;rintro m e s ⟨k,rfl,p,I,u,w,g,l,n,y,z,C,e9,J,K,e74⟩;by_cases cG:k<ms.length
    ·have iN:(k:Int)<(ms.length:Int):=by omega
     have cD:=O k om;have kG:=λs=>j9 (s:=s) cG;have mj:¬ (0<=(ms.getD k (0,false)).1/\(ms.getD k (0,false)).1<B.next.length/\(0<k->mlt (ms.getD (k - 1) (0,false)) (ms.getD k (0,false))))->¬ Vb B:=λhh h=>by
      have S:=(h.2.2.2.2 i A).2 a (by rw[ct];exact wE);rw[ct,wq]at S;exact hh (S k cG)
     repeat' (first|refine dg (aj (@cU _ _ _ T.sl) @kG) ?_|(first|apply ah|apply af)<;>intro d)
     ·exfalso;omega
     refine EE ff (gV (ms.getD k (0,false)).1) wN ef ef (λbb r=>?_);cases bb<;>simp only[decide_eq_true_eq,decide_eq_false_iff_not]at r
     ·repeat' (first|refine dg trivial ?_|(first|apply ah|apply af)<;>intro d)
      refine⟨.inr trivial,?_⟩;simp only[lk,dM,Nat.reduceEqDiff,if_false,if_true];exact cg (mj λh=>r ⟨h.1,h.2.1⟩)
     ·rcases Nat.eq_zero_or_pos k with U | U
      ·subst U;repeat' (first|refine dg trivial ?_|(first|apply ah|apply af)<;>intro d)
       ·refine⟨ms.length - (0+1),by omega,0+1,rfl,by omega,λj P=>?_,?_⟩
        ·obtain rfl:j=0:=by omega
         exact⟨r.1,r.2,λh=>absurd h (Nat.lt_irrefl _)⟩
        ·simp only[lk,dM,Nat.reduceEqDiff,if_false,if_true,cD,u,w,g,l,n,y,z,C,e9,J,K,and_self]
       all_goals (exfalso;omega)
      ·have nQ:=Qt k U om;have hkI':((k - 1:Nat):Int)<(ms.length:Int):=by omega
       have M:=λs=>j9 (s:=s) (show k - 1<ms.length by omega);repeat' (first|refine dg (aj (@cU _ _ _ T.sl) (aj @M @nQ)) ?_|(first|apply ah|apply af)<;>intro d)
       ·exfalso;omega
       refine dx (IW (ms.getD (k - 1) (0,false)) (ms.getD k (0,false))) ?_;have N:=Uj (ms.getD (k - 1) (0,false)) (ms.getD k (0,false));repeat' (first|refine dg trivial ?_|(first|apply ah|apply af)<;>intro d)
       ·refine⟨ms.length - (k+1),by omega,k+1,rfl,by omega,λj P=>?_,?_⟩
        ·by_cases h:j<k
         ·exact I j h
         ·obtain rfl:j=k:=by omega
          exact⟨r.1,r.2,λ_=>N.1 om⟩
        ·simp only[lk,dM,Nat.reduceEqDiff,if_false,if_true,cD,u,w,g,l,n,y,z,C,e9,J,K,and_self]
       ·refine⟨.inr trivial,?_⟩;simp only[lk,dM,Nat.reduceEqDiff,if_false,if_true];exact cg (mj λh=>by have:=N.2 (h.2.2 U);omega)
    ·repeat' (first|refine dg trivial ?_|(first|apply ah|apply af)<;>intro d)
     ·refine⟨row.length - (a+1),by omega,a+1,rfl,by omega,λj P=>?_,?_⟩
      ·by_cases h:j<a
       ·exact H j h
       ·obtain rfl:j=a:=by omega
        rw[wq];exact λq hq=>I q om
      ·simp only[lk,Nat.reduceEqDiff,if_false,if_true,WK,u,w,g,l,n,y,z,and_self]
     ·exfalso;omega
   ·repeat' (first|refine dg trivial ?_|(first|apply ah|apply af)<;>intro d)
    ·exact F (λq hq=>H q om) _ ef ef ef ef ef
    ·exfalso;omega
  ·repeat' (first|refine dg trivial ?_|(first|apply ah|apply af)<;>intro d)
   ·refine⟨.inr trivial,?_⟩;simp only[lk,Nat.reduceEqDiff,if_false,if_true];exact gK ⟨h1,h2,h3,YZ,λk p=>ND k om⟩
   ·exfalso;omega
end Go.Proofs.YtkbiecjdcjfhaaaGreat
