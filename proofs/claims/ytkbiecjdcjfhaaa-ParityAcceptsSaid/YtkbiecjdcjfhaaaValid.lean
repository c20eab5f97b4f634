/- buchi.Valid. -/
import Derived.Test.YtkbiecjdcjfhaaaBase
set_option linter.unusedSimpArgs false
set_option linter.unusedVariables false
set_option maxRecDepth 100000
set_option maxHeartbeats 16000000
namespace Go.Proofs.Ytkbiecjdcjfhaaa
open Go Go.Pv
open Classical
structure Bu where
  L:Int
  start:List Int
  next:List (List nQ)
def zW (v:LV) (B:Bu) (a b:LV):Prop:=v = .agg [.int .i64 B.L,a,b]/\aM a B.start/\vh b B.next
theorem zW.closed {v:LV}{B:Bu}{a b:LV}(h:zW v B a b):v.closed=true:=by
 obtain⟨rfl,h1,h2⟩:=h;simp[LV.closed,LV.closed.aq,h1.closed,h2.closed]
def mlt (a b:Int × Bool):Prop:=a.1<b.1∨a.1=b.1/\a.2=false/\b.2=true
def Sp (a b:Int × Bool):Int:=if a.1<b.1 then -1 else if b.1<a.1 then 1 else if a.2=b.2 then 0 else if b.2=true then -1 else 1
theorem Sn (a b:Int × Bool):Sp a b<0↔mlt a b:=by
 unfold Sp mlt;obtain⟨x,p⟩:=a;obtain⟨y,q⟩:=b;simp only;split
 ·simp;omega
 ·split
  ·simp;omega
  ·cases p<;>cases q<;>simp<;>omega
def Zm (n:Nat) (ms:nQ):Prop:=∀ k,k<ms.length->0<=(ms.getD k (0,false)).1/\(ms.getD k (0,false)).1<n/\(0<k->mlt (ms.getD (k - 1) (0,false)) (ms.getD k (0,false)))
def SOK (n:Nat) (st:List Int):Prop:=∀ k,k<st.length->0<=st.getD k 0/\st.getD k 0<n/\(0<k->st.getD (k - 1) 0<st.getD k 0)
def ROK (L:Int) (n:Nat) (row:List nQ):Prop:=(row.length:Int)=L/\∀ a,a<row.length->Zm n (row.getD a [])
def Vb (B:Bu):Prop:=1<=B.L/\B.L<=64/\B.next.length<=3000/\SOK B.next.length B.start/\∀ i,i<B.next.length->ROK B.L B.next.length (B.next.getD i [])
theorem eW {ms:nQ}{k:Nat}(h:k<ms.length) {s:St} : cU (some 2) (.aX (cT ms) (k*2)) s=some (.agg [.int .i64 (ms.getD k (0,false)).1, .bool (ms.getD k (0,false)).2]):=by
 have h1:=DQ h;have h2:k*2+2<=(cT ms).length:=by rw[mK];omega
 simp only[cU,aT];rw[if_pos h2,h1]
theorem D7 (x:Int):PO 59 [.int .i64 x] (.bool false):=by
 refine lK (t:=2) hm Try.func59 (by decide +kernel) c59 (Nat.le_of_ble_eq_true rfl) rfl rfl rfl ?_;refine sJ λe c=>?_;unfold l59;dsimp only[jA,qK,qm];repeat' (first | refine gA trivial ?_ | (refine gB trivial ?_;intro b a;cases b<;>(try simp only[aG]at a)) | fail)
 ·exact⟨.inr trivial,ef⟩
 ·exact absurd rfl a
theorem TY (a b:Int):PO 48 [.int .i64 a, .int .i64 b] (.int .i64 (if a<b then -1 else if b<a then 1 else 0)):=by
 refine lK (t:=4) hm Try.func48 (by decide +kernel) c48 (Nat.le_of_ble_eq_true rfl) rfl rfl rfl ?_;refine pF λe d f=>?_;unfold l48;dsimp only[jA,qB,qC,qG,qm];repeat' (first | refine gA trivial ?_ | (refine gB trivial ?_;rintro (_|_) c<;>try simp only[aG,reduceCtorEq]at c) | apply aA | fail)
 refine dR ez (D7 a) (by first | exact wN | (apply wG;(simp only[lk,Nat.reduceEqDiff,reduceIte,d,f];(try rfl);done))) (by simp only[List.map,lk,Nat.reduceEqDiff,reduceIte];try rfl) (by first | trivial | (simp only[cH,aE,aR.run,Env.au,Env.bI,svq,Nat.reduceEqDiff,Nat.reduceAdd,Nat.reduceLeDiff,reduceIte,aT,eH,List.map,bC,beq_self_eq_true,reduceCtorEq,false_or,true_and,and_true,Option.some.injEq, *];done)) ?_;simp only[Env.au];repeat' (first | refine gA trivial ?_ | (refine gB trivial ?_;rintro (_|_) c<;>try simp only[aG,reduceCtorEq]at c) | apply aA | fail)
 refine dR ez (D7 b) (by first | exact wN | (apply wG;(simp only[lk,Nat.reduceEqDiff,reduceIte,d,f];(try rfl);done))) (by simp only[List.map,lk,Nat.reduceEqDiff,reduceIte];try rfl) (by first | trivial | (simp only[cH,aE,aR.run,Env.au,Env.bI,svq,Nat.reduceEqDiff,Nat.reduceAdd,Nat.reduceLeDiff,reduceIte,aT,eH,List.map,bC,beq_self_eq_true,reduceCtorEq,false_or,true_and,and_true,Option.some.injEq, *];done)) ?_;simp only[Env.au];repeat' (first | refine gA trivial ?_ | (refine gB trivial ?_;intro g c;cases g<;>(try simp only[aG]at c)) | apply aA | fail)
 all_goals
  refine⟨.inr trivial,?_⟩;simp only[lk,Nat.reduceEqDiff,if_false,if_true];repeat' split
  all_goals first | rfl | (exfalso;omega)
theorem Hh (a b:Int × Bool):PO 32 [.agg [.int .i64 a.1, .bool a.2], .agg [.int .i64 b.1, .bool b.2]] (.int .i64 (Sp a b)):=by
 obtain⟨x,p⟩:=a;obtain⟨y,q⟩:=b;refine lK (t:=4) hm Try.func32 (by decide +kernel) c32 (Nat.le_of_ble_eq_true rfl) rfl rfl rfl ?_;refine pF λe g h=>?_;unfold l32;dsimp only[jA,jC,qL,qF,qC,qO,qP,qm,ql];repeat' (first | refine gA trivial ?_ | (refine gB trivial ?_;rintro (_|_) f<;>try simp only[aG,reduceCtorEq]at f) | apply aA | fail)
 refine dR ez (TY x y) (by first | exact wN | (apply wG;(simp only[lk,Nat.reduceEqDiff,reduceIte,g,h];(try rfl);done))) (by simp only[List.map,lk,Nat.reduceEqDiff,reduceIte];try rfl) (by first | trivial | (simp only[cH,aE,aR.run,Env.au,Env.bI,svq,Nat.reduceEqDiff,Nat.reduceAdd,Nat.reduceLeDiff,reduceIte,aT,eH,List.map,bC,beq_self_eq_true,reduceCtorEq,false_or,true_and,and_true,Option.some.injEq, *];done)) ?_;simp only[Env.au];generalize d:(if x<y then (-1:Int) else if y<x then 1 else 0)=c;cases p<;>cases q;all_goals
  repeat' (first | refine gA trivial ?_ | (refine gB trivial ?_;intro i f;cases i<;>(try simp only[aG,if_false]at f)) | apply aA | fail)
  all_goals
   refine⟨.inr trivial,?_⟩;simp only[lk,dJ,Nat.reduceEqDiff,if_false,if_true,Sp];revert d;repeat' split
   all_goals first | (intro d;subst d;rfl) | (intro d;exfalso;omega) | (intro d;simp_all;done)
theorem MN {B:Bu}{a b:LV}(hs:aM a B.start) (c:vh b B.next) (x:Int):eB Try.prog GL (.fn (.func 31) [] [.aX [.int .i64 B.L,a,b] 0]) [.int .i64 x] (.bool (decide (0<=x/\x<(B.next.length:Int)))):=by
 obtain⟨vs,d⟩:=id c;have hl:=d.sl.len;refine ZX (t:=3) Try.func31 (by decide +kernel) c31 (Nat.le_of_ble_eq_true rfl) rfl (by simp[LV.closed,LV.closed.aq,hs.closed,c.closed]) rfl rfl ?_;have h:(eV ([LV.int .i64 x]++[.aX [.int .i64 B.L,a,b] 0])).at 0 = .int .i64 x:=by rw[bM];rfl
 have i:(eV ([LV.int .i64 x]++[.aX [.int .i64 B.L,a,b] 0])).at 1 = .aX [.int .i64 B.L,a,b] 0:=by rw[bM];rfl
 generalize eV ([LV.int .i64 x]++[.aX [.int .i64 B.L,a,b] 0])=e at *;unfold l31;dsimp only[jA,jD,qM,qL,qF,qS,qB,qK,qm];repeat' (first | refine gA @hl ?_ | (refine gB @hl ?_;intro f g;cases f<;>(try simp only[aG]at g)) | apply aA | fail)
 all_goals (refine⟨.inr trivial,?_⟩;simp only[lk,Nat.reduceEqDiff,if_false,if_true];first | exact hY om | exact b8 om)
theorem nN {v:LV}{B:Bu}{l g:LV}(hB:zW v B l g):PO 15 [v] (.bool (decide (Vb B))):=by
 have cx:=hB.closed;obtain⟨rfl,hs,hn⟩:=hB;have dO:=λx=>MN (B:=B) hs hn x;obtain⟨vs,E⟩:=hn;have O:=E.sl.len;have fZ:=hs.sl.len;have mZ:=hs.sl.cell;have uD:=E.sl.cell;have tN:maxLen=9223372036854775807:=by decide
 refine lK (t:=2) hm Try.func15 (by decide +kernel) c15 (Nat.le_of_ble_eq_true rfl) (by simp[LV.closed.aq,cx]) rfl rfl ?_;refine sJ λe e0=>?_;unfold l15;dsimp only[jA,jB,jC,jD,jE,jF,jG,qM,qL,qN,qF,qS,qI,qA,qB,qC,qK,qO,qP,qm,ql];repeat' (first | refine gA (And.intro @O @fZ) ?_ | (refine gB (And.intro @O @fZ) ?_;intro f d;cases f<;>(try simp only[aG]at d)) | apply aA | fail)
 all_goals first
  | (refine⟨.inr trivial,?_⟩;simp only[lk,Nat.reduceEqDiff,if_false,if_true];exact b8 λh=>by obtain⟨a,b,c,_⟩:=h;omega)
  | skip
 refine aS (λm e s=>∃ i:Nat,m=B.start.length - i/\i<=B.start.length/\(∀ k,k<i->0<=B.start.getD k 0/\B.start.getD k 0<B.next.length/\(0<k->B.start.getD (k - 1) 0<B.start.getD k 0))/\e.at 1 = .aX [.int .i64 B.L,l,g] 0/\e.at 3 = .fn (.func 31) [] [.aX [.int .i64 B.L,l,g] 0]/\e.at 28=l/\e.at 29 = .int .i64 (B.start.length:Int)/\e.at 30 = .int .i64 (i:Int)) _
  ⟨0,rfl,by omega,λk n=>absurd n (Nat.not_lt_zero _),ef,ef,ef,ef,by simp only[lk,Nat.reduceEqDiff,if_false,if_true,List.map];rfl⟩ ?_
 have h1:1<=B.L:=by omega
 have h2:B.L<=64:=by omega
 have h3:B.next.length<=3000:=by omega
 clear d e0;rintro m e s ⟨i,rfl,hi,X,p,r,Y,Z,Q8⟩;have P:∀ j:Nat,(j:Int)<9223372036854775807->IntKind.i64.wrap ((j:Int)+1)=((j+1:Nat):Int):=λj Q=>by rw[wrap_i64 _ om om];rfl
 have SK:∀ j:Nat,0<j->(j:Int)<9223372036854775807->IntKind.i64.wrap ((j:Int) - 1)=((j - 1:Nat):Int):=λj h Q=>by rw[wrap_i64 _ om om];omega
 have hslen:=hs.len;by_cases w:i<B.start.length
 · -- a start
  have tP:(i:Int)<(B.start.length:Int):=by omega
  have hiI':((i - 1:Nat):Int)<(B.start.length:Int):=by omega
  have hw:=P i om;repeat' (first | refine gA (And.intro (@cw _ _ _ hs.sl) @bu) ?_ | (refine gB (And.intro (@cw _ _ _ hs.sl) @bu) ?_;intro f d;cases f<;>(try simp only[aG]at d)) | fail)
  ·exfalso;omega
  refine DA ez (dO (B.start.getD i 0)) wN ef (by simp only[List.map,lk,Nat.reduceEqDiff,if_false,if_true,List.map]) (λf o=>?_);cases f<;>simp only[decide_eq_true_eq,decide_eq_false_iff_not]at o
  ·repeat' (first | refine gA trivial ?_ | (refine gB trivial ?_;rintro (_|_) d<;>try simp only[aG,reduceCtorEq]at d) | fail)
   refine⟨.inr trivial,?_⟩;simp only[lk,dJ,Nat.reduceEqDiff,if_false,if_true];exact b8 λh=>o ⟨(h.2.2.2.1 i w).1,(h.2.2.2.1 i w).2.1⟩
  ·rcases Nat.eq_zero_or_pos i with R | R
   ·subst R;repeat' (first | refine gA trivial ?_ | (refine gB trivial ?_;intro f d;cases f<;>(try simp only[aG]at d)) | fail)
    ·refine⟨B.start.length - (0+1),by omega,0+1,rfl,by omega,λk n=>?_,?_⟩
     ·obtain rfl:k=0:=by omega
      exact⟨o.1,o.2,λh=>absurd h (Nat.lt_irrefl _)⟩
     ·simp only[lk,dJ,Nat.reduceEqDiff,if_false,if_true,hw,p,r,Y,Z,and_self]
    all_goals (exfalso;omega)
   ·have G:=SK i R om;repeat' (first | refine gA (And.intro (@cw _ _ _ hs.sl) (And.intro @bu @G)) ?_ | (refine gB (And.intro (@cw _ _ _ hs.sl) (And.intro @bu @G)) ?_;intro f d;cases f<;>(try simp only[aG]at d)) | fail)
    ·exfalso;omega
    ·refine⟨B.start.length - (i+1),by omega,i+1,rfl,by omega,λk n=>?_,?_⟩
     ·by_cases h:k<i
      ·exact X k h
      ·obtain rfl:k=i:=by omega
       exact⟨o.1,o.2,λ_=>by omega⟩
     ·simp only[lk,dJ,Nat.reduceEqDiff,if_false,if_true,hw,p,r,Y,Z,and_self]
    ·refine⟨.inr trivial,?_⟩;simp only[lk,dJ,Nat.reduceEqDiff,if_false,if_true];exact b8 λh=>by
      have:=(h.2.2.2.1 i w).2.2 R;omega
 · -- the VQ
  have El:SOK B.next.length B.start:=λk n=>X k om;repeat' (first | refine gA @O ?_ | (refine gB @O ?_;intro f d;cases f<;>(try simp only[aG]at d)) | fail)
  rotate_left
  ·exfalso;omega
  refine aS (λm e s=>∃ i:Nat,m=B.next.length - i/\i<=B.next.length/\(∀ k,k<i->ROK B.L B.next.length (B.next.getD k []))/\e.at 1 = .aX [.int .i64 B.L,l,g] 0/\e.at 3 = .fn (.func 31) [] [.aX [.int .i64 B.L,l,g] 0]/\e.at 55=g/\e.at 56 = .int .i64 (B.next.length:Int)/\e.at 57 = .int .i64 (i:Int)) _
   ⟨0,rfl,by omega,λk n=>absurd n (Nat.not_lt_zero _),ef,ef,ef,ef,by simp only[lk,Nat.reduceEqDiff,if_false,if_true];rfl⟩ ?_
  clear X w d p r Y Z Q8;rintro m e s ⟨i,rfl,hi,L2,p,r,z,A,C⟩;by_cases w:i<B.next.length
  ·have tP : (i : Int) < (B.next.length : Int) := by omega
   have hw:=P i om;have g1:vs[i]? = some (vs.getD i .top):=E.get w;obtain⟨ws,H⟩:=E.row i w;have fN:=H.sl.len;repeat' (first | refine gA (And.intro (@cw _ _ _ E.sl) (And.intro @g1 @fN)) ?_ | (refine gB (And.intro (@cw _ _ _ E.sl) (And.intro @g1 @fN)) ?_;intro f d;cases f<;>(try simp only[aG]at d)) | fail)
   ·exfalso;omega
   rotate_left
   ·refine⟨.inr trivial,?_⟩;simp only[lk,Nat.reduceEqDiff,if_false,if_true];exact b8 λh=>by
     have:=(h.2.2.2.2 i w).1;omega
   generalize bV:B.next.getD i []=row at *;generalize mY:vs.getD i .top=rv at *;have Eo:B.L=(row.length:Int):=by omega
   have D:(∀ a,a<row.length->Zm B.next.length (row.getD a []))->∀ e:Env,e.at 1 = .aX [.int .i64 B.L,l,g] 0->e.at 3 = .fn (.func 31) [] [.aX [.int .i64 B.L,l,g] 0]->e.at 55=g->e.at 56 = .int .i64 (B.next.length:Int)->e.at 57 = .int .i64 ((i+1:Nat):Int) ->
    ∃ m,m<B.next.length - i/\∃ i:Nat,m=B.next.length - i/\i<=B.next.length/\(∀ k,k<i->ROK B.L B.next.length (B.next.getD k []))/\e.at 1 = .aX [.int .i64 B.L,l,g] 0/\e.at 3 = .fn (.func 31) [] [.aX [.int .i64 B.L,l,g] 0]/\e.at 55=g/\e.at 56 = .int .i64 (B.next.length:Int)/\e.at 57 = .int .i64 (i:Int):=λha e h1 h2 h3 h4 T=>⟨B.next.length - (i+1),by omega,i+1,rfl,by omega,λk n=>by
      by_cases h:k<i
      ·exact L2 k h
      ·obtain rfl:k=i:=by omega
       rw[bV];exact⟨Eo.symm,ha⟩,h1,h2,h3,h4,T⟩
   refine aS (λm e s=>∃ a:Nat,m=row.length - a/\a<=row.length/\(∀ k,k<a->Zm B.next.length (row.getD k []))/\e.at 1 = .aX [.int .i64 B.L,l,g] 0/\e.at 3 = .fn (.func 31) [] [.aX [.int .i64 B.L,l,g] 0]/\e.at 55=g/\e.at 56 = .int .i64 (B.next.length:Int)/\e.at 57 = .int .i64 (i:Int)/\e.at 66=rv/\e.at 67 = .int .i64 (row.length:Int)/\e.at 68 = .int .i64 (a:Int)) _
    ⟨0,rfl,by omega,λk n=>absurd n (Nat.not_lt_zero _),ef,ef,ef,ef,ef,ef,ef,by simp only[lk,Nat.reduceEqDiff,if_false,if_true];rfl⟩ ?_
   clear p r z A C d L2;rintro m e s ⟨a,rfl,ha,I,p,r,z,A,C,u,J,U⟩;by_cases rj:a<row.length
   ·have haI : (a : Int) < (row.length : Int) := by omega
    have US:=P a om;have g2:ws[a]? = some (ws.getD a .top):=H.get rj;have F:=H.row a rj;generalize rM:row.getD a []=ms at *;generalize zJ:ws.getD a .top=mv at *;have q7:=F.sl.len;have OH:=F.len;repeat' (first | refine gA (And.intro (@cw _ _ _ H.sl) (And.intro @g2 @q7)) ?_ | (refine gB (And.intro (@cw _ _ _ H.sl) (And.intro @g2 @q7)) ?_;intro f d;cases f<;>(try simp only[aG]at d)) | fail)
    ·exfalso;omega
    refine aS (λm e s=>∃ k:Nat,m=ms.length - k/\k<=ms.length/\(∀ j,j<k->0<=(ms.getD j (0,false)).1/\(ms.getD j (0,false)).1<B.next.length/\(0<j->mlt (ms.getD (j - 1) (0,false)) (ms.getD j (0,false))))/\e.at 1 = .aX [.int .i64 B.L,l,g] 0/\e.at 3 = .fn (.func 31) [] [.aX [.int .i64 B.L,l,g] 0]/\e.at 55=g/\e.at 56 = .int .i64 (B.next.length:Int)/\e.at 57 = .int .i64 (i:Int)/\e.at 66=rv/\e.at 67 = .int .i64 (row.length:Int)/\e.at 68 = .int .i64 (a:Int)/\e.at 9=mv/\e.at 72=mv/\e.at 73 = .int .i64 (ms.length:Int)/\e.at 74 = .int .i64 (k:Int)) _
     ⟨0,rfl,by omega,λk n=>absurd n (Nat.not_lt_zero _),ef,ef,ef,ef,ef,ef,ef,ef,ef,ef,ef,by simp only[lk,Nat.reduceEqDiff,if_false,if_true];rfl⟩ ?_
    clear p r z A C u J U d;rintro m e s ⟨k,rfl,n,K,p,r,z,A,C,u,J,U,e9,M,N,e74⟩;by_cases fB:k<ms.length
    ·have uB:(k:Int)<(ms.length:Int):=by omega
     have fJ:=P k om;have dS:=λs=>eW (s:=s) fB;have ko:¬ (0<=(ms.getD k (0,false)).1/\(ms.getD k (0,false)).1<B.next.length/\(0<k->mlt (ms.getD (k - 1) (0,false)) (ms.getD k (0,false))))->¬ Vb B:=λhh h=>by
      have T:=(h.2.2.2.2 i w).2 a (by rw[bV];exact rj);rw[bV,rM]at T;exact hh (T k fB)
     repeat' (first | refine gA (And.intro (@cw _ _ _ F.sl) @dS) ?_ | (refine gB (And.intro (@cw _ _ _ F.sl) @dS) ?_;intro f d;cases f<;>(try simp only[aG]at d)) | fail)
     ·exfalso;omega
     refine DA ez (dO (ms.getD k (0,false)).1) wN ef (by simp only[List.map,lk,Nat.reduceEqDiff,if_false,if_true,List.map]) (λf o=>?_);cases f<;>simp only[decide_eq_true_eq,decide_eq_false_iff_not]at o
     ·repeat' (first | refine gA trivial ?_ | (refine gB trivial ?_;rintro (_|_) d<;>try simp only[aG,reduceCtorEq]at d) | fail)
      refine⟨.inr trivial,?_⟩;simp only[lk,dJ,Nat.reduceEqDiff,if_false,if_true];exact b8 (ko λh=>o ⟨h.1,h.2.1⟩)
     ·rcases Nat.eq_zero_or_pos k with V | V
      ·subst V;repeat' (first | refine gA trivial ?_ | (refine gB trivial ?_;intro f d;cases f<;>(try simp only[aG]at d)) | fail)
       ·refine⟨ms.length - (0+1),by omega,0+1,rfl,by omega,λj Q=>?_,?_⟩
        ·obtain rfl:j=0:=by omega
         exact⟨o.1,o.2,λh=>absurd h (Nat.lt_irrefl _)⟩
        ·simp only[lk,dJ,Nat.reduceEqDiff,if_false,if_true,fJ,p,r,z,A,C,u,J,U,e9,M,N,and_self]
       all_goals (exfalso;omega)
      ·have G:=SK k V om;have hkI':((k - 1:Nat):Int)<(ms.length:Int):=by omega
       have y:=λs=>eW (s:=s) (show k - 1<ms.length by omega);repeat' (first | refine gA (And.intro (@cw _ _ _ F.sl) (And.intro @y @G)) ?_ | (refine gB (And.intro (@cw _ _ _ F.sl) (And.intro @y @G)) ?_;intro f d;cases f<;>(try simp only[aG]at d)) | fail)
       ·exfalso;omega
       refine dR ez (Hh (ms.getD (k - 1) (0,false)) (ms.getD k (0,false))) (by first | exact wN | (apply wG;(simp only[lk,Nat.reduceEqDiff,reduceIte];(try rfl);done))) (by simp only[List.map,lk,Nat.reduceEqDiff,reduceIte];try rfl) (by first | trivial | (simp only[cH,aE,aR.run,Env.au,Env.bI,svq,Nat.reduceEqDiff,Nat.reduceAdd,Nat.reduceLeDiff,reduceIte,aT,eH,List.map,bC,beq_self_eq_true,reduceCtorEq,false_or,true_and,and_true,Option.some.injEq, *];done)) ?_;simp only[Env.au];have YW:=Sn (ms.getD (k - 1) (0,false)) (ms.getD k (0,false));repeat' (first | refine gA trivial ?_ | (refine gB trivial ?_;intro f d;cases f<;>(try simp only[aG]at d)) | fail)
       ·refine⟨ms.length - (k+1),by omega,k+1,rfl,by omega,λj Q=>?_,?_⟩
        ·by_cases h:j<k
         ·exact K j h
         ·obtain rfl:j=k:=by omega
          exact⟨o.1,o.2,λ_=>YW.1 om⟩
        ·simp only[lk,dJ,Nat.reduceEqDiff,if_false,if_true,fJ,p,r,z,A,C,u,J,U,e9,M,N,and_self]
       ·refine⟨.inr trivial,?_⟩;simp only[lk,dJ,Nat.reduceEqDiff,if_false,if_true];exact b8 (ko λh=>by have:=YW.2 (h.2.2 V);omega)
    ·repeat' (first | refine gA trivial ?_ | (refine gB trivial ?_;intro f d;cases f<;>(try simp only[aG]at d)) | fail)
     ·refine⟨row.length - (a+1),by omega,a+1,rfl,by omega,λj Q=>?_,?_⟩
      ·by_cases h:j<a
       ·exact I j h
       ·obtain rfl:j=a:=by omega
        rw[rM];exact λq hq=>K q om
      ·simp only[lk,Nat.reduceEqDiff,if_false,if_true,US,p,r,z,A,C,u,J,and_self]
     ·exfalso;omega
   ·repeat' (first | refine gA trivial ?_ | (refine gB trivial ?_;intro f d;cases f<;>(try simp only[aG]at d)) | fail)
    ·exact D (λq hq=>I q om) _ ef ef ef ef ef
    ·exfalso;omega
  ·repeat' (first | refine gA trivial ?_ | (refine gB trivial ?_;intro f d;cases f<;>(try simp only[aG]at d)) | fail)
   ·refine⟨.inr trivial,?_⟩;simp only[lk,Nat.reduceEqDiff,if_false,if_true];exact hY ⟨h1,h2,h3,El,λk n=>L2 k om⟩
   ·exfalso;omega
end Go.Proofs.Ytkbiecjdcjfhaaa
