/- The document's small functions on deterministic automata. -/
import Derived.Test.YtkbiecjdcjfhaaaGreatQpv
import Derived.Test.YtkbiecjdcjfhaaaGreatQlm
set_option linter.unusedSimpArgs false
set_option linter.unusedVariables false
set_option maxRecDepth 100000
set_option maxHeartbeats 16000000
section
namespace Go.Proofs.YtkbiecjdcjfhaaaGreat
open Go Go.Pv
open Classical
theorem rR {l:List Int}{i j:Nat}(h:i<j):(l.take j).getD i 0=l.getD i 0:=by
 simp[gD,h]
theorem q9:PO 33 [] (.int .i64 20000):=by
 refine gO (t:=0) hm Tryz.func33 br c33 bw rfl rfl rfl ?_;generalize fm []=e;unfold l33;dsimp only[jA,qC,qR];repeat' (first|refine aV trivial ?_|(first|apply ah|apply af)<;>intro a)
 exact⟨.inr trivial,by simp⟩
theorem vw {L S:Int}{d pr:LV}{N R:List (List Int)}{q r:List LV}(a:bN d N q) (b:bN pr R r):PO 12 [.agg [.int .i64 L, .int .i64 S,d,pr]] (.bool (decide (PV L S N R))):=by
 have u:(LV.agg [.int .i64 L, .int .i64 S,d,pr]).closed=true:=by simp[LV.closed,LV.closed.au,a.closed,b.closed]
 have w:=a.sl.cell;have x:=b.sl.cell;refine gO (t:=2) hm Tryz.func12 br c12 bw (by simp[LV.closed.au,u]) rfl rfl ?_;refine pg λe h0=>?_;unfold l12;dsimp only[jA,jB,jC,jF,qM,qL,qF,qS,qI,qA,qB,qC,qK,qO,qP,qU,qW,qm,ql,qR];repeat' (first|refine aV (aj @a.sl.len @b.sl.len) ?_|(first|apply ah|apply af)<;>intro f)
 all_goals first
  | (refine⟨.inr trivial,?_⟩;simp only[lk,Nat.reduceEqDiff,if_false,if_true];refine cg λh=>?_;have:=h.1;omega)
  | skip
 refine aN (λn e s=>s=St.empty/\∃ i:Nat,n=N.length - i/\i<=N.length/\e.at 1 = .aY [.int .i64 L, .int .i64 S,d,pr] 0/\e.at 3 = .int .i64 (N.length:Int)/\e.at 4 = .int .i64 (i:Int)/\∀ j,j<i->Ss N R L j) N.length ⟨rfl,0,by simp,by simp,by simp,by simp,by simp,λj c=>absurd c (Nat.not_lt_zero _)⟩ ?_;rintro n e s ⟨rfl,i,rfl,y,g,l,m,o⟩;repeat' (first|refine aV (aj @a.sl.len (aj @b.sl.len (aj (@cU _ _ _ a.sl) (aj (@cU _ _ _ b.sl) (aj @a.mo (aj @a.wU (aj @b.mo @b.wU))))))) ?_|(first|apply ah|apply af)<;>intro f)
 ·refine⟨.inr trivial,?_⟩;simp only[lk,Nat.reduceEqDiff,if_false,if_true];exact gK ⟨by omega,λj c=>o j om⟩
 ·rename_i z A;refine aN (λn e s=>s=St.empty/\∃ k:Nat,n=L.toNat - k/\(k:Int)<=L/\e.at 1 = .aY [.int .i64 L, .int .i64 S,d,pr] 0/\e.at 3 = .int .i64 (N.length:Int)/\e.at 4 = .int .i64 (i:Int)/\e.at 5 = .int .i64 (k:Int)/\∀ j,j<k->Ent N R i j) L.toNat ⟨rfl,0,by simp,by omega,by simp[g],by simp[l],by simp[m],by simp,λj c=>absurd c (Nat.not_lt_zero _)⟩ ?_;rintro n e s ⟨rfl,k,rfl,B,g,l,m,C,p⟩;repeat' (first|refine aV (aj @a.sl.len (aj @b.sl.len (aj (@cU _ _ _ a.sl) (aj (@cU _ _ _ b.sl) (aj @a.mo (aj @a.wU (aj @a.ria (aj @b.mo (aj @b.wU (aj @b.ria @bB)))))))))) ?_|(first|apply ah|apply af)<;>intro f)
  ·refine⟨_,?_,trivial,i+1,rfl,?_⟩
   ·omega
   simp only[lk,Nat.reduceEqDiff,if_false,if_true,true_and,ez (i:=i) (n:=N.length) om a.len, *];refine⟨by omega,λj c=>?_⟩;rcases Nat.lt_succ_iff_lt_or_eq.1 c with h | rfl
   ·exact o j h
   ·exact⟨by assumption,by assumption,λv D=>p v om⟩
  ·refine tq ff (q9) (by first | exact wN | (apply wG;(simp only[lk,Nat.reduceEqDiff,reduceIte];(try rfl);done))) ef (by first | trivial | (simp only[dG,aK,bq.run,Env.aB,lk,dM,rH,Nat.reduceEqDiff,if_false,if_true,bG,beq_self_eq_true,false_or,and_true,Option.some.injEq,b.mo,bB, *];done)) ?_;simp only[Env.aB];repeat' (first|refine aV @a.sl.len ?_|(first|apply ah|apply af)<;>intro f)
   ·refine⟨_,?_,trivial,k+1,rfl,?_⟩
    ·omega
    simp only[lk,Nat.reduceEqDiff,if_false,if_true,true_and,ez (i:=k) (n:=64) om (by decide), *];refine⟨by omega,λj c=>?_⟩;rcases Nat.lt_succ_iff_lt_or_eq.1 c with h | rfl
    ·exact p j h
    ·exact⟨by assumption,by assumption,by assumption,by assumption⟩
   ·refine⟨.inr trivial,?_⟩;simp only[lk,Nat.reduceEqDiff,if_false,if_true];refine cg λh=>?_;have:=((h.2 i om).2.2 k om).2.2.2;omega
  all_goals
   refine⟨.inr trivial,?_⟩;simp only[lk,Nat.reduceEqDiff,if_false,if_true];refine cg λh=>?_;obtain⟨u1,u2,u3,u4⟩:=(h.2 i om).2.2 k om;omega
 ·refine⟨.inr trivial,?_⟩;simp only[lk,Nat.reduceEqDiff,if_false,if_true];refine cg λh=>?_;have:=(h.2 i om).2.1;omega
 ·refine⟨.inr trivial,?_⟩;simp only[lk,Nat.reduceEqDiff,if_false,if_true];refine cg λh=>?_;have:=(h.2 i om).1;omega
theorem IS {α:Type}{a b:List α}{d:α}(hl:a.length=b.length) (h:∀ k,k<a.length->a.getD k d=b.getD k d):a=b:=by
 apply List.ext_getElem hl;intro k h1 h2;have:=h k h1;rwa[gD,gD,gE h1,gE h2]at this
theorem ye {f g:LV}{a b:List Int}(d:aP f a) (j:aP g b):PO 64 [f,g] (.bool (decide (a=b))):=by
 have l:=d.sl.len;have r:=j.sl.len;refine gO (t:=4) hm Tryz.func64 br c64 bw (by simp[LV.closed.au,d.closed,j.closed]) rfl rfl ?_;refine mH λe n o=>?_;unfold l64;dsimp only[jA,jB,qM,qL,qS,qI,qA,qB,qC,qK,qm,qR];repeat' (first|refine aV (aj @l @r) ?_|(first|apply ah|apply af)<;>intro c)
 rotate_left
 ·refine⟨.inr trivial,?_⟩;simp only[lk,Nat.reduceEqDiff,if_false,if_true];exact cg λh=>by rw[h]at c;exact c rfl
 have u:a.length=b.length:=by omega
 refine aN (λm e s=>∃ i:Nat,m=a.length - i/\i<=a.length/\(∀ k,k<i->a.getD k 0=b.getD k 0)/\e.at 0=f/\e.at 1=g/\e.at 5 = .int .i64 (i:Int)) _
  ⟨0,rfl,by omega,λk p=>absurd p (Nat.not_lt_zero _),ef,ef,by simp only[lk,Nat.reduceEqDiff,if_false,if_true];rfl⟩ ?_
 clear n o c;rintro m e s ⟨i,rfl,w,heq,n,o,x⟩;by_cases y:i<a.length
 ·have q:(i:Int)<(a.length:Int):=by omega
  have z:(i:Int)<(b.length:Int):=by omega
  have v:=ez q d.len;repeat' (first|refine aV (aj @l (aj (@cU _ _ _ d.sl) (aj (@cU _ _ _ j.sl) @bB))) ?_|(first|apply ah|apply af)<;>intro c)
  ·exfalso;omega
  ·refine⟨a.length - (i+1),by omega,i+1,rfl,by omega,λk p=>?_,?_⟩
   ·by_cases h:k<i
    ·exact heq k h
    ·obtain rfl:k=i:=by omega
     exact c
   ·simp only[lk,Nat.reduceEqDiff,if_false,if_true,v,n,o,and_self]
  ·refine⟨.inr trivial,?_⟩;simp only[lk,Nat.reduceEqDiff,if_false,if_true];exact cg λh=>by rw[h]at c;exact c rfl
 ·repeat' (first|refine aV @l ?_|(first|apply ah|apply af)<;>intro c)
  ·refine⟨.inr trivial,?_⟩;simp only[lk,Nat.reduceEqDiff,if_false,if_true];exact gK (IS u λk p=>heq k om)
  ·exfalso;omega
theorem Bh {c d:LV}{ls:List (List Int)}{o p:List LV}(a:bN c ls o) (b:bN d ls p):PO 32 [c,d] (.bool true):=by
 have f:=a.sl.len;have w:=b.sl.len;have q:=a.len;have z:=lG;have g:c.closed=true:=a.closed;have h:d.closed=true:=b.closed;refine gO (t:=4) hm Tryz.func32 br c32 bw (by simp[LV.closed.au,g,h]) rfl rfl ?_;refine mH λe j k=>?_;unfold l32;dsimp only[jA,jB,qM,qL,qS,qI,qA,qB,qC,qK,qT,qm,qR];repeat' (first|refine aH (aj @f @w) ?_|(first|apply ah|apply af)<;>intro l)
 refine aN (λm e s=>s=St.empty/\∃ i:Nat,m=ls.length - i/\i<=ls.length/\e.at 0=c/\e.at 1=d/\e.at 5 = .int .i64 (i:Int)) _ ⟨rfl,0,rfl,by omega,ef,ef,by simp only[lk,Nat.reduceEqDiff,if_false,if_true];rfl⟩ ?_;clear j k;clear e;rintro m e s ⟨hs,i,rfl,A,j,k,B⟩;subst hs;by_cases r:i<ls.length
 ·have u:(i:Int)<(ls.length:Int):=by omega
  have v:=@bQ i om;have x:=a.mo u;have y:=b.mo u;have n:=ye (a.row i r) (b.row i r);rw[decide_eq_true rfl]at n;generalize o.getD i .top=C at *;generalize p.getD i .top=D at *;repeat' (first|refine aH (aj @f (aj (@cU _ _ _ a.sl) (aj (@cU _ _ _ b.sl) (aj @x @y)))) ?_|(first|apply ah|apply af)<;>intro l)
  refine dx n ?_;clear n;repeat' (first|refine aH @v ?_|(first|apply ah|apply af)<;>intro l)
  refine⟨ls.length - (i+1),by omega,trivial,i+1,rfl,by omega,?_⟩;simp only[lk,dM,Nat.reduceEqDiff,if_false,if_true,v,j,k,and_self]
 ·repeat' (first|refine aH @f ?_|(first|apply ah|apply af)<;>intro l)
  exact⟨.inr trivial,ef⟩
theorem Ef {L S:Int}{c nb d f:LV}{N R:List (List Int)}{j k l m:List LV}(g:bN c N j) (h:bN nb N k) (a:bN d R l) (b:bN f R m) :
 PO 10 [.agg [.int .i64 L, .int .i64 S,c,d], .agg [.int .i64 L, .int .i64 S,nb,f]] (.bool true):=by
 have n:(LV.agg [.int .i64 L, .int .i64 S,c,d]).closed=true:=by simp[LV.closed,LV.closed.au,g.closed,a.closed]
 have o:(LV.agg [.int .i64 L, .int .i64 S,nb,f]).closed=true:=by simp[LV.closed,LV.closed.au,h.closed,b.closed]
 have q:=g.sl.cell;have r:=h.sl.cell;have s:=a.sl.cell;have p:=b.sl.cell;have h1:=Bh g h;have h2:=Bh a b;refine gO (t:=4) hm Tryz.func10 br c10 bw (by simp[LV.closed.au,n,o]) rfl rfl ?_;refine mH λe u v=>?_;unfold l10;dsimp only[jA,jD,qL,qF,qK,qO,qV,qm,ql,qR];repeat' (first|refine aH trivial ?_|(first|apply ah|apply af)<;>intro i)
 all_goals try (exfalso;omega)
 refine dx h1 ?_;repeat' (first|refine aH trivial ?_|(first|apply ah|apply af)<;>intro i)
 refine dx h2 ?_;repeat' (first|refine aH trivial ?_|(first|apply ah|apply af)<;>intro i)
 exact⟨.inr trivial,ef⟩
theorem Lt {L S:Int}{d pr:LV}{N R:List (List Int)}{u v:List LV}(a:bN d N u) (c:bN pr R v) :
 PE 6 [.agg [.int .i64 L, .int .i64 S,d,pr]] (λr=>∃ b,r = .bool b):=by
 have w:(LV.agg [.int .i64 L, .int .i64 S,d,pr]).closed=true:=by simp[LV.closed,LV.closed.au,a.closed,c.closed]
 have C:=a.sl.cell;have D:=c.sl.cell;have n:=a.sl.len;have o:=c.sl.len;have x:=a.len;have E:=c.len;have F:=lG;refine dS Tryz.func6 br c6 bw (by simp[LV.closed.au,w]) ?_;refine pg λe y=>?_;have t:∀ (e:Env) (s:St) (b:Bool),e.at 2 = .bool b->aW l6.results e s=some (.bool b):=λe s b h=>by simp[l6,aW,bD,h]
 have f:=Bx.mk t;clear t;unfold l6 at f ⊢;dsimp only[jA,jC,qL,qF,qS,qI,qA,qB,qC,qK,qO,qP,qU,qm,ql,qR];repeat' (first|refine aH (aj @n @o) ?_|(first|apply ah|apply af)<;>intro k)
 all_goals first
  | exact⟨.inr trivial, .bool false,f.out _ _ _ ef, .bool false,_,bk rfl,rfl,false,rfl⟩
  | skip
 refine aN (λm e s=>∃ i:Nat,m=N.length - i/\i<=N.length/\e.at 1 = .aY [.int .i64 L, .int .i64 S,d,pr] 0/\e.at 3 = .int .i64 (i:Int)) _ ⟨0,rfl,by omega,ef,by simp only[lk,Nat.reduceEqDiff,if_false,if_true];rfl⟩ ?_;clear y;clear e;rintro m e s ⟨i,rfl,z,l,A⟩;by_cases B:i<N.length
 ·have g:(i:Int)<(N.length:Int):=by omega
  have j:=@bQ i om;have p:=a.mo g;have q:=a.wU g;repeat' (first|refine aH (aj @n (aj (@cU _ _ _ a.sl) (aj @p (aj @q @j)))) ?_|(first|apply ah|apply af)<;>intro k)
  ·refine⟨N.length - (i+1),by omega,i+1,rfl,by omega,?_⟩;simp only[lk,Nat.reduceEqDiff,if_false,if_true,j,l,and_self]
  ·exact⟨.inr trivial, .bool false,f.out _ _ _ ef, .bool false,_,bk rfl,rfl,false,rfl⟩
 ·repeat' (first|refine aH @n ?_|(first|apply ah|apply af)<;>intro k)
  refine aN (λm e s=>∃ i:Nat,m=R.length - i/\i<=R.length/\e.at 1 = .aY [.int .i64 L, .int .i64 S,d,pr] 0/\e.at 4 = .int .i64 (i:Int)) _ ⟨0,rfl,by omega,ef,by simp only[lk,Nat.reduceEqDiff,if_false,if_true];rfl⟩ ?_;clear l A;clear e;rintro m e s ⟨i,rfl,z,l,G⟩;by_cases B:i<R.length
  ·have g:(i:Int)<(R.length:Int):=by omega
   have j:=@bQ i om;have p:=c.mo g;have q:=c.wU g;repeat' (first|refine aH (aj @o (aj (@cU _ _ _ c.sl) (aj @p (aj @q @j)))) ?_|(first|apply ah|apply af)<;>intro k)
   ·refine⟨R.length - (i+1),by omega,i+1,rfl,by omega,?_⟩;simp only[lk,Nat.reduceEqDiff,if_false,if_true,j,l,and_self]
   ·exact⟨.inr trivial, .bool false,f.out _ _ _ ef, .bool false,_,bk rfl,rfl,false,rfl⟩
  ·repeat' (first|refine aH @o ?_|(first|apply ah|apply af)<;>intro k)
   exact⟨.inr trivial, .bool true,f.out _ _ _ ef, .bool true,_,bk rfl,rfl,true,rfl⟩
def Nr (R:List (List Int)) (g:Int):Prop:=0<=g/\(∀ i,i<R.length->∀ k,k<(R.getD i []).length->(R.getD i []).getD k 0<=g)/\(g=0∨∃ i,i<R.length/\∃ k,k<(R.getD i []).length/\(R.getD i []).getD k 0=g)
theorem LD {L S:Int}{u pr:LV}{N R:List (List Int)}{U V:List LV}(D:bN u N U) (f:bN pr R V):PE 38 [.agg [.int .i64 L, .int .i64 S,u,pr]] (λr=>∃ g,r = .int .i64 g/\Nr R g):=by
 have X:(LV.agg [.int .i64 L, .int .i64 S,u,pr]).closed=true:=by simp[LV.closed,LV.closed.au,D.closed,f.closed]
 have q5:=D.sl.cell;have wB:=f.sl.cell;have w:=f.sl.len;have ML:=f.len;have je:=lG;refine dS Tryz.func38 br c38 bw (by simp[LV.closed.au,X]) ?_;refine pg λe Y=>?_;have E:∀ (e:Env) (s:St) (v:LV),e.at 2=v->aW l38.results e s=some v:=λe s b h=>by simp[l38,aW,bD,h]
 have F:=Bx.mk E;clear E;unfold l38 at F ⊢;dsimp only[jA,qF,qS,qI,qA,qB,qC,qO,qm,ql,qR];repeat' (first|refine aH @w ?_|(first|apply ah|apply af)<;>intro y)
 refine aN (λm e s=>∃ (i:Nat) (g:Int),m=R.length - i/\i<=R.length/\Bx (Nr (R.take i) g)/\e.at 1 = .aY [.int .i64 L, .int .i64 S,u,pr] 0/\e.at 3 = .int .i64 g/\e.at 4 = .int .i64 (i:Int)) _ ⟨0,0,rfl,by omega,⟨Int.le_refl _,λi G=>by simp at G, .inl rfl⟩,ef,ef,by simp only[lk,Nat.reduceEqDiff,if_false,if_true];rfl⟩ ?_;clear Y;clear e;rintro m e s ⟨i,g,rfl,G,p,z,l,B⟩;by_cases H:i<R.length
 ·have I : (i : Int) < (R.length : Int) := by omega
  have J:=@bQ i om;have K:=f.mo I;have M:=f.wU I;have O:=f.row i H;have P:=O.len;repeat' (first|refine aG @w ?_|(first|apply ah|apply af)<;>intro y)
  refine aN (λm e s=>∃ (k:Nat) (g:Int),m=(R.getD i []).length - k/\k<=(R.getD i []).length/\Bx (Nr (R.take i++[(R.getD i []).take k]) g)/\e.at 1 = .aY [.int .i64 L, .int .i64 S,u,pr] 0/\e.at 3 = .int .i64 g/\e.at 4 = .int .i64 (i:Int)/\e.at 5 = .int .i64 (k:Int)) _ ⟨0,g,rfl,by omega,⟨?_⟩,ef,ef,ef,by simp only[lk,Nat.reduceEqDiff,if_false,if_true];rfl⟩ ?_
  ·obtain⟨h1,h2,h3⟩:=p.out;have hl:(R.take i).length=i:=by rw[List.length_take];omega
   refine⟨h1,λj d k t=>?_,?_⟩
   ·rw[List.length_append,List.length_singleton]at d;by_cases e:j<(R.take i).length
    ·have l:(R.take i++[(R.getD i []).take 0]).getD j []=(R.take i).getD j []:=by rw[gD,List.getElem?_append_left e,<- gD]
     rw[l]at t ⊢;exact h2 j e k t
    ·rw[gD,List.getElem?_append_right om,show j - (R.take i).length=0 by omega]at t;simp at t
   ·rcases h3 with h3 | ⟨j,d,k,t,A⟩
    ·exact .inl h3
    ·refine .inr ⟨j,by rw[List.length_append];omega,k,?_⟩;have l:(R.take i++[(R.getD i []).take 0]).getD j []=(R.take i).getD j []:=by rw[gD,List.getElem?_append_left d,<- gD]
     rw[l];exact⟨t,A⟩
  clear z l B p;clear e g s;rintro m e s ⟨k,g,rfl,t,p,z,l,B,e5⟩;by_cases cG:k<(R.getD i []).length
  ·have Q:(k:Int)<((R.getD i []).length:Int):=by omega
   have T:=@bQ k om;have Z:=bB Q;have C3:=cU O.sl Q (aZ:=1) (k:=.i64) (s:=s);have hl:(R.take i).length=i:=by rw[List.length_take];omega
   have C : Bx (Nr (R.take i ++ [(R.getD i []).take (k + 1)]) (max g ((R.getD i []).getD k 0))) := ⟨by
    obtain⟨h1,h2,h3⟩:=p.out;have n:∀ q,(R.take i++[(R.getD i []).take q]).getD i []=(R.getD i []).take q:=λq=>by
     rw[gD,List.getElem?_append_right om,hl,Nat.sub_self];rfl
    have a:∀ q j,j<i->(R.take i++[(R.getD i []).take q]).getD j []=(R.take i).getD j []:=λq j d=>by
     rw[gD,List.getElem?_append_left om,<- gD]
    refine⟨by omega,λj d c o=>?_,?_⟩
    ·rw[List.length_append,List.length_singleton,hl]at d;by_cases e:j<i
     ·have:=h2 j (by rw[List.length_append];omega) c (by rw[a _ _ e]at o ⊢;exact o);rw[a _ _ e]at this ⊢;omega
     ·have:j=i:=by omega
      subst this;rw[n]at o ⊢;rw[List.length_take]at o;by_cases e2:c=k
      ·subst e2;rw[rR om];omega
      ·have:=h2 j (by rw[List.length_append,List.length_singleton];omega) c (by rw[n,List.length_take];omega);rw[n,rR om]at this;rw[rR om];omega
    ·by_cases e:g<=(R.getD i []).getD k 0
     ·refine .inr ⟨i,by rw[List.length_append,List.length_singleton];omega,k,by rw[n,List.length_take];omega,?_⟩;rw[n,rR om];omega
     ·rcases h3 with h3 | ⟨j,d,c,o,A⟩
      ·exact .inl om
      ·refine .inr ⟨j,by rw[List.length_append,List.length_singleton]at d ⊢;exact d,c,?_⟩;rw[List.length_append,List.length_singleton,hl]at d;by_cases l:j<i
       ·rw[a _ _ l]at o A ⊢;exact⟨o,by omega⟩
       ·have:j=i:=by omega
        subst this;rw[n,List.length_take]at o;rw[n,rR om]at A;rw[n,List.length_take,rR om];exact⟨by omega,by omega⟩⟩
   have jP:=Bx.mk (rfl:(R.getD i []).getD k 0=(R.getD i []).getD k 0);generalize (R.getD i []).getD k 0=x at *;repeat' (first|refine aH (aj @w (aj @M (aj (@cU _ _ _ f.sl) (aj @K (aj @C3 (aj @Z @T)))))) ?_|(first|apply ah|apply af)<;>intro y)
   refine⟨(R.getD i []).length - (k+1),by omega,k+1,max g x,rfl,by omega,C,?_⟩;simp only[lk,dM,Nat.reduceEqDiff,if_false,if_true,T,z,B,and_self]
  ·have nX:k=(R.getD i []).length:=by omega
   have C:Bx (Nr (R.take (i+1)) g):=⟨by
    have e:R.take (i+1)=R.take i++[R.getD i []]:=by
     rw[List.take_add_one,gD,gE H];rfl
    rw[e];have:=p.out;rwa[nX,List.take_length]at this⟩
   repeat' (first|refine aH (aj @w (aj @M (aj (@cU _ _ _ f.sl) (aj @K @J)))) ?_|(first|apply ah|apply af)<;>intro y)
   refine⟨R.length - (i+1),by omega,i+1,g,rfl,by omega,C,?_⟩;simp only[lk,Nat.reduceEqDiff,if_false,if_true,J,z,l,and_self]
 ·have Af:i=R.length:=by omega
  subst Af;rw[List.take_length]at p;repeat' (first|refine aH @w ?_|(first|apply ah|apply af)<;>intro y)
  exact⟨.inr trivial, .int .i64 g,F.out _ _ _ ef, .int .i64 g,_,bk rfl,rfl,g,rfl,p.out⟩
theorem Je {dV:Nat->Nat}{u7:Nat->Int}{a n p:Nat}(h:ec dV a (n+p)=ec dV a n) (b:1<=p) {m:Int}(h1:∃ r,r<p/\u7 (ec dV a (n+r))=m) (h2:∀ r,r<p->m<=u7 (ec dV a (n+r))):Ch m (λi=>u7 (ec dV a i)):=by
 obtain⟨r,c,hm⟩:=h1;refine⟨λT=>⟨n+r+T*p,?_,?_⟩,n,λi d=>?_⟩
 ·have:=Nat.mul_le_mul_left T b;omega
 ·show u7 (ec dV a (n+r+T*p))=m;rw[ur h,hm]
 ·have e:i=n+(i - n) % p+((i - n) / p)*p:=by
   have:=Nat.mod_add_div (i - n) p;rw[Nat.mul_comm]at this;omega
  show m<=u7 (ec dV a i);rw[e,ur h];exact h2 _ (Nat.mod_lt _ om)
theorem cyc_ex {dV:Nat->Nat}{c n:Nat}(g:∀ i,ec dV c i<n):∃ p,1<=p/\ec dV c (n+p)=ec dV c n:=by
 have k:¬ ((List.range (n+1)).map (ec dV c)).Nodup:=λh=>by
  have:=HM n _ h λx hx=>by obtain⟨i,_,rfl⟩:=List.mem_map.1 hx;exact g i
  simp at this;omega
 have:∃ a b,a<b/\b<=n/\ec dV c a=ec dV c b:=Classical.byContradiction λl=>k (by
  rw[List.nodup_iff_pairwise_ne,List.pairwise_map];refine List.Pairwise.imp_of_mem (λm d f=>?_) List.pairwise_lt_range;intro e;exact l ⟨_,_,f,by have:=List.mem_range.1 d;omega,e⟩)
 obtain⟨a,b,f,d,e⟩:=this;refine⟨b - a,by omega,?_⟩;have:=CU (dV:=dV) (q:=c) (j:=a) (p:=b - a) (by rw[show a+(b - a)=b by omega];exact e.symm) (n - a);rwa[show a+(n - a)=n by omega]at this
theorem Mf {P:Nat->Prop}(h:∃ n,P n):∃ n,P n/\∀ k,k<n->¬ P k:=by
 obtain⟨n,b⟩:=h;induction n using Nat.strongRecOn with
 | ind n ih=>
   by_cases a:∃ k,k<n/\P k
   ·obtain⟨k,h1,h2⟩:=a;exact ih k h1 h2
   ·exact⟨n,b,λk c d=>a ⟨k,c,d⟩⟩
theorem nN (N R:List (List Int)):∀ (l:List Int) (q:Nat) (m b:Int),m<=b->eT N R l q m=min m (eT N R l q b)
 | [],q,m,b,h=>by simp only[eT];omega
 | a :: l, q, m, b, h => by
   simp only[eT];have h1:=nN N R l (DC N q a) (min m ((R.getD q []).getD a.toNat 0)) (min b ((R.getD q []).getD a.toNat 0)) om;have h2:eT N R l (DC N q a) (min b ((R.getD q []).getD a.toNat 0))<=min b ((R.getD q []).getD a.toNat 0):=by
    have:=nN N R l (DC N q a) (min b ((R.getD q []).getD a.toNat 0)) (min b ((R.getD q []).getD a.toNat 0)) (Int.le_refl _);omega
   omega
def yH (N R:List (List Int)) (ll:List Int) (q:Nat):Nat->Int
 | 0=>20001
 | r+1=>eT N R ll (ec (cj N ll) q r) (yH N R ll q r)
theorem Kr {dV:Nat->Nat}{q:Nat}(n:Nat):∀ r,ec dV (ec dV q n) r=ec dV q (n+r)
 | 0=>rfl
 | r+1=>by
   show dV (ec dV (ec dV q n) r)=dV (ec dV q (n+r));rw[Kr n r]
theorem PT (N R:List (List Int)) (a:Int) (l:List Int) (q:Nat) (h:(R.getD q []).getD a.toNat 0<=20000):eT N R (a::l) q 20001=eT N R (a::l) q 20000:=by
 simp only[eT];congr 1;omega
theorem EY (N R:List (List Int)) (a:Int) (l:List Int) (q:Nat) (h:∀ r,(R.getD (ec (cj N (a::l)) q r) []).getD a.toNat 0<=20000):∀ r,1<=r->(∀ k,k<r->yH N R (a::l) q r<=eT N R (a::l) (ec (cj N (a::l)) q k) 20000)/\∃ k,k<r/\eT N R (a::l) (ec (cj N (a::l)) q k) 20000=yH N R (a::l) q r
 | 0,h0=>by omega
 | 1,_=>by
   have e:yH N R (a::l) q 1=eT N R (a::l) q 20000:=PT N R a l q (h 0);rw[e];exact⟨λk f=>by rw[show k=0 by omega];exact Int.le_refl _,0,by omega,rfl⟩
 | r + 2, _ => by
   obtain⟨h1,k,h2,h3⟩:=EY N R a l q h (r+1) om;have b:yH N R (a::l) q (r+1)<=20000:=by
    rw[<- h3];have:=nN N R (a::l) (ec (cj N (a::l)) q k) 20000 20000 (Int.le_refl _);omega
   have e:yH N R (a::l) q (r+2)=min (yH N R (a::l) q (r+1)) (eT N R (a::l) (ec (cj N (a::l)) q (r+1)) 20000):=nN N R (a::l) _ _ _ b;refine⟨λc g=>?_,?_⟩
   ·by_cases d:c=r+1
    ·subst d;omega
    ·have:=h1 c (by omega);omega
   ·by_cases d:yH N R (a::l) q (r+1)<=eT N R (a::l) (ec (cj N (a::l)) q (r+1)) 20000
    ·exact⟨k,by omega,by rw[h3];omega⟩
    ·exact⟨r+1,by omega,by omega⟩
theorem Kl {L S:Int}{N R:List (List Int)}(b:PV L S N R) {ll:List Int}(c:∀ a∈ll,0<=a/\a<L) {q:Nat}(d:∀ r,ec (cj N ll) q r<N.length):∀ r,0<=yH N R ll q r/\yH N R ll q r<=20001
 | 0=>by simp[yH]
 | r+1=>by
   have h1:=Kl b c d r;show 0<=eT N R ll (ec (cj N ll) q r) (yH N R ll q r)/\_;have h2:=nN N R ll (ec (cj N ll) q r) (yH N R ll q r) 20001 h1.2;have h3:=nN N R ll (ec (cj N ll) q r) 20000 20001 om;have e:=EU b (l:=ll) (m:=20000) (d r) c om om;show 0<=eT N R ll (ec (cj N ll) q r) (yH N R ll q r)/\eT N R ll (ec (cj N ll) q r) (yH N R ll q r)<=20001;omega
theorem OF {L S:Int}{D pr st E:LV}{N R:List (List Int)}{vN vR:List LV}{sl ll:List Int}(d:bN D N vN) (hR:bN pr R vR) (hS:aP st sl) (Q:aP E ll) :
 PO 14 [.agg [.int .i64 L, .int .i64 S,D,pr], .agg [st,E]] (.bool (decide (PV L S N R/\Fm sl ll/\lB sl L/\lB ll L) && wv (cj N ll) (λq=>eT N R ll q 20000) (N.length+1) [] (cj N sl S.toNat))):=by
 have bV:(LV.agg [.int .i64 L, .int .i64 S,D,pr]).closed=true:=by simp[LV.closed,LV.closed.au,d.closed,hR.closed]
 have fA:(LV.agg [st,E]).closed=true:=by simp[LV.closed,LV.closed.au,hS.closed,Q.closed]
 have q5:=d.sl.cell;have wB:=hR.sl.cell;have Vi:=hS.sl.cell;have hc4:=Q.sl.cell;have fH:=d.sl.len;have iK:=hS.sl.len;have wZ:=Q.sl.len;have hslm:=hS.len;have hllm:=Q.len;have hNm:=d.len;have je:=lG;have SB:=vw (L:=L) (S:=S) d hR;have AK:=Hh hS Q L;have U6:=q9;have Xj:((∀ j,j<sl.length->sl.getD j 0<L)/\(∀ j,j<ll.length->ll.getD j 0<L)/\Fm sl ll)↔(Fm sl ll/\lB sl L/\lB ll L):=by
  constructor
  ·rintro⟨h1,h2,h3⟩;obtain⟨-,-,-,h6,h7⟩:=id h3;exact⟨h3,λj C=>⟨(h6 j C).1,h1 j C⟩,λj C=>⟨(h7 j C).1,h2 j C⟩⟩
  ·rintro⟨h3,h1,h2⟩;exact⟨λj C=>(h1 j C).2,λj C=>(h2 j C).2,h3⟩
 refine gO (t:=4) hm Tryz.func14 br c14 bw (by simp[LV.closed.au,bV,fA]) rfl rfl ?_;refine mH λe e0 e1=>?_;unfold l14;dsimp only[jA,jB,jC,qM,qL,qN,qF,qS,qI,qA,qB,qC,qK,qO,qP,qH,qT,qG,qm,ql,qR];have qE:=Bx.mk (And.intro U6 (And.intro Xj AK));clear U6 Xj AK;repeat' (first|refine aH trivial ?_|(first|apply ah|apply af)<;>intro b)
 refine cO ff (SB) (by first | exact wN | (apply wG;(simp only[lk,Nat.reduceEqDiff,reduceIte,e0,e1];(try rfl);done))) ef (λbb b=>⟨by first | trivial | (simp only[dG,aK,bq.run,Env.aB,Env.cp,u6,Nat.reduceEqDiff,Nat.reduceAdd,Nat.reduceLeDiff,reduceIte,bG,iI,List.map,cu,beq_self_eq_true,reduceCtorEq,false_or,true_and,and_true,Option.some.injEq, *];done),?_⟩);simp only[Env.aB];cases bb<;>simp only[decide_eq_true_eq,decide_eq_false_iff_not]at b
 ·have hF:Bx (decide (PV L S N R/\Fm sl ll/\lB sl L/\lB ll L)=false):=⟨decide_eq_false λh=>b h.1⟩;clear b;repeat' (first|refine aH trivial ?_|(first|apply ah|apply af)<;>intro b)
  refine⟨.inr trivial,?_⟩;rw[hF.out];exact ef
 have KF:=Bx.mk b;clear b SB;have AK:=qE.out.2.2;repeat' (first|refine aH trivial ?_|(first|apply ah|apply af)<;>intro b)
 refine cO ff (AK) (by first | exact wN | (apply wG;(simp only[lk,Nat.reduceEqDiff,reduceIte];(try rfl);done))) ef (λbb b=>⟨by first | trivial | (simp only[dG,aK,bq.run,Env.aB,Env.cp,u6,Nat.reduceEqDiff,Nat.reduceAdd,Nat.reduceLeDiff,reduceIte,bG,iI,List.map,cu,beq_self_eq_true,reduceCtorEq,false_or,true_and,and_true,Option.some.injEq, *];done),?_⟩);simp only[Env.aB];cases bb<;>simp only[decide_eq_true_eq,decide_eq_false_iff_not]at b
 ·have hF:Bx (decide (PV L S N R/\Fm sl ll/\lB sl L/\lB ll L)=false):=⟨decide_eq_false λh=>b (qE.out.2.1.2 h.2)⟩;clear b AK;repeat' (first|refine aH trivial ?_|(first|apply ah|apply af)<;>intro b)
  refine⟨.inr trivial,?_⟩;rw[hF.out];exact ef
 have NA:=qE.out.2.1.1 b;clear b AK;have u:=KF.out;have hT:Bx (decide (PV L S N R/\Fm sl ll/\lB sl L/\lB ll L)=true):=⟨decide_eq_true ⟨u,NA⟩⟩;obtain⟨T,U,Xr⟩:=NA;have F:1<=ll.length:=T.2.1;have V:((S.toNat:Nat):Int)=S:=Int.toNat_of_nonneg u.1.2.2.2.2.2.1;have X:S.toNat<N.length:=by have:=u.1.2.2.2.2.2.2;omega
 have hq0:cj N sl S.toNat<N.length:=xm u X U.mem;have xC:∀ y,y<N.length->cj N ll y<N.length:=λy hy=>xm u hy Xr.mem;have BT:∀ i,ec (cj N ll) (cj N sl S.toNat) i<N.length:=λi=>by
  induction i with
  | zero=>exact hq0
  | succ i ih=>exact xC _ ih
 have hNl:N.length<=3000:=u.1.2.2.2.1;have Ak:R.length=N.length:=u.1.2.2.2.2.1;obtain⟨mm,mK,G⟩:=XK (u7:=λq=>eT N R ll q 20000) xC hq0 (N.length+1) 0 om (by simp) BT;have WJ:wv (cj N ll) (λq=>eT N R ll q 20000) (N.length+1) [] (cj N sl S.toNat)=decide (mm.tmod 2=0):=by simpa[ec] using G
 obtain⟨v,⟨BP,Y⟩,nU⟩:=Mf (cyc_ex BT);have Z:=Kr (dV:=cj N ll) (q:=cj N sl S.toNat) N.length;have iO:(yH N R ll (ec (cj N ll) (cj N sl S.toNat) N.length) v)=mm:=by
  obtain⟨x,xs,Gy⟩:∃ x xs,ll=x::xs:=by
   cases Dc:ll with
   | nil=>rw[Dc]at F;simp at F
   | cons x xs=>exact⟨x,xs,rfl⟩
  subst Gy;have hx:=Xr.mem x (by simp);have AQ:∀ r,(R.getD (ec (cj N (x::xs)) (ec (cj N (x::xs)) (cj N sl S.toNat) N.length) r) []).getD x.toNat 0<=20000:=λr=>by
   rw[Z];exact ((u.2 _ (BT _)).2.2 x.toNat om).2.2.2
  obtain⟨s1,k,s2,s3⟩:=EY N R x xs _ AQ v BP;refine Ch.unique (Je (u7:=λq=>eT N R (x::xs) q 20000) Y BP ⟨k,s2,?_⟩ λr hr=>?_) mK
  ·rw[<- Z];exact s3
  ·rw[<- Z];exact s1 r hr
 have Rl:ec (cj N ll) (ec (cj N ll) (cj N sl S.toNat) N.length) v=ec (cj N ll) (cj N sl S.toNat) N.length:=by rw[Z];exact Y
 have uF:∀ k,0<k->k<v->ec (cj N ll) (ec (cj N ll) (cj N sl S.toNat) N.length) k≠ec (cj N ll) (cj N sl S.toNat) N.length:=λk h1 h2 h3=>nU k h2 ⟨h1,by rw[Z]at h3;exact h3⟩;have MB:∀ r,ec (cj N ll) (ec (cj N ll) (cj N sl S.toNat) N.length) r<N.length:=λr=>by rw[Z];exact BT _
 have nS:=Kl u (ll:=ll) Xr.mem MB;have H:Bx ((decide (PV L S N R/\Fm sl ll/\lB sl L/\lB ll L) && wv (cj N ll) (λq=>eT N R ll q 20000) (N.length+1) [] (cj N sl S.toNat))=decide ((yH N R ll (ec (cj N ll) (cj N sl S.toNat) N.length) v).tmod 2=0)):=⟨by rw[hT.out,Bool.true_and,WJ,iO]⟩;rw[H.out];clear mK G WJ Y nU Z iO H hT xC mm;generalize I:cj N sl S.toNat=q0 at *;have w:=Bx.mk (And.intro u (And.intro U (And.intro Xr (And.intro BT (And.intro Rl (And.intro uF (And.intro MB nS)))))));have hfmB:=Bx.mk T;have hq0B:=Bx.mk I;clear u U Xr BT Rl uF MB nS T I;have hrd:∀ (q:Nat) (a:Int),q<N.length->0<=a->a<L->(q:Int)<(N.length:Int)/\a<((N.getD q []).length:Int)/\((DC N q a:Nat):Int)=(N.getD q []).getD a.toNat 0/\DC N q a<N.length/\(q:Int)<(R.length:Int)/\a<((R.getD q []).length:Int)/\0<=(R.getD q []).getD a.toNat 0/\(R.getD q []).getD a.toNat 0<=20000:=λq a h1 h2 h3=>by
  obtain⟨r1,r2,r3⟩:=w.out.1.2 q h1;obtain⟨z,A⟩:=Cn w.out.1 h1 h2 h3;obtain⟨u1,u2,u3,u4⟩:=r3 a.toNat om;exact⟨by omega,by omega,z,A,by omega,by omega,u3,u4⟩
 have Aa:=Bx.mk hrd;clear hrd;rw[<- V]at e0;have hqS:=X;have cB:=Bx.mk V;clear V;repeat' (first|refine aH @iK ?_|(first|apply ah|apply af)<;>intro b)
 refine aN (λm e s=>s=St.empty/\∃ i q:Nat,m=sl.length - i/\i<=sl.length/\q<N.length/\Bx (cj N (sl.drop i) q=q0)/\e.at 2 = .aY [.int .i64 L, .int .i64 S,D,pr] 0/\e.at 3 = .aY [st,E] 0/\e.at 5 = .int .i64 (q:Int)/\e.at 6 = .int .i64 (i:Int)) _
  ⟨rfl,0,S.toNat,rfl,Nat.zero_le _,X,⟨by rw[List.drop_zero];exact hq0B.out⟩,by simp only[lk,dM,Nat.reduceEqDiff,if_false,if_true],ef,by simp only[lk,dM,Nat.reduceEqDiff,if_false,if_true,cB.out],by simp only[lk,dM,Nat.reduceEqDiff,if_false,if_true];rfl⟩ ?_
 clear e0 e1;clear e;rintro m e s ⟨hs,i,q,rfl,hi,hq,f,l,n,B,e6⟩;subst hs;by_cases cy:i<sl.length
 ·have iQ:(i:Int)<(sl.length:Int):=by omega
  have dO:=@bQ i om;have J:sl.drop i=sl.getD i 0::sl.drop (i+1):=by
   rw[List.drop_eq_getElem_cons cy];simp[gD,cy]
  obtain⟨o,x1⟩:=w.out.2.1 i cy;have jR:=bB iQ;have QF:Bx (cj N (sl.drop (i+1)) (DC N q (sl.getD i 0))=q0):=⟨by
   have:=f.out;rw[J]at this;exact this⟩
  generalize sl.getD i 0=x at *;obtain⟨z,A,K,y4,-⟩:=Aa.out q x hq o x1;have C3:=LC d (i:=q) (a:=x) z o A (aZ:=1) (k:=.i64) (s:=St.empty);have M:=nP o A;rw[<- K]at M;have AO:=d.mo z;clear K J f;repeat' (first|refine aH (aj @iK (aj (@cU _ _ _ hS.sl) (aj @jR (aj (@cU _ _ _ d.sl) (aj @AO (aj @C3 (aj @M @dO))))))) ?_|(first|apply ah|apply af)<;>intro b)
  refine⟨sl.length - (i+1),by omega,trivial,i+1,DC N q x,rfl,by omega,y4,QF,?_⟩;simp only[lk,dM,Nat.reduceEqDiff,if_false,if_true,dO,l,n,and_self]
 have Af:i=sl.length:=by omega
 subst Af;have p:q=q0:=by
  have:=f.out;rw[List.drop_length]at this;exact this
 subst p;clear f cy;repeat' (first|refine aG (aj @iK @fH) ?_|(first|apply ah|apply af)<;>intro b)
 refine aN (λm e s=>s=St.empty/\∃ i:Nat,m=N.length - i/\i<=N.length/\e.at 2 = .aY [.int .i64 L, .int .i64 S,D,pr] 0/\e.at 3 = .aY [st,E] 0/\e.at 5 = .int .i64 (ec (cj N ll) q i:Int)/\e.at 7 = .int .i64 (i:Int)) _
  ⟨rfl,0,rfl,Nat.zero_le _,ef,ef,ef,by simp only[lk,Nat.reduceEqDiff,if_false,if_true];rfl⟩ ?_
 clear l n B e6;clear e;rintro m e s ⟨hs,i,rfl,qz,l,n,B,e7⟩;subst hs;by_cases cy:i<N.length
 ·have iQ:(i:Int)<(N.length:Int):=by omega
  have dO:=@bQ i om;repeat' (first|refine aG (aj @fH @wZ) ?_|(first|apply ah|apply af)<;>intro b)
  refine aN (λm e s=>s=St.empty/\∃ k r:Nat,m=ll.length - k/\k<=ll.length/\r<N.length/\Bx (cj N (ll.drop k) r=ec (cj N ll) q (i+1))/\e.at 2 = .aY [.int .i64 L, .int .i64 S,D,pr] 0/\e.at 3 = .aY [st,E] 0/\e.at 5 = .int .i64 (r:Int)/\e.at 7 = .int .i64 (i:Int)/\e.at 8 = .int .i64 (k:Int)) _
   ⟨rfl,0,ec (cj N ll) q i,rfl,Nat.zero_le _,w.out.2.2.2.1 i,⟨rfl⟩,ef,ef,ef,ef,by simp only[lk,Nat.reduceEqDiff,if_false,if_true];rfl⟩ ?_
  clear l n B e7;clear e;rintro m e s ⟨hs,k,r,rfl,hk,hr,f,l,n,B,e7,e8⟩;subst hs;by_cases cG:k<ll.length
  ·have iN:(k:Int)<(ll.length:Int):=by omega
   have cD:=@bQ k om;have J:ll.drop k=ll.getD k 0::ll.drop (k+1):=by
    rw[List.drop_eq_getElem_cons cG];simp[gD,cG]
   obtain⟨o,x1⟩:=w.out.2.2.1 k cG;have jR:=bB iN;have QF:Bx (cj N (ll.drop (k+1)) (DC N r (ll.getD k 0))=ec (cj N ll) q (i+1)):=⟨by
    have:=f.out;rw[J]at this;exact this⟩
   generalize ll.getD k 0=x at *;obtain⟨z,A,K,y4,-⟩:=Aa.out r x hr o x1;have C3:=LC d (i:=r) (a:=x) z o A (aZ:=1) (k:=.i64) (s:=St.empty);have M:=nP o A;rw[<- K]at M;have AO:=d.mo z;clear K J f;repeat' (first|refine aH (aj @wZ (aj (@cU _ _ _ Q.sl) (aj @jR (aj (@cU _ _ _ d.sl) (aj @AO (aj @C3 (aj @M @cD))))))) ?_|(first|apply ah|apply af)<;>intro b)
   refine⟨ll.length - (k+1),by omega,trivial,k+1,DC N r x,rfl,by omega,y4,QF,?_⟩;simp only[lk,dM,Nat.reduceEqDiff,if_false,if_true,cD,l,n,e7,and_self]
  ·have nX:k=ll.length:=by omega
   subst nX;have p:r=ec (cj N ll) q (i+1):=by
    have:=f.out;rw[List.drop_length]at this;exact this
   subst p;clear f;repeat' (first|refine aG @wZ ?_|(first|apply ah|apply af)<;>intro b)
   repeat' (first|refine aG @dO ?_|(first|apply ah|apply af)<;>intro b)
   refine⟨N.length - (i+1),by omega,trivial,i+1,rfl,by omega,?_⟩;simp only[lk,Nat.reduceEqDiff,if_false,if_true,dO,l,n,B,and_self]
 have Af:i=N.length:=by omega
 subst Af;have U6:=qE.out.1;have O:IntKind.i64.wrap (20000+1)=20001:=by decide
 clear cy;repeat' (first|refine aG @fH ?_|(first|apply ah|apply af)<;>intro b)
 refine dx U6 ?_;clear U6;repeat' (first|refine aG @O ?_|(first|apply ah|apply af)<;>intro b)
 have Rl:=w.out.2.2.2.2.1;have uF:=w.out.2.2.2.2.2.1;have MB:=w.out.2.2.2.2.2.2.1;have nS:=w.out.2.2.2.2.2.2.2;generalize ec (cj N ll) q N.length=c at *;have SZ:=Bx.mk (And.intro Rl (And.intro uF (And.intro MB nS)));clear Rl uF MB nS;refine aN (λm e s=>s=St.empty/\∃ r:Nat,m=v - r/\r<=v/\e.at 2 = .aY [.int .i64 L, .int .i64 S,D,pr] 0/\e.at 3 = .aY [st,E] 0/\e.at 5 = .int .i64 (ec (cj N ll) c r:Int)/\e.at 9 = .int .i64 (yH N R ll c r)/\e.at 10 = .int .i64 (c:Int)/\e.at 11 = .bool (decide (r=0∨ec (cj N ll) c r≠c))) _
  ⟨rfl,0,rfl,Nat.zero_le _,ef,ef,ef,by simp only[lk,Nat.reduceEqDiff,if_false,if_true,O];rfl,ef,by simp only[lk,Nat.reduceEqDiff,if_false,if_true];rfl⟩ ?_
 clear l n B e7;clear e;rintro m e s ⟨hs,r,rfl,hr,l,n,B,e9,gW,n6⟩;subst hs;by_cases QE:r<v
 ·have hb:decide (r=0∨ec (cj N ll) c r≠c)=true:=decide_eq_true (by
   rcases Nat.eq_zero_or_pos r with h | h
   ·exact .inl h
   ·exact .inr (SZ.out.2.1 r h QE))
  rw[hb]at n6;clear hb;obtain⟨pe,xE⟩:=SZ.out.2.2.2 r;repeat' (first|refine aG @wZ ?_|(first|apply ah|apply af)<;>intro b)
  refine aN (λm e s=>s=St.empty/\∃ (k g:Nat) (mn:Int),m=ll.length - k/\k<=ll.length/\g<N.length/\(0<=mn/\mn<=20001)/\Bx (cj N (ll.drop k) g=ec (cj N ll) c (r+1)/\eT N R (ll.drop k) g mn=yH N R ll c (r+1))/\e.at 2 = .aY [.int .i64 L, .int .i64 S,D,pr] 0/\e.at 3 = .aY [st,E] 0/\e.at 5 = .int .i64 (g:Int)/\e.at 9 = .int .i64 mn/\e.at 10 = .int .i64 (c:Int)/\e.at 12 = .int .i64 (k:Int)) _
   ⟨rfl,0,ec (cj N ll) c r,yH N R ll c r,rfl,Nat.zero_le _,SZ.out.2.2.1 r,⟨pe,xE⟩,⟨rfl,rfl⟩,ef,ef,ef,ef,ef,by simp only[lk,Nat.reduceEqDiff,if_false,if_true];rfl⟩ ?_
  clear l n B e9 gW n6;clear e;rintro m e s ⟨hs,k,g,mn,rfl,hk,hq2,QO,f,l,n,B,e9,gW,AW⟩;subst hs;by_cases cG:k<ll.length
  ·have iN:(k:Int)<(ll.length:Int):=by omega
   have cD:=@bQ k om;have J:ll.drop k=ll.getD k 0::ll.drop (k+1):=by
    rw[List.drop_eq_getElem_cons cG];simp[gD,cG]
   obtain⟨o,x1⟩:=w.out.2.2.1 k cG;have jR:=bB iN;have QF:Bx (cj N (ll.drop (k+1)) (DC N g (ll.getD k 0))=ec (cj N ll) c (r+1)/\eT N R (ll.drop (k+1)) (DC N g (ll.getD k 0)) (min mn ((R.getD g []).getD (ll.getD k 0).toNat 0))=yH N R ll c (r+1)):=⟨by
    have:=f.out;rw[J]at this;exact this⟩
   generalize ll.getD k 0=x at *;obtain⟨z,A,K,y4,y5,y6,y7,y8⟩:=Aa.out g x hq2 o x1;have C3:=LC d (i:=g) (a:=x) z o A (aZ:=1) (k:=.i64) (s:=St.empty);have M:=nP o A;rw[<- K]at M;have AO:=d.mo z;have hria2:=LC hR (i:=g) (a:=x) y5 o y6 (aZ:=1) (k:=.i64) (s:=St.empty);have higa2:=nP o y6;have hgi2:=hR.mo y5;generalize (R.getD g []).getD x.toNat 0=pv at *;clear K J f;repeat' (first|refine aH (aj @wZ (aj (@cU _ _ _ Q.sl) (aj @jR (aj (@cU _ _ _ d.sl) (aj @AO (aj @C3 (aj @M (aj (@cU _ _ _ hR.sl) (aj @hgi2 (aj @hria2 (aj @higa2 @cD))))))))))) ?_|(first|apply ah|apply af)<;>intro b)
   refine⟨ll.length - (k+1),by omega,trivial,k+1,DC N g x,min mn pv,rfl,by omega,y4,⟨by omega,by omega⟩,QF,?_⟩;simp only[lk,dM,Nat.reduceEqDiff,if_false,if_true,cD,l,n,gW,and_self]
  ·have nX:k=ll.length:=by omega
   subst nX;have p:=f.out;rw[List.drop_length]at p;obtain⟨QI,P⟩:=p;have hq1':g=ec (cj N ll) c (r+1):=QI;have hq2'':mn=yH N R ll c (r+1):=P;subst hq1' hq2'';clear f QI P;repeat' (first|refine aH @wZ ?_|(first|apply ah|apply af)<;>intro b)
   all_goals
    refine⟨v - (r+1),by omega,trivial,r+1,rfl,by omega,?_⟩;simp only[lk,Nat.reduceEqDiff,if_false,if_true,l,n,B,e9,gW,true_and];first
     | (have h:ec (cj N ll) c (r+1)=c:=by omega
        simp[h])
     | (have h:ec (cj N ll) c (r+1)≠c:=by omega
        simp[h])
 ·have WU:r=v:=by omega
  subst WU;have hb:decide (r=0∨ec (cj N ll) c r≠c)=false:=decide_eq_false (by
   rw[SZ.out.1];intro h;rcases h with h | h
   ·omega
   ·exact h rfl)
  rw[hb]at n6;clear hb;obtain⟨pe,xE⟩:=SZ.out.2.2.2 r;generalize yH N R ll c r=mn at *;repeat' (first|refine aH trivial ?_|(first|apply ah|apply af)<;>intro b)
  all_goals
   refine⟨.inr trivial,?_⟩;simp only[lk,Nat.reduceEqDiff,if_false,if_true];first | exact gK b | exact cg b
end Go.Proofs.YtkbiecjdcjfhaaaGreat
end
