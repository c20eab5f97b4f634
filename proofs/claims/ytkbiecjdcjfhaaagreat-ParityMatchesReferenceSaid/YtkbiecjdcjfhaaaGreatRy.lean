/- The complement, the document's and the program's, of any automaton. -/
import Derived.Test.YtkbiecjdcjfhaaaGreatRv
import Derived.Test.YtkbiecjdcjfhaaaGreatRt
import Derived.Test.YtkbiecjdcjfhaaaGreatWoa
set_option linter.unusedSimpArgs false
set_option linter.unusedVariables false
set_option maxRecDepth 100000
set_option maxHeartbeats 16000000
section
namespace Go.Proofs.YtkbiecjdcjfhaaaGreat
open Go Go.Pv Go.pR
open Classical
theorem FV.agg4 {T:Nat->Prop}{d:Nat}{s:St}{a b c e f g rc re:LV}(h:FV T d s a f) (j:FV T d s b g) (k:FV T d s c rc) (l:FV T d s e re):FV T (d+1) s (.agg [a,b,c,e]) (.agg [f,g,rc,re]):=by
 by_cases m:(LV.agg [a,b,c,e]).closed=true
 ·have h1:a.closed=true/\b.closed=true/\c.closed=true/\e.closed=true:=by simpa[LV.closed,LV.closed.au,and_assoc] using m
  rw[h.of_closed h1.1,j.of_closed h1.2.1,k.of_closed h1.2.2.1,l.of_closed h1.2.2.2];exact FV.shut m
 ·refine .inr (.inr (.inr (.inl ⟨[a,b,c,e],[f,g,rc,re],rfl,by simpa using m,rfl,rfl,by simp[LV.closed.au,h.closed,j.closed,k.closed,l.closed],λi n=>?_⟩)));match i,n with
  | 0,_=>exact h
  | 1,_=>exact j
  | 2,_=>exact k
  | 3,_=>exact l
theorem eH.fv {s:St}{v:LV}{f:Nat->List Int}{n:Nat}(h:eH s v f n) (k:n<=100000):∃ r R,FV (λ_=>True) 1 s v r/\bN r ((List.range n).map f) R:=by
 obtain⟨R,b,c,e⟩:=h;obtain⟨r,g,j⟩:=FV.row (T:=λ_=>True) (d:=0) b c (λ_ _=>trivial);have l:=lG;have hl:R.length=n:=by have:=b.1;omega
 refine⟨r,R,g,by simpa using j,by simp[hl],by simp;omega,λi a=>?_⟩;simp only[List.length_map,List.length_range]at a;rw[zu a];exact e i a
theorem oC {f:List Int->List Int}(R:List (List Int)):(List.range R.length).map (λi=>f (R.getD i []))=R.map f:=by
 apply List.ext_getElem
 ·simp
 ·intro i h1 h2;simp[gD,(by simpa using h1:i<R.length)]
theorem HS {l:List Int}{k:Nat}(h:k<l.length):l.getD k 0∈l:=by
 rw[gD,gE h];exact List.getElem_mem h
def inc (l:List Int):List Int:=l.map λx=>x+1
theorem Qo {l:List Int}{k:Nat}(h:k<l.length):inc (l.take (k+1))=inc (l.take k)++[l.getD k 0+1]:=by
 unfold inc;rw[G6 h,List.map_append];rfl
theorem Lu {L S:Int}{f pr:LV}{N R:List (List Int)}{vN vR:List LV}(V:bN f N vN) (p:bN pr R vR) (Ak:R.length<=3000) (D:∀ i,i<R.length->(R.getD i []).length<=64/\∀ x∈R.getD i [],0<=x/\x<=20000) :
 PE 39 [.agg [.int .i64 L, .int .i64 S,f,pr], .int .i64 1] (λr=>∃ X9 X,r = .agg [.int .i64 L, .int .i64 S,f,X9]/\bN X9 (R.map inc) X):=by
 have bV:(LV.agg [.int .i64 L, .int .i64 S,f,pr]).closed=true:=by simp[LV.closed,LV.closed.au,V.closed,p.closed]
 have q5:=V.sl.cell;have wB:=p.sl.cell;have I:=p.sl.len;have mD:=V.closed;have je:=lG;refine dS Tryz.func39 br c39 bw (by simp[LV.closed.au,LV.closed,mD,p.closed]) ?_;refine mH λe e0 A=>?_;have ij:∀ (e:Env) (s:St) (c:List LV),e.at 4 = .aO 0 0->s.get 0=some (.cells .mut c)->c.length=4->aW l39.results e s=some (.agg c):=λe s c h1 h2 h3=>by
  match c,h3,h2 with
  | [c1,c2,c3,c4],_,h2=>simp[l39,aW,bD,h1,h2,bG]
 have Y:=Bx.mk ij;clear ij;have KC:=Bx.mk D;clear D;unfold l39 at Y ⊢;dsimp only[jA,jG,qN,qF,qS,qI,qA,qB,qC,qO,qJ,qX,qm,ql,qR]at Y ⊢;repeat' (first|refine aG @bV ?_|(first|apply ah|apply af)<;>intro C)
 have J:Bx (((((St.empty.new (.cells .mut [.int .i64 0, .int .i64 0, .aq, .aq])).new (.cells .mut [.int .i64 0, .int .i64 0, .aq, .aq])).put 1 (.cells .mut [.int .i64 L, .int .i64 S,f,pr])).put 1 (.cells .mut [.int .i64 L, .int .i64 S,f, .aq])).get 0=some (.cells .mut [.int .i64 0, .int .i64 0, .aq, .aq])/\((((St.empty.new (.cells .mut [.int .i64 0, .int .i64 0, .aq, .aq])).new (.cells .mut [.int .i64 0, .int .i64 0, .aq, .aq])).put 1 (.cells .mut [.int .i64 L, .int .i64 S,f,pr])).put 1 (.cells .mut [.int .i64 L, .int .i64 S,f, .aq])).get 1=some (.cells .mut [.int .i64 L, .int .i64 S,f, .aq])/\1<((((St.empty.new (.cells .mut [.int .i64 0, .int .i64 0, .aq, .aq])).new (.cells .mut [.int .i64 0, .int .i64 0, .aq, .aq])).put 1 (.cells .mut [.int .i64 L, .int .i64 S,f,pr])).put 1 (.cells .mut [.int .i64 L, .int .i64 S,f, .aq])).n):=⟨by
  refine⟨?_,by rw[St.az,if_pos rfl],by simp[bJ]⟩;rw[St.az,if_neg om,St.az,if_neg om,St.aA,if_neg (by simp[bJ]),St.aA,if_pos (by simp[bJ])]⟩
 generalize (((St.empty.new (.cells .mut [.int .i64 0, .int .i64 0, .aq, .aq])).new (.cells .mut [.int .i64 0, .int .i64 0, .aq, .aq])).put 1 (.cells .mut [.int .i64 L, .int .i64 S,f,pr])).put 1 (.cells .mut [.int .i64 L, .int .i64 S,f, .aq])=s0 at *;refine aN (λm e s=>∃ (i:Nat) (v:LV),m=R.length - i/\i<=R.length/\Bx (s.get 0=some (.cells .mut [.int .i64 0, .int .i64 0, .aq, .aq])/\s.get 1=some (.cells .mut [.int .i64 L, .int .i64 S,f,v])/\1<s.n/\eH s v (λi=>inc (R.getD i [])) i/\∀ id,aQ v id->1<id)/\e.at 1 = .int .i64 1/\e.at 2 = .aY [.int .i64 L, .int .i64 S,f,pr] 0/\e.at 4 = .aO 0 0/\e.at 5 = .aO 1 0/\e.at 6 = .int .i64 (i:Int)) _
  ⟨0, .aq,rfl,Nat.zero_le _,⟨⟨J.out.1,J.out.2.1,J.out.2.2,⟨[],ek.nil _ _,rfl,λj hj=>by omega⟩,λid g=>absurd g (bE id)⟩⟩,by simp only[lk,Nat.reduceEqDiff,if_false];exact A,ef,ef,ef,by simp only[lk,Nat.reduceEqDiff,if_false,if_true];rfl⟩ ?_
 clear e0 A J;clear e s0;rintro m e s ⟨i,v,rfl,hi,hB,A,K,M,O,Z⟩;by_cases cy:i<R.length
 ·have iQ:(i:Int)<(R.length:Int):=by omega
  have dO:=@bQ i om;have FM:=p.mo iQ;have C2:=p.wU iQ;have D:=p.row i cy;have hrwm:=D.len;have tS:=hB.out.2.2.1;obtain⟨hl64,nS⟩:=KC.out i cy;have WT:=Bx.mk nS;clear nS;repeat' (first|refine aG @I ?_|(first|apply ah|apply af)<;>intro C)
  refine aN (λm e q=>∃ (k:Nat) (w:LV),m=(R.getD i []).length - k/\k<=(R.getD i []).length/\Bx (Sx q w (ints (inc ((R.getD i []).take k))) k/\(∀ id,aQ w id->s.n<=id)/\s.n<=q.n/\∀ id,id<s.n->q.get id=s.get id)/\e.at 1 = .int .i64 1/\e.at 2 = .aY [.int .i64 L, .int .i64 S,f,pr] 0/\e.at 4 = .aO 0 0/\e.at 5 = .aO 1 0/\e.at 6 = .int .i64 (i:Int)/\e.at 7=w/\e.at 8 = .int .i64 (k:Int)) _
   ⟨0, .aq,rfl,Nat.zero_le _,⟨⟨Sx.nil _,λid g=>absurd g (bE id),Nat.le_refl _,λ_ _=>rfl⟩⟩,ef,ef,ef,ef,ef,ef,by simp only[lk,Nat.reduceEqDiff,if_false,if_true];rfl⟩ ?_
  clear A K M O Z;clear e;rintro m e q ⟨k,w,rfl,hk,hC,A,K,M,O,Z,e7,e8⟩;by_cases cG:k<(R.getD i []).length
  ·have iN:(k:Int)<((R.getD i []).length:Int):=by omega
   have cD:=@bQ k om;have jR:=bB iN;have C3:=cU D.sl iN (aZ:=1) (k:=.i64) (s:=q);have WI:0<=(R.getD i []).getD k 0/\(R.getD i []).getD k 0<=20000:=WT.out _ (HS cG);have hwx:IntKind.i64.wrap ((R.getD i []).getD k 0+1)=(R.getD i []).getD k 0+1:=wrap_i64 _ om om;have BT:Bx (inc ((R.getD i []).take (k+1))=inc ((R.getD i []).take k)++[(R.getD i []).getD k 0+1]):=⟨Qo cG⟩;have t:=hC.out.1;clear WI;generalize (R.getD i []).getD k 0=x at *;repeat' (first|refine aG (aj @I (aj @C2 (aj (@cU _ _ _ p.sl) (aj @FM (aj @C3 (aj @jR @hwx)))))) ?_|(first|apply ah|apply af)<;>intro C)
   refine nK (v:=x+1) (yv:=w) ef ef t (by unfold big;omega) (λo r4 k1 k2 k3 k4=>?_);have hD:Bx (Sx o r4 (ints (inc ((R.getD i []).take (k+1)))) (k+1)/\(∀ id,aQ r4 id->s.n<=id)/\s.n<=o.n/\∀ id,id<s.n->o.get id=s.get id):=⟨by
    obtain⟨h1,h2,h3,h4⟩:=hC.out;refine⟨?_,λid g=>by have:=k4 id g;omega,by omega,λid E=>?_⟩
    ·rw[BT.out];unfold ints at k1 ⊢;rw[List.map_append];exact k1
    ·rw[k3 id om (λg=>by have:=h2 id g;omega)];exact h4 id E⟩
   clear k1 k3 k4 t;repeat' (first|refine aG @cD ?_|(first|apply ah|apply af)<;>intro C)
   refine⟨(R.getD i []).length - (k+1),by omega,k+1,r4,rfl,by omega,hD,?_⟩;simp only[lk,dM,Nat.reduceEqDiff,if_false,if_true,cD,A,K,M,O,Z,and_self]
  ·have nX:k=(R.getD i []).length:=by omega
   obtain⟨t,P,o9,Q⟩:=hC.out;rw[nX,List.take_length,<- nX]at t;obtain⟨h0,h1,-,⟨Rr,u,vi,qu⟩,l⟩:=hB.out;have kH:∀ y∈inc (R.getD i []),bU y:=λy hy=>by
    unfold inc at hy;obtain⟨a,ha,rfl⟩:=List.mem_map.1 hy;have:=WT.out a ha;constructor<;>omega
   obtain⟨r1,sB,Q6,C4,GI,Fx⟩:=kK (Sx.mono (s':=q.new (.cells .mut [w])) t (by simp) λid g=>by have:=Sx.lt t g;rw[St.aA,if_neg om]) om kH;have jQ:=λid (g:aQ v id)=>u.lt g;have F:=ek.mono (s':=q) u o9 λid g=>Q id (jQ id g);have lI:q.get 1=some (.cells .mut [.int .i64 L, .int .i64 S,f,v]):=(Q 1 tS).trans h1;have hcw:=Sx.I9 t;have hvc:=u.cell;have U:=Bx.mk (And.intro C4 (And.intro vi (And.intro qu (And.intro ((Q 0 om).trans h0) (And.intro P l)))));have hlr:=u.1;have G:∀ id,aQ v id->¬ aQ w id:=λid h1 h2=>by have:=jQ id h1;have:=P id h2;omega
   have H:∀ id,id<=1->¬ aQ v id/\¬ aQ w id:=λid E=>⟨λh=>by have:=l id h;omega,λh=>by have:=P id h;omega⟩;clear t P Q h0 h1 u vi qu l kH C4;repeat' (first|refine aG (aj @I (aj @C2 (aj (@cU _ _ _ p.sl) (aj @FM @lI)))) ?_|(first|apply ah|apply af)<;>intro C)
   refine yh (T:=aQ w) (n:=i) (aZ:=1) (xv:=w) (yv:=v) (vs:=[w]) (vs':=[r1]) (cells:=Rr) ef hcw rfl rfl (xM Q6) rfl (by rw[GI];simp) (λid E g=>by rw[Fx id g,St.aA,if_neg om]) ef F G (by decide) om (λo B a1 a4 a5 a6=>?_);have ZK:o.get 1=some (.cells .mut [.int .i64 L, .int .i64 S,f,v]):=(a6 1 om (H 1 om).1 (H 1 om).2).trans lI;have ZL:o.get 0=some (.cells .mut [.int .i64 0, .int .i64 0, .aq, .aq]):=(a6 0 om (H 0 om).1 (H 0 om).2).trans U.out.2.2.2.1;have hE:Bx ((o.put 1 (.cells .mut [.int .i64 L, .int .i64 S,f, .aE B 0 (i+1) 1])).get 0=some (.cells .mut [.int .i64 0, .int .i64 0, .aq, .aq])/\(o.put 1 (.cells .mut [.int .i64 L, .int .i64 S,f, .aE B 0 (i+1) 1])).get 1=some (.cells .mut [.int .i64 L, .int .i64 S,f, .aE B 0 (i+1) 1])/\1<(o.put 1 (.cells .mut [.int .i64 L, .int .i64 S,f, .aE B 0 (i+1) 1])).n/\eH (o.put 1 (.cells .mut [.int .i64 L, .int .i64 S,f, .aE B 0 (i+1) 1])) (.aE B 0 (i+1) 1) (λi=>inc (R.getD i [])) (i+1)/\∀ id,aQ (.aE B 0 (i+1) 1) id->1<id):=⟨by
    refine⟨by rw[St.az,if_neg om];exact ZL,by rw[St.az,if_pos rfl],by rw[St.eo];omega,?_,λid g=>by have:=aI.1 g;omega⟩;refine eH.app U.out.2.1 U.out.2.2.1 om U.out.1 (ek.mono a4 (by rw[St.eo];omega) λid g=>?_);have E:=aI.1 g;subst E;rw[St.az,if_neg om]⟩
   clear lI F Q6 Fx a4 a6 H G hlr;repeat' (first|refine aG (aj @ZK @dO) ?_|(first|apply ah|apply af)<;>intro C)
   refine⟨R.length - (i+1),by omega,i+1,_,rfl,by omega,hE,?_⟩;simp only[lk,Nat.reduceEqDiff,if_false,if_true,dO,A,K,M,O,and_self]
 ·have Af:i=R.length:=by omega
  obtain⟨h0,h1,tS,yR,l⟩:=hB.out;have z:=Bx.mk (And.intro yR l);obtain⟨Rr,u,-⟩:=yR;have hvc:=u.cell;clear u l hB;repeat' (first|refine aH (aj @I (aj @h1 @h0)) ?_|(first|apply ah|apply af)<;>intro C)
  obtain⟨r,Rf,hf,KB⟩:=(eH.mono (s':=s.put 0 (.cells .mut [.int .i64 L, .int .i64 S,f,v])) z.out.1 (by rw[St.eo];omega) λid g=>by have:=z.out.2 id g;rw[St.az,if_neg om]).fv om;have Xh:=FV.agg4 (d:=1) (a:=.int .i64 L) (b:=.int .i64 S) (c:=f) (FV.shut rfl) (FV.shut rfl) (FV.shut mD) hf;obtain⟨s2,BV,-⟩:=rS (by decide) Xh;rw[Af,oC]at KB;exact⟨.inr trivial,_,Y.out _ _ _ ef (by rw[St.az,if_pos rfl]) rfl,_,s2,BV,Xh.closed,r,Rf,rfl,KB⟩
def xT (R:List (List Int)):Prop:=∀ i,i<R.length->∀ k,k<(R.getD i []).length->(R.getD i []).getD k 0<=19999
def Sw (L S:Int) (N R:List (List Int)) (r:LV):Prop:=(PV L S N R/\xT R/\∃ a d b c,r = .agg [.int .i64 L, .int .i64 S,a,d]/\bN a N b/\bN d (R.map inc) c)∨(¬ (PV L S N R/\xT R)/\r = .agg [.int .i64 0, .int .i64 0, .aq, .aq])
theorem RG {R:List (List Int)}{g:Int}(h:Nr R g):xT R↔g<20000:=by
 obtain⟨h1,h2,h3⟩:=h;constructor
 ·intro c;rcases h3 with h3 | ⟨i,a,k,b,h3⟩
  ·omega
  ·have:=c i a k b;omega
 ·intro d i a k b;have:=h2 i a k b;omega
theorem Ki {l:List Int}{x:Int}(h:x∈l):∃ k,k<l.length/\l.getD k 0=x:=by
 obtain⟨k,a,rfl⟩:=List.mem_iff_getElem.1 h;exact⟨k,a,by rw[gD,gE a];rfl⟩
theorem X4 {L S:Int}{N R:List (List Int)}(h:PV L S N R) (i:Nat) (b:i<R.length):(R.getD i []).length<=64/\∀ x∈R.getD i [],0<=x/\x<=20000:=by
 obtain⟨⟨h1,h2,h3,c,d,-⟩,h6⟩:=h;obtain⟨e,f,a⟩:=h6 i om;refine⟨by omega,λx hx=>?_⟩;obtain⟨k,g,rfl⟩:=Ki hx;have:=a k om;exact⟨this.2.2.1,this.2.2.2⟩
theorem TA {L S:Int}{l pr:LV}{N R:List (List Int)}{v A:List LV}(d:bN l N v) (i:bN pr R A):PE 16 [.agg [.int .i64 L, .int .i64 S,l,pr]] (Sw L S N R):=by
 have a:(LV.agg [.int .i64 L, .int .i64 S,l,pr]).closed=true:=by simp[LV.closed,LV.closed.au,d.closed,i.closed]
 have E:=d.sl.cell;have F:=i.sl.cell;have m:=vw (L:=L) (S:=S) d i;have B:=LD (L:=L) (S:=S) d i;have o:=q9;refine dS Tryz.func16 br c16 bw (by simp[LV.closed.au,a]) ?_;refine pg λe G=>?_;have w:∀ (e:Env) (s:St) (c:List LV),e.at 2 = .aO 0 0->s.get 0=some (.cells .mut c)->c.length=4->aW l16.results e s=some (.agg c):=λe s c h1 h2 h3=>by
  match c,h3,h2 with
  | [c1,c2,c3,c4],_,h2=>simp[l16,aW,bD,h1,h2,bG]
 have j:=Bx.mk w;clear w;unfold l16 at j ⊢;dsimp only[jA,jC,jG,qN,qO,qP,qT,qG,qm,qR]at j ⊢;by_cases f:PV L S N R
 ·rw[decide_eq_true f]at m;have k:=Bx.mk f;clear f;repeat' (first|refine aH @a ?_|(first|apply ah|apply af)<;>intro b)
  have n:(St.empty.new (.cells .mut [.int .i64 0, .int .i64 0, .aq, .aq])).get 0=some (.cells .mut [.int .i64 0, .int .i64 0, .aq, .aq]):=by simp[bJ]
  generalize St.empty.new (.cells .mut [.int .i64 0, .int .i64 0, .aq, .aq])=C at *;refine dx m ?_;repeat' (first|refine aH @a ?_|(first|apply ah|apply af)<;>intro b)
  refine cK ff B (by simp[aK]) ef λr p q=>⟨trivial,?_⟩;obtain⟨g,rfl,x⟩:=p;simp only[Env.aB];refine tq ff o (by simp[aK]) ef trivial ?_;simp only[Env.aB];by_cases y:g<20000
  ·have t:¬ (20000:Int)<=g:=by omega
   repeat' (first|refine aH @a ?_|(first|apply ah|apply af)<;>intro b)
   refine cK ff (Lu (L:=L) (S:=S) d i (by have:=k.out.1;omega) (X4 k.out)) wN ef λr p q=>⟨trivial,?_⟩;obtain⟨D,u,rfl,z⟩:=p;simp only[Env.aB];have H:=z.sl.cell;repeat' (first|refine aH (aj @a @n) ?_|(first|apply ah|apply af)<;>intro b)
   exact⟨.inr trivial,_,j.out _ _ _ ef (by rw[St.az,if_pos rfl]) rfl,_,_,bk q,q, .inl ⟨k.out,(RG x).2 y,l,D,v,u,rfl,d,z⟩⟩
  ·have t:(20000:Int)<=g:=by omega
   repeat' (first|refine aH @a ?_|(first|apply ah|apply af)<;>intro b)
   refine cC (vs:=[.int .i64 0, .int .i64 0, .aq, .aq]) wN (by
    simp only[bt,List.map,List.map];simp[aU]) ?_
   repeat' (first|refine aH @n ?_|(first|apply ah|apply af)<;>intro b)
   exact⟨.inr trivial,_,j.out _ _ _ ef (by rw[St.az,if_pos rfl]) rfl,_,_,bk rfl,rfl, .inr ⟨λh=>y ((RG x).1 h.2),rfl⟩⟩
 ·rw[decide_eq_false f]at m;have k:=Bx.mk f;clear f;repeat' (first|refine aH @a ?_|(first|apply ah|apply af)<;>intro b)
  have n:(St.empty.new (.cells .mut [.int .i64 0, .int .i64 0, .aq, .aq])).get 0=some (.cells .mut [.int .i64 0, .int .i64 0, .aq, .aq]):=by simp[bJ]
  generalize St.empty.new (.cells .mut [.int .i64 0, .int .i64 0, .aq, .aq])=C at *;refine dx m ?_;repeat' (first|refine aH @a ?_|(first|apply ah|apply af)<;>intro b)
  refine cC (vs:=[.int .i64 0, .int .i64 0, .aq, .aq]) wN (by
   simp only[bt,List.map,List.map];simp[aU]) ?_
  repeat' (first|refine aH @n ?_|(first|apply ah|apply af)<;>intro b)
  exact⟨.inr trivial,_,j.out _ _ _ ef (by rw[St.az,if_pos rfl]) rfl,_,_,bk rfl,rfl, .inr ⟨λh=>k.out h.1,rfl⟩⟩
theorem M9 {v:LV}{l:List Int}(a:aP v l) (hl:1<=l.length) (f:l.length<=64) {s:St} : aM Tryz.prog GL (.fn (.func 37) [] []) [v] s
 (λr s'=>∃ j,r = .aE j 0 l.length 1/\s.n<=j/\j<s'.n/\s'.get j=some (.cells .mut (ints l))/\∀ id,id<s.n->s'.get id=s.get id):=by
 have b:=a.sl.pos om;subst b;refine bM (first:=[]) (caps:=[]) Tryz.func37 br c37 bw (aX.mono (Q:=λo e s'=>(o = .normal∨o = .jmp .ret)/\∃ j,e.at 2 = .aE j 0 l.length 1/\s.n<=j/\j<s'.n/\s'.get j=some (.cells .mut (ints l))/\∀ id,id<s.n->s'.get id=s.get id) ?_ λo e s' c=>by
  obtain⟨h1,j,h2,h3⟩:=c;exact⟨h1,_,by simp[l37,aW,bD,h2],j,rfl,h3⟩)
 refine Cd.out (pg λe h0=>?_);unfold l37;dsimp only[jA,qJ,qX,qm,qR];repeat' (first|refine aV trivial ?_|(first|apply ah|apply af)<;>intro d)
 refine eD wN (xv:=.aE s.n 0 0 1) (yv:=.aF (ints l) l.length) ef ef rfl (yc (by simp)) (gw (bI l))
  (sZ (cs:=[]) (by rw[St.aA,if_pos rfl]) rfl (by simp) (by decide) om) ?_
 repeat' (first|refine aV trivial ?_|(first|apply ah|apply af)<;>intro d)
 refine⟨.inr trivial,s.n+1,?_,by omega,by simp,?_,λid g=>?_⟩
 ·simp only[lk,dM,Nat.reduceEqDiff,if_false,if_true,St.fW]
 ·rw[St.aA,St.eo,St.fW,if_pos rfl];rfl
 ·rw[St.aA,St.eo,St.fW,if_neg om,St.az,if_neg om,St.aA,if_neg om]
def part (l:List Int) (k:Nat):List Int:=(l.take k).map (λx=>x+1)++l.drop k
theorem Pn {l:List Int}{k:Nat} : (part l k).length=l.length:=by simp[part];omega
theorem EK {l:List Int}{k:Nat}(a:k<l.length):(part l k)[k]? = some (l.getD k 0):=by
 have hl:((l.take k).map (λx=>x+1)).length=k:=by simp;omega
 rw[part,List.getElem?_append_right om,hl,Nat.sub_self,List.getElem?_drop,Nat.add_zero,gE a,gD,gE a];rfl
theorem Pm {l:List Int}{k:Nat}(a:k<l.length):(part l k).set k (l.getD k 0+1)=part l (k+1):=by
 have hl:((l.take k).map (λx=>x+1)).length=k:=by simp;omega
 have b:l.drop k=l.getD k 0::l.drop (k+1):=by
  rw[List.drop_eq_getElem_cons a];simp[gD,a]
 have c:l.take (k+1)=l.take k++[l.getD k 0]:=by
  rw[List.take_add_one,gE a];simp[gD,a]
 rw[part,part,List.set_append_right _ _ om,hl,Nat.sub_self,b,List.set_cons_zero,c,List.map_append,List.append_assoc];rfl
theorem Po (l:List Int):part l l.length=inc l:=by simp[part,inc]
structure NO (L S:Int) (N R:List (List Int)) (i:Nat) (s:St) (v1 v2:LV):Prop where
  g0:s.get 0=some (.cells .mut [.int .i64 0, .int .i64 0, .aq, .aq])
  g1:s.get 1=some (.cells .mut [.int .i64 L, .int .i64 S,v1,v2])
  n1:1<s.n
  r1:eH s v1 (λj=>N.getD j []) i
  r2:eH s v2 (λj=>inc (R.getD j [])) i
  u1:∀ id,aQ v1 id->1<id/\¬ aQ v2 id
  u2:∀ id,aQ v2 id->1<id
  ok:∀ j,j<i->∀ k,k<(R.getD j []).length->(R.getD j []).getD k 0<=19999
theorem TV {L S:Int}{J pr:LV}{N R:List (List Int)}{vN vR:List LV}(K:bN J N vN) (V:bN pr R vR):PE 15 [.agg [.int .i64 L, .int .i64 S,J,pr]] (Sw L S N R):=by
 have M:(LV.agg [.int .i64 L, .int .i64 S,J,pr]).closed=true:=by simp[LV.closed,LV.closed.au,K.closed,V.closed]
 have q5:=K.sl.cell;have wB:=V.sl.cell;have fH:=K.sl.len;have je:=lG;have dy:=vB (L:=L) (S:=S) K V;refine dS Tryz.func15 br c15 bw (by simp[LV.closed.au,M]) ?_;refine pg λe e0=>?_;have ij:∀ (e:Env) (s:St) (c:List LV),e.at 2 = .aO 0 0->s.get 0=some (.cells .mut c)->c.length=4->aW l15.results e s=some (.agg c):=λe s c h1 h2 h3=>by
  match c,h3,h2 with
  | [c1,c2,c3,c4],_,h2=>simp[l15,aW,bD,h1,h2,bG]
 have iL:=Bx.mk ij;clear ij;unfold l15 at iL ⊢;dsimp only[jA,jB,jG,jH,qM,qL,qN,qF,qS,qI,qA,qB,qC,qO,qU,qJ,qT,qG,qm,ql,qR]at iL ⊢;repeat' (first|refine aH @M ?_|(first|apply ah|apply af)<;>intro l)
 have Dk:(St.empty.new (.cells .mut [.int .i64 0, .int .i64 0, .aq, .aq])).get 0=some (.cells .mut [.int .i64 0, .int .i64 0, .aq, .aq]):=by simp[bJ]
 have jd:(St.empty.new (.cells .mut [.int .i64 0, .int .i64 0, .aq, .aq])).n=1:=by simp[bJ]
 generalize St.empty.new (.cells .mut [.int .i64 0, .int .i64 0, .aq, .aq])=s0 at *;refine cO ff (dy) (by first | exact wN | (apply wG;(simp only[lk,Nat.reduceEqDiff,reduceIte,e0];(try rfl);done))) ef (λbb l=>⟨by first | trivial | (simp only[dG,aK,bq.run,Env.aB,Env.cp,u6,Nat.reduceEqDiff,Nat.reduceAdd,Nat.reduceLeDiff,reduceIte,bG,iI,List.map,cu,beq_self_eq_true,reduceCtorEq,false_or,true_and,and_true,Option.some.injEq, *];done),?_⟩);simp only[Env.aB];cases bb<;>simp only[decide_eq_true_eq,decide_eq_false_iff_not]at l
 ·have hF:Bx (Sw L S N R (.agg [.int .i64 0, .int .i64 0, .aq, .aq])):=⟨.inr ⟨λh=>l h.1,rfl⟩⟩;clear l;repeat' (first|refine aH @M ?_|(first|apply ah|apply af)<;>intro l)
  refine cC (vs:=[.int .i64 0, .int .i64 0, .aq, .aq]) wN (by
   simp only[bt,List.map,List.map];simp[aU]) ?_
  repeat' (first|refine aH (aj @M @Dk) ?_|(first|apply ah|apply af)<;>intro l)
  exact⟨.inr trivial,_,iL.out _ _ _ ef (by rw[St.az,if_pos rfl]) rfl,_,_,bk rfl,rfl,hF.out⟩
 have hp:=l;have KF:=Bx.mk l;clear l dy;obtain⟨⟨hL1,hL2,hN1,hN2,Ak,mE,pO⟩,C1⟩:=hp;have hrwB:=Bx.mk C1;have G:=Bx.mk Ak;clear C1 Ak;repeat' (first|refine aG @M ?_|(first|apply ah|apply af)<;>intro l)
 repeat' (first|refine aG @M ?_|(first|apply ah|apply af)<;>intro l)
 refine cC (vs:=[.int .i64 L, .int .i64 S, .aq, .aq]) wN (by
  simp only[bt,List.map,lk,dM,Nat.reduceEqDiff,if_false,if_true,List.map];simp[aU,fq,splice]) ?_
 repeat' (first|refine aG (aj @M (aj @fH @jd)) ?_|(first|apply ah|apply af)<;>intro l)
 have w:Bx (NO L S N R 0 ((s0.new (.cells .mut [.int .i64 0, .int .i64 0, .aq, .aq])).put 1 (.cells .mut [.int .i64 L, .int .i64 S, .aq, .aq])) .aq .aq):=⟨by
  refine⟨?_,by rw[St.az,if_pos rfl],by simp[jd],⟨[],ek.nil _ _,rfl,λj hj=>by omega⟩,⟨[],ek.nil _ _,rfl,λj hj=>by omega⟩,λid g=>absurd g (bE id),λid g=>absurd g (bE id),λk B=>by omega⟩;rw[St.az,if_neg om,St.aA,if_neg om];exact Dk⟩
 generalize (s0.new (.cells .mut [.int .i64 0, .int .i64 0, .aq, .aq])).put 1 (.cells .mut [.int .i64 L, .int .i64 S, .aq, .aq])=s1 at *;clear Dk jd;refine aN (λm e s=>∃ (i:Nat) (t o:LV),m=N.length - i/\i<=N.length/\NO L S N R i s t o/\e.at 1 = .aY [.int .i64 L, .int .i64 S,J,pr] 0/\e.at 2 = .aO 0 0/\e.at 3 = .aO 1 0/\e.at 18=J/\e.at 19 = .int .i64 (N.length:Int)/\e.at 20 = .int .i64 (i:Int)) _
  ⟨0, .aq, .aq,rfl,Nat.zero_le _,w.out,ef,ef,ef,ef,ef,by simp only[lk,dM,Nat.reduceEqDiff,if_false,if_true];rfl⟩ ?_
 clear e0 w;clear e s0 s1;rintro m e s ⟨i,t,o,rfl,hi,w,e1,e2,e3,C,D,Ta⟩;have u:=Bx.mk w;have eu:=w.n1;have UF:bf t=true:=by obtain⟨R1,h,-⟩:=w.r1;exact h.cell
 have UE:bf o=true:=by obtain⟨R2,h,-⟩:=w.r2;exact h.cell
 by_cases cy:i<N.length
 ·have iQ:(i:Int)<(N.length:Int):=by omega
  have MC:(i:Int)<(R.length:Int):=by have:=G.out;omega
  have dO:=@bQ i om;obtain⟨r1,r2,r3⟩:=hrwB.out i cy;have FM:=K.mo iQ;have SQ:=V.mo MC;have X:=K.row i cy;have Y:=V.row i om;have GJ:(N.getD i []).length<=64:=by omega
  have FG:1<=(R.getD i []).length/\(R.getD i []).length<=64:=by omega
  have AQ:∀ k,k<(R.getD i []).length->0<=(R.getD i []).getD k 0/\(R.getD i []).getD k 0<=20000:=λk B=>(r3 k om).2.2;have fA:=K2 X GJ;have nh:=λs=>M9 Y FG.1 FG.2 (s:=s);have hrE:∀ k,k<(R.getD i []).length->¬ (R.getD i []).getD k 0<=19999->Bx (Sw L S N R (.agg [.int .i64 0, .int .i64 0, .aq, .aq])):=λk B h=>⟨.inr ⟨λh2=>h (h2.2 i om k B),rfl⟩⟩;have hnI:Bx (NO L S N R i s t o->(∀ k,k<(R.getD i []).length->(R.getD i []).getD k 0<=19999)->∀ j,j<i+1->∀ k,k<(R.getD j []).length->(R.getD j []).getD k 0<=19999):=⟨λh h2 j hj k B=>by
   by_cases e:j<i
   ·exact h.ok j e k B
   ·have:j=i:=by omega
    subst this;exact h2 k B⟩
  have hiaB:=Bx.mk (And.intro X Y);generalize hPi:R.getD i []=Pi at *;generalize hNi:N.getD i []=Ni at *;generalize vN.getD i .top=xa at *;generalize vR.getD i .top=xb at *;have FR:=Bx.mk (And.intro hPi hNi);have KJ:=Bx.mk (And.intro AQ (And.intro hrE fA));obtain⟨hlb1,hlb2⟩:=FG;clear hPi hNi AQ hrE fA r1 r2 r3 X Y w;repeat' (first|refine aG (aj @fH (aj (@cU _ _ _ K.sl) (aj @FM (aj (@cU _ _ _ V.sl) @SQ)))) ?_|(first|apply ah|apply af)<;>intro l)
  refine bK wN (fv:=.fn (.func 37) [] []) (vs:=[xb]) ef ef (aM.mono (nh _) λr s2 hh=>⟨trivial,?_⟩);obtain⟨q,rfl,tI,rP,hj3,O⟩:=hh;simp only[Env.aB];clear nh;repeat' (first|refine aG trivial ?_|(first|apply ah|apply af)<;>intro l)
  refine aN (λm e P=>∃ (k:Nat),m=Pi.length - k/\k<=Pi.length/\(P.n=s2.n/\P.get q=some (.cells .mut (ints (part Pi k)))/\(∀ id,id≠q->P.get id=s2.get id)/\∀ c,c<k->Pi.getD c 0<=19999)/\e.at 1 = .aY [.int .i64 L, .int .i64 S,J,pr] 0/\e.at 2 = .aO 0 0/\e.at 3 = .aO 1 0/\e.at 18=J/\e.at 19 = .int .i64 (N.length:Int)/\e.at 20 = .int .i64 (i:Int)/\e.at 5=xa/\e.at 6 = .aE q 0 Pi.length 1/\e.at 32 = .int .i64 (Pi.length:Int)/\e.at 33 = .int .i64 (k:Int)) _
   ⟨0,rfl,Nat.zero_le _,⟨rfl,by simpa[part] using hj3,λ_ _=>rfl,λc hc=>by omega⟩,ef,ef,ef,ef,ef,ef,ef,ef,ef,by simp only[lk,Nat.reduceEqDiff,if_false,if_true];rfl⟩ ?_
  clear e1 e2 e3 C D Ta hj3;clear e;rintro m e P ⟨k,rfl,B,⟨o9,Z,fR,Zv⟩,e1,e2,e3,C,D,Ta,e5,e6,NW,NV⟩;by_cases cG:k<Pi.length
  ·have iN:(k:Int)<(Pi.length:Int):=by omega
   have cD:=@bQ k om;obtain⟨x0,x1⟩:=KJ.out.1 k cG;have jR:(ints (part Pi k))[k]? = some (.int .i64 (Pi.getD k 0)):=by
    simp only[ints,List.getElem?_map,EK cG,Option.map_some]
   have Fw:=Pm cG;have Q:=KJ.out.2.1 k cG;have H:Pi.getD k 0<=19999->∀ c,c<k+1->Pi.getD c 0<=19999:=λh c hc=>by
    by_cases e:c<k
    ·exact Zv c e
    ·rw[show c=k by omega];exact h
   have hpg:=EK cG;generalize Pi.getD k 0=x at *;have hwx:IntKind.i64.wrap (x+1)=x+1:=wrap_i64 _ om om;have U:=Bx.mk (And.intro Fw (And.intro H (And.intro fR hpg)));clear Fw H fR Zv hpg;repeat' (first|refine aG (aj @eF (aj @Z (aj @jR @hwx))) ?_|(first|apply ah|apply af)<;>intro l)
   rw[uw]at Z;refine dJ yN (i:=k) (k:=0) (c:=x) (c':=x+1) (rest:=[]) (v:=.int .i64 (x+1)) ef om ef rfl (by rw[List.append_nil];exact Z) U.out.2.2.2 (by decide) rfl (λs5 vI qQ eL=>?_);rw[List.append_nil,U.out.1,<- uw]at qQ;have MD:(ints (part Pi (k+1)))[k]? = some (.int .i64 (x+1)):=by
    rw[<- U.out.1];simp[ints,Pn,cG]
   have C7:∀ id,id≠q->s5.get id=s2.get id:=λid z=>(eL id z).trans (U.out.2.2.1 id z);have B0:=Bx.mk (And.intro qQ C7);have hOB5:Bx (s5.get 0=some (.cells .mut [.int .i64 0, .int .i64 0, .aq, .aq])):=⟨by rw[C7 0 om,O 0 om];exact u.out.g0⟩;clear Z eL C7;by_cases hx:x<=19999
   ·have hxI:x+1<=20000:=by omega
    have hF:=Bx.mk (U.out.2.1 hx);clear Q U hx;repeat' (first|refine aH (aj @eF (aj @qQ (aj @MD @cD))) ?_|(first|apply ah|apply af)<;>intro l)
    refine⟨Pi.length - (k+1),by omega,k+1,rfl,by omega,⟨by omega,B0.out.1,B0.out.2,hF.out⟩,?_⟩;simp only[lk,Nat.reduceEqDiff,if_false,if_true,cD,e1,e2,e3,C,D,Ta,e5,e6,NW,and_self]
   ·have hxI:20000<x+1:=by omega
    have hF:=Q hx;have IK:=hOB5.out;clear Q U hx;repeat' (first|refine aH (aj @eF (aj @qQ @MD)) ?_|(first|apply ah|apply af)<;>intro l)
    refine cC (vs:=[.int .i64 0, .int .i64 0, .aq, .aq]) wN (by
     simp only[bt,List.map,List.map];simp[aU]) ?_
    repeat' (first|refine aH @IK ?_|(first|apply ah|apply af)<;>intro l)
    exact⟨.inr trivial,_,iL.out _ _ _ ef (by rw[St.az,if_pos rfl]) rfl,_,_,bk rfl,rfl,hF.out⟩
  ·have nX:k=Pi.length:=by omega
   have lI:P.get 1=some (.cells .mut [.int .i64 L, .int .i64 S,t,o]):=by rw[fR 1 om,O 1 om];exact u.out.g1
   repeat' (first|refine aG trivial ?_|(first|apply ah|apply af)<;>intro l)
   repeat' (first|refine aG @lI ?_|(first|apply ah|apply af)<;>intro l)
   refine cK ff KJ.out.2.2 wN ef λr hr C5=>⟨⟨fU (p:=.aO 1 2) (v:=t) (by simp only[Env.aB];exact ef) (by simp only[cz,lI];rfl) (by simp only[Env.aB];exact ef),trivial⟩,?_⟩;simp only[Env.aB];have ZT:=hr.sl.cell;obtain⟨R1,sG,qy,sF⟩:=u.out.r1;obtain⟨R2,sE,qx,qw⟩:=u.out.r2;have Ii:=λid (g:aQ t id)=>sG.lt g;have yP:=λid (g:aQ o id)=>sE.lt g;have E:∀ id,id<s.n->P.get id=s.get id:=λid h=>(fR id om).trans (O id h);have NP:=ek.mono (s':=P) sG om λid g=>E id (Ii id g);refine HI (aZ:=1) (xv:=r) (vs:=[r]) (yv:=t) (n:=i) (cells:=R1) ef (pX hr.sl) rfl rfl (by simp[LV.closed.au,C5]) ef NP ⟨fU (p:=.aO 1 2) (v:=t) ef (by simp only[cz];rw[St.aA,if_neg om,lI];rfl) ef,trivial⟩ (by decide) om (λA I a1 a4 a5 a6=>?_);have pe:∀ id,id<=1->¬ aQ t id:=λid h g=>by have:=(u.out.u1 id g).1;omega
   have xE:∀ id,id<=1->¬ aQ o id:=λid h g=>by have:=u.out.u2 id g;omega
   have ZK:A.get 1=some (.cells .mut [.int .i64 L, .int .i64 S,t,o]):=(a6 1 om (pe 1 om)).trans lI;have ZL:A.get 0=some (.cells .mut [.int .i64 0, .int .i64 0, .aq, .aq]):=(a6 0 om (pe 0 om)).trans ((E 0 om).trans u.out.g0);have hjp4:A.get q=some (.cells .mut (ints (inc Pi))):=by
    rw[a6 q om (λh=>by have:=Ii q h;omega),Z,nX,Po]
   have AS:=ek.mono (s':=A) sE om λid g=>(a6 id (by have:=yP id g;omega) λh=>(u.out.u1 id h).2 g).trans (E id (yP id g));have NS:=Bx.mk (And.intro hr (And.intro a4 (And.intro qy (And.intro sF (And.intro qx qw)))));have hlr1:=sG.1;have hlr2:=sE.1;clear a4 a6 qy sF qx qw NP lI Z fR E sG sE;repeat' (first|refine aG @ZK ?_|(first|apply ah|apply af)<;>intro l)
   have F:∀ id,id≠1->(A.put 1 (.cells .mut [.int .i64 L, .int .i64 S, .aE I 0 (i+1) 1,o])).get id=A.get id:=λid h=>by rw[St.az,if_neg om]
   have h51:(A.put 1 (.cells .mut [.int .i64 L, .int .i64 S, .aE I 0 (i+1) 1,o])).get 1=some (.cells .mut [.int .i64 L, .int .i64 S, .aE I 0 (i+1) 1,o]):=by rw[St.az,if_pos rfl]
   have vI:(A.put 1 (.cells .mut [.int .i64 L, .int .i64 S, .aE I 0 (i+1) 1,o])).n=A.n:=rfl;generalize A.put 1 (.cells .mut [.int .i64 L, .int .i64 S, .aE I 0 (i+1) 1,o])=s5 at *;have kH:∀ y∈inc Pi,bU y:=λy hy=>by
    unfold inc at hy;obtain⟨a,ha,rfl⟩:=List.mem_map.1 hy;obtain⟨k,B,rfl⟩:=Ki ha;have:=KJ.out.1 k B;constructor<;>omega
   have hSx:Sx (s5.new (.cells .mut [.aE q 0 Pi.length 1])) (.aE q 0 Pi.length 1) (ints (inc Pi)) Pi.length:=⟨by simp[ints,inc], .inr ⟨q,rfl,by simp;omega,by rw[St.aA,if_neg om,F q om];exact hjp4⟩⟩;obtain⟨rp,sD,Vc,Ip,hnD,hoD⟩:=kK hSx om kH;have Vt:=ek.mono (s':=s5) AS om λid g=>F id λh=>xE id om g;refine yh (T:=λid=>id=q) (n:=i) (aZ:=1) (xv:=.aE q 0 Pi.length 1) (yv:=o) (vs:=[.aE q 0 Pi.length 1]) (vs':=[rp]) (cells:=R2) ef rfl rfl rfl (xM Vc) rfl (by rw[hnD];simp) (λid z g=>by rw[hoD id (λh=>g (aI.1 h)),St.aA,if_neg om]) ef Vt (λid g h=>by have:=yP id g;omega) (by decide) om (λs6 j6 b1 b4 b5 b6=>?_);have hg16:s6.get 1=some (.cells .mut [.int .i64 L, .int .i64 S, .aE I 0 (i+1) 1,o]):=(b6 1 om (xE 1 om) om).trans h51;have hg06:s6.get 0=some (.cells .mut [.int .i64 0, .int .i64 0, .aq, .aq]):=(b6 0 om (xE 0 om) om).trans ((F 0 om).trans ZL);repeat' (first|refine aG (aj @hg16 @dO) ?_|(first|apply ah|apply af)<;>intro l)
   obtain⟨hr,a4,qy,sF,qx,qw⟩:=NS.out;rw[<- FR.out.2]at hr;rw[<- FR.out.1]at Ip;have hj4l:=a4.lt (aI.2 rfl);have hBO:NO L S N R (i+1) (s6.put 1 (.cells .mut [.int .i64 L, .int .i64 S, .aE I 0 (i+1) 1, .aE j6 0 (i+1) 1])) (.aE I 0 (i+1) 1) (.aE j6 0 (i+1) 1):=by
    refine⟨by rw[St.az,if_neg om];exact hg06,by rw[St.az,if_pos rfl],by rw[St.eo];omega,?_,?_,λid g=>?_,λid g=>?_,hnI.out u.out ?_⟩
    ·refine eH.app qy sF om hr (ek.mono a4 (by rw[St.eo];omega) λid g=>?_);have z:=aI.1 g;subst z;rw[St.az,if_neg om,b6 id om (λh=>by have:=yP id h;omega) om,F id om]
    ·refine eH.app qx qw om Ip (ek.mono b4 (by rw[St.eo];omega) λid g=>?_);have z:=aI.1 g;subst z;rw[St.az,if_neg om]
    ·have z:=aI.1 g;subst z;exact⟨by omega,λh=>by have:=aI.1 h;omega⟩
    ·have z:=aI.1 g;omega
    ·rw[<- nX];exact Zv
   refine⟨N.length - (i+1),by omega,i+1,_,_,rfl,by omega,hBO,?_⟩;simp only[lk,Nat.reduceEqDiff,if_false,if_true,dO,e1,e2,e3,C,D,and_self]
 ·have Af:i=N.length:=by omega
  have h0:=w.g0;have h1:=w.g1;repeat' (first|refine aH (aj @h1 @h0) ?_|(first|apply ah|apply af)<;>intro l)
  have Ak:=G.out;have fC:=w.ok;obtain⟨ra,Ra,Xh,X⟩:=(eH.mono (s':=s.put 0 (.cells .mut [.int .i64 L, .int .i64 S,t,o])) u.out.r1 (by rw[St.eo];omega) λid g=>by have:=(u.out.u1 id g).1;rw[St.az,if_neg om]).fv om;obtain⟨rb,Rb,hfb,Y⟩:=(eH.mono (s':=s.put 0 (.cells .mut [.int .i64 L, .int .i64 S,t,o])) u.out.r2 (by rw[St.eo];omega) λid g=>by have:=u.out.u2 id g;rw[St.az,if_neg om]).fv om;have BV:=FV.agg4 (d:=1) (a:=.int .i64 L) (b:=.int .i64 S) (FV.shut rfl) (FV.shut rfl) Xh hfb;obtain⟨s2,hz,-⟩:=rS (by decide) BV;rw[Af,show (List.range N.length).map (λj=>N.getD j [])=N from (oC (f:=id) N).trans (List.map_id _)]at X;rw[Af,<- Ak,oC]at Y;exact⟨.inr trivial,_,iL.out _ _ _ ef (by rw[St.az,if_pos rfl]) rfl,_,s2,hz,BV.closed, .inl ⟨KF.out,λj hj=>fC j om,ra,rb,Ra,Rb,rfl,X,Y⟩⟩
end Go.Proofs.YtkbiecjdcjfhaaaGreat
end
