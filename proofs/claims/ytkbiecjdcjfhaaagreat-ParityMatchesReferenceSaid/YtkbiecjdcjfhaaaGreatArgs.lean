/- An automaton and a lasso as arguments. -/
import Derived.Test.YtkbiecjdcjfhaaaGreatWod
import Derived.Test.YtkbiecjdcjfhaaaGreatValid
import Derived.Test.YtkbiecjdcjfhaaaGreatRv
import Derived.Test.YtkbiecjdcjfhaaaGreatTbase
import Derived.Test.YtkbiecjdcjfhaaaGreatRy
import Derived.Test.YtkbiecjdcjfhaaaGreatRt
import Derived.Test.YtkbiecjdcjfhaaaGreatRval
import Derived.Test.YtkbiecjdcjfhaaaGreatQlm
import Derived.Test.YtkbiecjdcjfhaaaGreatPvRow
import Derived.Test.YtkbiecjdcjfhaaaGreatHead
set_option linter.unusedSimpArgs false
set_option linter.unusedVariables false
set_option maxRecDepth 100000
set_option maxHeartbeats 16000000
section
namespace Go.Proofs.YtkbiecjdcjfhaaaGreat
open Go Go.Pv
open Classical
theorem rowB:kL Tryz.prog 9 25=some [.int .i64, .sl [.int .i64], .sl [.sl [.sl [.int .i64, .bool]]]]:=by kernel_rfl
theorem rowL:kL Tryz.prog 9 30=some [.sl [.int .i64], .sl [.int .i64]]:=by kernel_rfl
theorem argB {v:LV}(h:tP Tryz.prog 9 25 v):∃ B d e,vo v B d e/\bU B.L:=by
 obtain⟨row,k,h1,h2,h3⟩:=h;rw[rowB]at h1;cases h1;rw[Tryz.underlying25]at h3;cases h2 with | cons a h2=>cases h2 with | cons b h2=>cases h2 with | cons c h2=>
 cases h2;obtain⟨L,rfl,f⟩:=zk a;obtain⟨st,g⟩:=rQ b;obtain⟨i,j⟩:=MH c;exact⟨⟨L,st,i⟩,_,_,⟨h3,g,j⟩,f⟩
theorem argL {v:LV}(h:tP Tryz.prog 9 30 v):∃ st c sl ll,v = .agg [st,c]/\aP st sl/\aP c ll:=by
 obtain⟨row,f,h1,h2,h3⟩:=h;rw[rowL]at h1;cases h1;rw[Tryz.underlying30]at h3;cases h2 with | cons a h2=>cases h2 with | cons b h2=>
 cases h2;obtain⟨sl,d⟩:=rQ a;obtain⟨ll,e⟩:=rQ b;exact⟨_,_,sl,ll,h3,d,e⟩
open Go Go.Pv Go.pR
set_option maxRecDepth 100000 in
theorem rowU:kL Tryz.prog 9 5=some [.int .u8]:=by kernel_rfl
set_option maxRecDepth 100000 in
theorem argU {v:LV}(h:tP Tryz.prog 9 5 v):∃ n:Nat,v = .int .u8 (n:Int)/\n<256:=by
 obtain⟨row,c,h1,h2,h3⟩:=h;rw[rowU]at h1;cases h1;rw[Tryz.underlying5]at h3;cases h2 with | cons a h2=>
 cases h2;simp only[List.cons.injEq,and_true]at h3;subst h3;cases a with
 | @int _ n b=>
   have d:0<=n/\n<=255:=by simpa[Lit.wf,IntKind.min,IntKind.max,IntKind.signed,IntKind.bits] using b
   exact⟨n.toNat,by rw[show ((n.toNat:Nat):Int)=n by omega],by omega⟩
set_option maxRecDepth 100000 in
theorem rowP:kL Tryz.prog 9 28=some [.int .i64, .int .i64, .sl [.sl [.int .i64]], .sl [.sl [.int .i64]]]:=by kernel_rfl
set_option maxRecDepth 100000 in
theorem argP {v:LV}(h:tP Tryz.prog 9 28 v):∃ L S g pr N R e f,v = .agg [.int .i64 L, .int .i64 S,g,pr]/\bN g N e/\bN pr R f:=by
 obtain⟨row,k,h1,h2,h3⟩:=h;rw[rowP]at h1;cases h1;rw[Tryz.underlying28]at h3;cases h2 with | cons a h2=>cases h2 with | cons b h2=>cases h2 with | cons c h2=>cases h2 with | cons d h2=>
 cases h2;obtain⟨L,rfl,_⟩:=zk a;obtain⟨S,rfl,_⟩:=zk b;obtain⟨N,e,i⟩:=BZ c;obtain⟨R,f,j⟩:=BZ d;exact⟨L,S,_,_,N,R,e,f,h3,i,j⟩
theorem Ja {i:LV}{B:Bu}{m n:LV}{most:Nat}(hB:vo i B m n) (j:¬ (Vb B/\1<=most)) (w:most<=1000):PE 8 [i, .int .i64 (most:Int)] (λr=>r = .cE [.agg [.int .i64 0, .int .i64 0, .aq, .aq], .int .i64 1]):=by
 have a:=hB.closed;have b:=oa hB;obtain⟨rfl,hs,k⟩:=hB;have o:=hs.closed;have p:=k.closed;obtain⟨vs,q⟩:=k;have x:=hs.sl.cell;have y:=q.sl.cell;refine dS Tryz.func8 br c8 bw (by simp[LV.closed.au,LV.closed,o,p]) ?_;refine mH λe z A=>?_;have l:∀ (e:Env) (s:St),e.at 4 = .aO 0 0->s.get 0=some (.cells .mut [.int .i64 0, .int .i64 0, .aq, .aq])->e.at 5 = .int .i64 1->aW l8.results e s=some (.cE [.agg [.int .i64 0, .int .i64 0, .aq, .aq], .int .i64 1]):=λe s h1 h2 t=>by
  simp[l8,aW,bD,h1,h2,t,bG]
 have f:=Bx.mk l;clear l;have u:=Bx.mk j;clear j;unfold l8 at f ⊢;dsimp only[jA,jC,jG,qM,qN,qF,qS,qC,qO,qP,qU,qW,qJ,qT,qY,qG,qm,ql,qR]at f ⊢;by_cases c:Vb B
 ·have C:(most:Int)<1:=by
   have:¬ 1<=most:=λh=>u.out ⟨c,h⟩;omega
  rw[decide_eq_true c]at b;clear c;repeat' (first|refine aH @a ?_|(first|apply ah|apply af)<;>intro d)
  have g:(St.empty.new (.cells .mut [.int .i64 0, .int .i64 0, .aq, .aq])).get 0=some (.cells .mut [.int .i64 0, .int .i64 0, .aq, .aq]):=by simp[bJ]
  generalize St.empty.new (.cells .mut [.int .i64 0, .int .i64 0, .aq, .aq])=v at *;refine dx b ?_;clear b;repeat' (first|refine aH @a ?_|(first|apply ah|apply af)<;>intro d)
  refine cC (vs:=[.int .i64 0, .int .i64 0, .aq, .aq]) wN (by
   simp only[bt,List.map,List.map];simp[aU]) ?_
  repeat' (first|refine aH (aj @a @g) ?_|(first|apply ah|apply af)<;>intro d)
  exact⟨.inr trivial,_,f.out _ _ ef (by rw[St.az,if_pos rfl]) ef,_,_,bk rfl,rfl,rfl⟩
 ·rw[decide_eq_false c]at b;clear c;repeat' (first|refine aH @a ?_|(first|apply ah|apply af)<;>intro d)
  have g:(St.empty.new (.cells .mut [.int .i64 0, .int .i64 0, .aq, .aq])).get 0=some (.cells .mut [.int .i64 0, .int .i64 0, .aq, .aq]):=by simp[bJ]
  generalize St.empty.new (.cells .mut [.int .i64 0, .int .i64 0, .aq, .aq])=v at *;refine dx b ?_;clear b;repeat' (first|refine aH @a ?_|(first|apply ah|apply af)<;>intro d)
  refine cC (vs:=[.int .i64 0, .int .i64 0, .aq, .aq]) wN (by
   simp only[bt,List.map,List.map];simp[aU]) ?_
  repeat' (first|refine aH (aj @a @g) ?_|(first|apply ah|apply af)<;>intro d)
  exact⟨.inr trivial,_,f.out _ _ ef (by rw[St.az,if_pos rfl]) ef,_,_,bk rfl,rfl,rfl⟩
theorem Av {i:LV}{B:Bu}{m n:LV}{most:Nat}(hB:vo i B m n) (j:¬ (Vb B/\1<=most)) (w:most<=1000):PE 9 [i, .int .i64 (most:Int)] (λr=>r = .cE [.agg [.int .i64 0, .int .i64 0, .aq, .aq], .int .i64 1]):=by
 have a:=hB.closed;have b:=lP hB;obtain⟨rfl,hs,k⟩:=hB;have o:=hs.closed;have p:=k.closed;obtain⟨vs,q⟩:=k;have x:=hs.sl.cell;have y:=q.sl.cell;refine dS Tryz.func9 br c9 bw (by simp[LV.closed.au,LV.closed,o,p]) ?_;refine mH λe z A=>?_;have l:∀ (e:Env) (s:St),e.at 4 = .aO 0 0->s.get 0=some (.cells .mut [.int .i64 0, .int .i64 0, .aq, .aq])->e.at 5 = .int .i64 1->aW l9.results e s=some (.cE [.agg [.int .i64 0, .int .i64 0, .aq, .aq], .int .i64 1]):=λe s h1 h2 t=>by
  simp[l9,aW,bD,h1,h2,t,bG]
 have f:=Bx.mk l;clear l;have u:=Bx.mk j;clear j;unfold l9 at f ⊢;dsimp only[jA,jB,jC,jG,jH,qM,qL,qN,qF,qS,qI,qA,qB,qC,qO,qP,qU,qW,qJ,qT,qD,qX,qG,qm,ql,qR]at f ⊢;by_cases c:Vb B
 ·have C:(most:Int)<1:=by
   have:¬ 1<=most:=λh=>u.out ⟨c,h⟩;omega
  rw[decide_eq_true c]at b;clear c;repeat' (first|refine aH @a ?_|(first|apply ah|apply af)<;>intro d)
  have g:(St.empty.new (.cells .mut [.int .i64 0, .int .i64 0, .aq, .aq])).get 0=some (.cells .mut [.int .i64 0, .int .i64 0, .aq, .aq]):=by simp[bJ]
  generalize St.empty.new (.cells .mut [.int .i64 0, .int .i64 0, .aq, .aq])=v at *;refine dx b ?_;clear b;repeat' (first|refine aH @a ?_|(first|apply ah|apply af)<;>intro d)
  refine cC (vs:=[.int .i64 0, .int .i64 0, .aq, .aq]) wN (by
   simp only[bt,List.map,List.map];simp[aU]) ?_
  repeat' (first|refine aH (aj @a @g) ?_|(first|apply ah|apply af)<;>intro d)
  exact⟨.inr trivial,_,f.out _ _ ef (by rw[St.az,if_pos rfl]) ef,_,_,bk rfl,rfl,rfl⟩
 ·rw[decide_eq_false c]at b;clear c;repeat' (first|refine aH @a ?_|(first|apply ah|apply af)<;>intro d)
  have g:(St.empty.new (.cells .mut [.int .i64 0, .int .i64 0, .aq, .aq])).get 0=some (.cells .mut [.int .i64 0, .int .i64 0, .aq, .aq]):=by simp[bJ]
  generalize St.empty.new (.cells .mut [.int .i64 0, .int .i64 0, .aq, .aq])=v at *;refine dx b ?_;clear b;repeat' (first|refine aH @a ?_|(first|apply ah|apply af)<;>intro d)
  refine cC (vs:=[.int .i64 0, .int .i64 0, .aq, .aq]) wN (by
   simp only[bt,List.map,List.map];simp[aU]) ?_
  repeat' (first|refine aH (aj @a @g) ?_|(first|apply ah|apply af)<;>intro d)
  exact⟨.inr trivial,_,f.out _ _ ef (by rw[St.az,if_pos rfl]) ef,_,_,bk rfl,rfl,rfl⟩
theorem RP {B:Bu}{most n m:Nat}(h:Fits B most n) (k:Fits B most m):n=m:=by
 rcases Nat.lt_trichotomy n m with e | e | e
 ·have:=k.2.1 n e;have:=h.1;omega
 ·exact e
 ·have:=h.2.1 m e;have:=k.1;omega
theorem M0 {B:Bu}{most n:Nat}(h:Fits B most n) (k:Over B most):False:=by
 obtain⟨m,h1,h2⟩:=k;by_cases e:m<n
 ·have:=h.2.2 (m+1) (by omega);omega
 ·have:=(h1 n om).1;have:=h.1;omega
theorem jY:bN .aq [] []:=⟨.nil,by simp,by simp,λi a=>by simp at a⟩
theorem rJ {f:LV}{args:List LV}{R d:LV->Prop}(h:ny Tryz.prog GL f args R) (e:∀ r,R r->d r):ny Tryz.prog GL f args d :=
 ⟨h.cf,h.K5,aM.mono h.call λv s ⟨r,g,a,b,c⟩=>⟨r,g,a,b,e r c⟩⟩
def RR (c er:Int) (X Y:List (List Int)) (r:LV):Prop:=∃ a b d e,r = .cE [.agg [.int .i64 c, .int .i64 0,a,b], .int .i64 er]/\bN a X d/\bN b Y e
theorem px_rr (B:Bu) (most:Nat):∃ d er X Y,∀ r,PX B most r->RR d er X Y r:=by
 by_cases h:∃ n,Fits B most n
 ·obtain⟨n,c⟩:=h;refine⟨B.L,0,nxL B n,prL B n,λr a=>?_⟩;rcases a with⟨m,e,f,g,i,rfl,b,a1,a2⟩ | ⟨rfl,ho⟩
  ·have:=RP b c;subst this;exact⟨e,f,g,i,rfl,a1,a2⟩
  ·exact (M0 c ho).elim
 ·refine⟨0,2,[],[],λr a=>?_⟩;rcases a with⟨m,_,_,_,_,_,b,_⟩ | ⟨rfl,ho⟩
  ·exact absurd ⟨m,b⟩ h
  ·exact⟨_,_,_,_,rfl,jY,jY⟩
theorem VQ {b:LV}{B:Bu}{f g:LV}{most:Nat}(hB:vo b B f g) (d:B.next.length<=10) (hl:B.start.length<=20) (i:most<=150) :
 ∃ a er X Y,PE 8 [b, .int .i64 (most:Int)] (RR a er X Y)/\PE 9 [b, .int .i64 (most:Int)] (RR a er X Y):=by
 by_cases h:Vb B/\1<=most
 ·obtain⟨a,er,X,Y,e⟩:=px_rr B most;exact⟨a,er,X,Y,rJ (Ng hB h.1 d om h.2 om) e,rJ (Eo hB h.1 d h.2 om) e⟩
 ·exact⟨0,1,[],[],rJ (Ja hB h om) (λr c=>⟨_,_,_,_,c,jY,jY⟩),rJ (Av hB h om) (λr c=>⟨_,_,_,_,c,jY,jY⟩)⟩
def QR (c d:Int) (X Y:List (List Int)) (r:LV):Prop:=∃ a b e f,r = .agg [.int .i64 c, .int .i64 d,a,b]/\bN a X e/\bN b Y f
theorem Yf (L S:Int) (N R:List (List Int)):∃ b c X Y,∀ r,Sw L S N R r->QR b c X Y r:=by
 by_cases h:PV L S N R/\xT R
 ·refine⟨L,S,N,R.map inc,λr a=>?_⟩;rcases a with⟨_,_,d,e,f,g,rfl,a1,a2⟩ | ⟨i,_⟩
  ·exact⟨d,e,f,g,rfl,a1,a2⟩
  ·exact absurd h i
 ·refine⟨0,0,[],[],λr a=>?_⟩;rcases a with⟨h1,h2,_⟩ | ⟨_,rfl⟩
  ·exact absurd ⟨h1,h2⟩ h
  ·exact⟨_,_,_,_,rfl,jY,jY⟩
theorem T8 {L S:Int}{c pr:LV}{N R:List (List Int)}{g h:List LV}(d:bN c N g) (e:bN pr R h) :
 ∃ a b X Y,PE 15 [.agg [.int .i64 L, .int .i64 S,c,pr]] (QR a b X Y)/\PE 16 [.agg [.int .i64 L, .int .i64 S,c,pr]] (QR a b X Y):=by
 obtain⟨a,b,X,Y,f⟩:=Yf L S N R;exact⟨a,b,X,Y,rJ (TV d e) f,rJ (TA d e) f⟩
theorem H8:∀ x,sj Tryz.prog 9 Tryz.f3.params.toList x->XG Tryz.prog 3 x:=by
 intro x h;rw[Tryz.params3]at h;cases h with | cons a h=>cases h with | cons b h=>cases h with | cons c h=>cases h with | cons d h=>
 cases h;obtain⟨B,sv,nv,hB,-⟩:=argB a;obtain⟨n,rfl,y⟩:=argU b;obtain⟨L,S,Y,pr,N,R,vN,vR,rfl,l,m⟩:=argP c;obtain⟨st,Z,sl,u,rfl,v,w⟩:=argL d;refine⟨Tryz.f3,[],l3,Tryz.func3,by decide +kernel,c3,Nat.le_of_ble_eq_true rfl,aX.mono (Q:=λo e s=>(o = .normal∨o = .jmp .ret)/\e.at 8 = .bool true) (Cd.out ?_) λo e s F=>⟨F.1,by simp[l3,aW,bD,F.2]⟩⟩;have g:=hB.closed;have i:(LV.agg [.int .i64 L, .int .i64 S,Y,pr]).closed=true:=by simp[LV.closed,LV.closed.au,l.closed,m.closed]
 have j:(LV.agg [st,Z]).closed=true:=by simp[LV.closed,LV.closed.au,v.closed,w.closed]
 have p:=OT hB;have G:=Lt (L:=L) (S:=S) l m;have H:=OD v w;have I:=Bx.mk (λ(h1:B.next.length<=10) (h2:B.start.length<=20)=>VQ (most:=n % 151) hB h1 h2 om);have NG:=vB (L:=L) (S:=S) l m;have ij:=vw (L:=L) (S:=S) l m;have Mt:=Tf (L:=L) (S:=S) l m v w;have C1:=OF (L:=L) (S:=S) l m v w;obtain⟨L2,S2,X2,Y2,J,K⟩:=T8 (L:=L) (S:=S) l m;obtain⟨rfl,gV,vs,hn⟩:=hB;have q5:=gV.sl.cell;have wB:=hn.sl.cell;have Vi:=v.sl.cell;have hc4:=w.sl.cell;have hc5:=l.sl.cell;have hc6:=m.sl.cell;generalize decide (PV L S N R)=pv at *;generalize (decide (PV L S N R/\Fm sl u/\lB sl L/\lB u L) && wv (cj N u) (λq=>eT N R u q 20000) (N.length+1) [] (cj N sl S.toNat))=pw at *;generalize decide (sl.length<=80/\u.length<=80)=sh at *;refine ev4 λe e0 e1 e2 e3=>?_;have M:(IntKind.i64.wrap (n:Int))=(n:Int):=wrap_i64 _ om om;have t:Int.tmod (n:Int) 151=((n % 151:Nat):Int):=by rw[Int.tmod_eq_emod_of_nonneg om];omega
 unfold l3;dsimp only[jA,jB,jC,jE,jG,qM,qN,qK,qO,qP,qV,qT,qD,qG,qm,qR];repeat' (first|refine aG (aj @g (aj @i @j)) ?_|(first|apply ah|apply af)<;>intro f)
 refine dx ME ?_;repeat' (first|refine aH (aj @g (aj @i @j)) ?_|(first|apply ah|apply af)<;>intro f)
 refine cK ff p wN ef (λr z qu=>⟨trivial,?_⟩);obtain⟨k,rfl,O⟩:=z;simp only[Env.aB];cases k with
 | false=>
   repeat' (first|refine aH (aj @g (aj @i @j)) ?_|(first|apply ah|apply af)<;>intro f)
   exact⟨.inr trivial,ef⟩
 | true=>
   obtain⟨A,-,C⟩:=O rfl;repeat' (first|refine aH (aj @g (aj @i @j)) ?_|(first|apply ah|apply af)<;>intro f)
   refine cK ff G (by simp[aK]) ef (λr z qu=>⟨trivial,?_⟩);obtain⟨b2,rfl⟩:=z;simp only[Env.aB];cases b2 with
   | false=>
     repeat' (first|refine aH (aj @g (aj @i @j)) ?_|(first|apply ah|apply af)<;>intro f)
     exact⟨.inr trivial,ef⟩
   | true=>
     repeat' (first|refine aH (aj @g (aj @i @j)) ?_|(first|apply ah|apply af)<;>intro f)
     refine dx H ?_;cases sh with
     | false=>
       repeat' (first|refine aH (aj @g (aj @i @j)) ?_|(first|apply ah|apply af)<;>intro f)
       exact⟨.inr trivial,ef⟩
     | true=>
       obtain⟨L1,er,X1,Y1,P,T⟩:=I.out A C;clear I p G H O;repeat' (first|refine aH (aj @g (aj @i (aj @j (aj @M @t)))) ?_|(first|apply ah|apply af)<;>intro f)
       refine cK ff P wN ef (λr1 nT U=>⟨trivial,?_⟩);obtain⟨v1,v2,V1,V2,rfl,a1,a2⟩:=nT;simp only[Env.aB];have SY:=a1.sl.cell;have Rk:=a2.sl.cell;repeat' (first|refine aH (aj @g (aj @i (aj @j (aj @M @t)))) ?_|(first|apply ah|apply af)<;>intro f)
       refine cK ff T wN ef (λr2 vj UN=>⟨trivial,?_⟩);obtain⟨w1,w2,W1,W2,rfl,k,b2⟩:=vj;simp only[Env.aB];have hd3:=k.sl.cell;have hd4:=b2.sl.cell;have kU:=Ef (L:=L1) (S:=0) a1 k a2 b2;clear a1 k a2 b2 P T;repeat' (first|refine aH (aj @g (aj @i @j)) ?_|(first|apply ah|apply af)<;>intro f)
       refine dx kU ?_;repeat' (first|refine aH (aj @g (aj @i @j)) ?_|(first|apply ah|apply af)<;>intro f)
       refine dx NG ?_;repeat' (first|refine aH (aj @g (aj @i @j)) ?_|(first|apply ah|apply af)<;>intro f)
       refine dx ij ?_;repeat' (first|refine aH (aj @g (aj @i @j)) ?_|(first|apply ah|apply af)<;>intro f)
       all_goals first | (exfalso;simp at f;done) | skip
       refine dx Mt ?_;repeat' (first|refine aH (aj @g (aj @i @j)) ?_|(first|apply ah|apply af)<;>intro f)
       refine dx C1 ?_;repeat' (first|refine aH (aj @g (aj @i @j)) ?_|(first|apply ah|apply af)<;>intro f)
       all_goals first | (exfalso;simp at f;done) | skip
       refine cK ff J (by first | (apply wG;exact ef) | (simp[aK];done)) ef (λr3 D V=>?_);obtain⟨x1,x2,U1,U2,rfl,a1,a2⟩:=D;refine⟨by simp only[dG,aK,bq.run,Env.aB,lk,dM,rH,Nat.reduceEqDiff,Nat.reduceAdd,if_false,if_true,bG,beq_self_eq_true,false_or,and_true,Option.some.injEq, *],?_⟩;simp only[Env.aB];repeat' (first|refine aH (aj @g (aj @i @j)) ?_|(first|apply ah|apply af)<;>intro f)
       refine cK ff K (by first | (apply wG;exact ef) | (simp[aK];done)) ef (λr4 E X=>⟨trivial,?_⟩);obtain⟨y1,y2,T1,T2,rfl,k,b2⟩:=E;simp only[Env.aB];have tF:=Ef (L:=L2) (S:=S2) a1 k a2 b2;have hd5:=a1.sl.cell;have hd6:=a2.sl.cell;have hd7:=k.sl.cell;have hd8:=b2.sl.cell;clear a1 k a2 b2 J K;repeat' (first|refine aH (aj @g (aj @i @j)) ?_|(first|apply ah|apply af)<;>intro f)
       refine dx tF ?_;repeat' (first|refine aH (aj @g (aj @i @j)) ?_|(first|apply ah|apply af)<;>intro f)
       exact⟨.inr trivial,ef⟩
end Go.Proofs.YtkbiecjdcjfhaaaGreat
end
