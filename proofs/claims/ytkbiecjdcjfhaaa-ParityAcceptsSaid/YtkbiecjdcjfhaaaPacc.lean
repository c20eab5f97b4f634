/- The deterministic automaton accepts a word exactly if the nondeterministic one does: plainly. -/
import Derived.Test.YtkbiecjdcjfhaaaPbd
import Derived.Test.YtkbiecjdcjfhaaaNewtrack
import Derived.Test.YtkbiecjdcjfhaaaQlm
import Derived.Test.YtkbiecjdcjfhaaaRval
import Derived.Test.YtkbiecjdcjfhaaaWref
import Derived.Test.YtkbiecjdcjfhaaaPvRow
import Derived.Test.YtkbiecjdcjfhaaaArgs
import Derived.Test.YtkbiecjdcjfhaaaHead
set_option linter.unusedSimpArgs false
set_option linter.unusedVariables false
set_option maxRecDepth 100000
set_option maxHeartbeats 16000000
section
namespace Go.Proofs.Ytkbiecjdcjfhaaa
open Go Go.Pv Go.Jo
open Classical
theorem Si {N:Nat}{mv:Nat->Mv}{t:List Nd}{v:Int} : v∈evG N mv t↔v∈eF (cI N mv t):=by
 unfold evG;exact List.mem_mergeSort
theorem Sj {N:Nat}{mv:Nat->Mv}{t:List Nd}{v:Int} : v∈evB N mv t↔v∈ic (cI N mv t):=by
 unfold evB;exact List.mem_mergeSort
theorem AO {G a:List Int}{n:Nat}{v:Int}(h:1<=v/\v<=(n:Int)):marks G a n v=2↔v∈a:=by
 unfold marks Iz;by_cases b:v∈a
 ·simp[b,h.1,h.2]
 ·simp only[b,false_and,if_false,iff_false];split<;>omega
theorem AP {G a:List Int}{n:Nat}{v:Int}(h:1<=v/\v<=(n:Int)):marks G a n v=1↔v∈G/\v ∉ a:=by
 unfold marks Iz;by_cases b:v∈a
 ·simp[b,h.1,h.2]
 ·by_cases c:v∈G
  ·simp[b,c,h.1,h.2]
  ·simp[b,c]
section
variable {B:Bu}
theorem Sd (f:Vb B) {a:Nat}(j:a<B.L.toNat) {y:Nat}{b:Bool}{x:Int}(h:(x,b)∈iV B y a):0<=x/\x<(B.next.length:Int):=by
 obtain⟨-,-,-,-,g⟩:=f;unfold iV at h;by_cases i:y<B.next.length
 ·obtain⟨h1,h2⟩:=g y i;have h3:=h2 a om;obtain⟨k,d,e⟩:=List.getElem_of_mem h;have c:=h3 k d;rw[gD,gE d,Option.getD_some,e]at c;exact⟨c.1,c.2.1⟩
 ·have e:B.next.getD y []=[]:=by simp[gD,List.getElem?_eq_none (show B.next.length<=y by omega)]
  rw[e]at h;simp at h
theorem RY (s:Vb B) (K:B.next.length<=10) {n:Nat}(R:n<=1000) (M:∀ j,j<n->j<(cD B j).2.length) (C:n=(cD B n).2.length) {w:Nat->Nat}(N:∀ i,w i<B.L.toNat) {p:Nat->Nat}(O:p 0=0) (V:∀ i,p (i+1)=QA B (p i) (w i)) {m:Nat}(hm:T8 m λi=>LP B (p i) (w i)):m % 2=0↔Yh B w:=by
 obtain⟨⟨-,-⟩,m2,D⟩:=xq B 0 n;rw[Nat.zero_add]at D;have P:0<n:=by
  have:(cD B 0).2.length=1:=rfl;rw[D,List.length_append,this]at C;omega
 have X:∀ i,p i<n:=by
  intro i;induction i with
  | zero=>rw[O];exact P
  | succ i ih=>rw[V];exact (BR s K R M C ih (N i)).1
 have Y:=sqI s K n M;have c:∀ i,JY B (jV B n (p i))/\(qX B n (p i)).length=2*B.next.length:=λi=>by
  obtain⟨x1,x2,x3⟩:=Y.st _ (Go.Pv.bE (d:=default) (show p i<(cD B n).2.length by rw[<- C];exact X i));exact⟨Y.tr _ (Go.Pv.bE x1),x3⟩
 have Q:∀ i,jV B n (p (i+1))=mC B (jV B n (p i)) (w i)/\qX B n (p (i+1))=BH B (jV B n (p i)) (qX B n (p i)) (w i)/\LP B (p i) (w i)=y8 B (jV B n (p i)) (qX B n (p i)) (w i):=λi=>by
  have:=BR s K R M C (X i) (N i);rw[V i];exact this.2
 have E:Sq B.next.length (λi q=>iV B q (w i)) λi=>jV B n (p i):=⟨λi=>(c i).1.2,λi=>(c i).1.1,λi=>by
  show jV B n (p (i+1))=_;rw[(Q i).1];exact (FN s (c i).1 _).2⟩
 have Z:qX B n (p 0)=oX (2*B.next.length):=by
  rw[O];unfold qX;rw[D];rfl
 have u:jV B n (p 0)=Aa B:=by
  obtain⟨⟨m1,mP⟩,-⟩:=xq B 0 n;rw[Nat.zero_add]at mP;rw[O];unfold jV;rw[D,mP];rfl
 have hG:∀ i v,v∈Ae B (jV B n (p i)) (w i)↔js B.next.length (λi q=>iV B q (w i)) (λi=>jV B n (p i)) i v:=λi v=>by
  unfold Ae;rw[if_pos (c i).1,Si];rfl
 have hB:∀ i v,v∈Af B (jV B n (p i)) (w i)↔Bo B.next.length (λi q=>iV B q (w i)) (λi=>jV B n (p i)) i v:=λi v=>by
  unfold Af;rw[if_pos (c i).1,Sj];rfl
 have z:=RG (n:=2*B.next.length) (r:=λi=>qX B n (p i)) (f:=λi=>marks (Ae B (jV B n (p i)) (w i)) (Af B (jV B n (p i)) (w i)) (2*B.next.length)) (λi=>(c i).2) (λi=>by
  show qX B n (p (i+1))=_;rw[(Q i).2.1];unfold BH;rw[(c i).2]) (λx hx=>by
  have hx:x∈qX B n (p 0):=hx;rw[Z]at hx;have:=(BF (n:=2*B.next.length) om).2.1 x hx;rw[gP]at this;exact this) (λv h1 h2=>by
  show v∈qX B n (p 0);rw[Z];unfold oX;exact List.mem_map.2 ⟨v.toNat - 1,List.mem_range.2 om,by omega⟩) (m:=m) (by
  have e:(λi=>gu (marks (Ae B (jV B n (p i)) (w i)) (Af B (jV B n (p i)) (w i)) (2*B.next.length)) (qX B n (p i)))=λi=>LP B (p i) (w i):=funext λi=>by
   rw[(Q i).2.2];unfold y8;rw[(c i).2]
  show T8 m (λi=>gu (marks (Ae B (jV B n (p i)) (w i)) (Af B (jV B n (p i)) (w i)) (2*B.next.length)) (qX B n (p i)));rw[e];exact hm)
 rw[z];have F:∀ i y b x,(x,b)∈(λi q=>iV B q (w i)) i y->0<=x/\x<(B.next.length:Int):=λi y b x h=>Sd s (N i) h;constructor
 ·rintro⟨v,v1,v2,G,T,H⟩;obtain⟨q,g,l,a,o⟩:=Df E (S:=B.start) (by
   show jV B n (p 0)=_∨jV B n (p 0)=_;rw[u];unfold Aa;split
   ·exact .inr rfl
   ·exact .inl rfl) (v:=v) F (λU=>by
    obtain⟨i,t,A⟩:=G U;exact⟨i,t,(hG i v).1 ((AP ⟨v1,v2⟩).1 A).1⟩) ⟨T,λi t ko=>H i t ((AO ⟨v1,v2⟩).2 ((hB i v).2 ko))⟩
  have YH:∀ i,0<=q i:=by
   intro i;cases i with
   | zero=>
     obtain⟨k,I,e⟩:=List.getElem_of_mem l;have:=(s.2.2.2.1 k I).1;rw[gD,gE I,Option.getD_some,e]at this;exact this
   | succ i=>exact (F i _ _ _ (a i)).1
  refine⟨λi=>(q i).toNat,g,?_,λi=>?_,o⟩
  ·show (((q 0).toNat:Nat):Int)∈B.start;rw[Int.toNat_of_nonneg (YH 0)];exact l
  ·exact List.mem_map.2 ⟨_,a i,rfl⟩
 ·rintro⟨q,g,l,a,o⟩;have l:((q 0:Nat):Int)∈B.start:=l;obtain⟨v,G,U,H⟩:=xy E (q:=λi=>(q i:Int)) (g:=g) (S:=B.start) (by
   show jV B n (p 0)=_;rw[u];unfold Aa;rw[if_neg (λe=>by rw[e]at l;cases l)]) l (λi=>by
    obtain⟨x,hx,e⟩:=List.mem_map.1 (a i);have h1:=F i (q i) x.2 x.1 hx;have e1:x.1.toNat=q (i+1):=congrArg Prod.fst e;have e2:x.2=g i:=congrArg Prod.snd e;show (((q (i+1):Nat):Int),g i)∈iV B ((q i:Int)).toNat (w i);rw[Int.toNat_natCast,<- e1,<- e2,Int.toNat_of_nonneg h1.1];exact hx) F o
  obtain⟨i0,-,A⟩:=G 0;have J:1<=v/\v<=((2*B.next.length:Nat):Int):=by
   obtain⟨k,I,-,-,rfl⟩:=(nA (E.gr i0)).1 A;have:=((E.tr i0).1 k I).name;omega
  refine⟨v,J.1,J.2,λT=>?_,U,λi t e=>H i t ((hB i v).1 ((AO J).1 e))⟩;obtain⟨i,t,A⟩:=G (max T U);exact⟨i,by omega,(AP J).2 ⟨(hG i v).2 A,λe=>H i om ((hB i v).1 e)⟩⟩
noncomputable def vz (B:Bu) (n:Nat):List (List Int):=(List.range n).map (Yk B)
noncomputable def Nq (B:Bu) (n:Nat):List (List Int):=(List.range n).map (Yj B)
theorem fc {α:Type}{f:Nat->α}{n i:Nat}{d:α}(h:i<n):((List.range n).map f).getD i d=f i:=by
 simp[gD,h]
theorem UJ (b:Vb B) (h:B.next.length<=10) {n:Nat}(l:n<=1000) (e:∀ j,j<n->j<(cD B j).2.length) (f:n=(cD B n).2.length):PV B.L 0 (vz B n) (Nq B n):=by
 have m:=b.1;have c:=b.2.1;obtain⟨⟨-,-⟩,p,g⟩:=xq B 0 n;rw[Nat.zero_add]at g;have o:0<n:=by
  have:(cD B 0).2.length=1:=rfl;rw[g,List.length_append,this]at f;omega
 have l1:(vz B n).length=n:=by simp[vz]
 have l2:(Nq B n).length=n:=by simp[Nq]
 refine⟨⟨m,c,by omega,by omega,by omega,by omega,by omega⟩,λi a=>?_⟩;rw[l1]at a;unfold Qt;have g1:(vz B n).getD i []=Yk B i:=fc a;have g2:(Nq B n).getD i []=Yj B i:=fc a;rw[g1,g2,Gd,Ga];refine⟨by simp;omega,by simp;omega,λk q=>?_⟩;have d:k<B.L.toNat:=by omega
 unfold Ent;rw[g1,g2,Gd,Ga,fc d,fc d,l1];have h1:=(BR b h l e f a d).1;have h2:=Wb e a k;omega
theorem NA (f:Vb B) (s:B.next.length<=10) {n:Nat}(t:n<=1000) (u:∀ j,j<n->j<(cD B j).2.length) (v:n=(cD B n).2.length) {S L:List Int}(a:Fm S L/\kO S B.L/\kO L B.L) :
 (decide (PV B.L 0 (vz B n) (Nq B n)/\Fm S L/\kO S B.L/\kO L B.L) && wv (gO (vz B n) L) (λq=>iW (vz B n) (Nq B n) L q 20000) ((vz B n).length+1) [] (gO (vz B n) S (0:Int).toNat))=decide (AW B S L):=by
 have c:=UJ f s t u v;have z:1<=L.length:=a.1.2.1;obtain⟨m,hm,A⟩:=Kw c a.2.1.mem a.2.2.mem z;rw[decide_eq_true ⟨c,a⟩,Bool.true_and,A];have x:∀ i,0<=ew S L i/\ew S L i<B.L:=λi=>by
  unfold ew;split
  ·rename_i h;exact a.2.1 i h
  ·exact a.2.2 _ (Nat.mod_lt _ om)
 have g:∀ i,(ew S L i).toNat<B.L.toNat:=λi=>by have:=x i;omega
 have l1:(vz B n).length=n:=by simp[vz]
 have y:∀ i,iU (vz B n) (ew S L) 0 i<n:=λi=>by
  have:=Bw c x (q:=0) (by have:=c.1.2.2.1;omega) i;rwa[l1]at this
 have C:∀ i,iU (vz B n) (ew S L) 0 (i+1)=QA B (iU (vz B n) (ew S L) 0 i) (ew S L i).toNat:=λi=>by
  show LN _ _ _=_;unfold LN;have g1:(vz B n).getD (iU (vz B n) (ew S L) 0 i) []=Yk B (iU (vz B n) (ew S L) 0 i):=fc (y i);rw[g1,Gd,fc (g i),Int.toNat_natCast]
 have k:∀ i,lM (vz B n) (Nq B n) (ew S L) 0 i=(LP B (iU (vz B n) (ew S L) 0 i) (ew S L i).toNat:Int):=λi=>by
  unfold lM;have g1:(Nq B n).getD (iU (vz B n) (ew S L) 0 i) []=Yj B (iU (vz B n) (ew S L) 0 i):=fc (y i);rw[g1,Ga,fc (g i)]
 obtain⟨d,T,l⟩:=hm;have d:∀ T,∃ i,T<=i/\lM (vz B n) (Nq B n) (ew S L) 0 i=m:=d;have l:∀ i,T<=i->m<=lM (vz B n) (Nq B n) (ew S L) 0 i:=l;have o:0<=m:=by
  obtain⟨i,-,e⟩:=d 0;rw[<- e,k];omega
 have D:T8 m.toNat λi=>LP B (iU (vz B n) (ew S L) 0 i) (ew S L i).toNat:=by
  refine⟨λU=>?_,T,λi r=>?_⟩
  ·obtain⟨i,r,e⟩:=d U;rw[k]at e;exact⟨i,r,by show LP B _ _=m.toNat;omega⟩
  ·have:=l i r;rw[k]at this;show m.toNat<=LP B _ _;omega
 have b:=RY f s t u v (w:=λi=>(ew S L i).toNat) g (p:=iU (vz B n) (ew S L) 0) rfl C D;have E:m.tmod 2=0↔m.toNat % 2=0:=by
  rw[Int.tmod_eq_emod_of_nonneg o];omega
 have F:m.tmod 2=0↔AW B S L:=by
  rw[E,b];unfold AW;exact⟨λh=>⟨f,a,h⟩,λh=>h.2.2⟩
 exact decide_eq_decide.2 F
end
theorem Ld {s:St}{j len:Nat}{m:Md}{cs:List LV}(n:Nat) (h:s.get j=some (.cells m cs)) (hl:cs.length=len) (a:LV.closed.aq cs=true):cK (n+2) (.aD j 0 len 1) s=some (.aB cs len,s.put j (.cells (if m = .mut then .app else m) cs)):=by
 unfold cK;simp only[LV.closed,Bool.false_eq_true,if_false,h,Nat.zero_add,Nat.mul_one,hl,Nat.le_refl,if_true,dg a,Option.bind_eq_bind,Option.bind_some,List.drop_zero,Option.some.injEq,Prod.mk.injEq,and_true];rw[List.take_of_length_le om]
theorem TF {s:St}{j1 d n:Nat}{a b:List LV}{L:Int}{er:LV}(h1:s.get j1=some (.cells .mut a)) (h2:s.get d=some (.cells .mut b)) (l1:a.length=n) (l2:b.length=n) (c1:LV.closed.aq a=true) (c2:LV.closed.aq b=true) (f:er.closed=true) :
 ∃ s',cK aY (.cy [.agg [.int .i64 L, .int .i64 0, .aD j1 0 n 1, .aD d 0 n 1],er]) s=some (.cy [.agg [.int .i64 L, .int .i64 0, .aB a n, .aB b n],er],s'):=by
 have a1:cK 38 (.aD j1 0 n 1) s=some (.aB a n,s.put j1 (.cells .app a)):=kU 36 h1 l1 c1;have c:∃ m,(s.put j1 (.cells .app a)).get d=some (.cells m b):=by
  by_cases e:d=j1
  ·subst e;rw[h1]at h2;cases h2;exact⟨_,by rw[St.ah,if_pos rfl]⟩
  ·exact⟨_,by rw[St.ah,if_neg e];exact h2⟩
 obtain⟨m,c⟩:=c;have a2:=Ld 36 c l2 c2;have g:=λs=>g8 (n:=37) (v:=.int .i64 L) (s:=s) rfl;have h:=λs=>g8 (n:=37) (v:=.int .i64 0) (s:=s) rfl;have i:=λs=>g8 (n:=38) (v:=er) (s:=s) f;have a3:∃ s',cK 39 (.agg [.int .i64 L, .int .i64 0, .aD j1 0 n 1, .aD d 0 n 1]) s=some (.agg [.int .i64 L, .int .i64 0, .aB a n, .aB b n],s'):=by
  refine⟨((s.put j1 (.cells .app a)).put d (.cells (if m = .mut then .app else m) b)),TJ 38 (by simp[LV.closed,LV.closed.aq]) ?_⟩
  ·simp only[cK.cu,g,h,a1,a2,Option.bind_eq_bind,Option.bind_some]
 obtain⟨s',a3⟩:=a3;refine⟨s',?_⟩;show cK (39+1) _ s=_;unfold cK;simp[LV.closed,LV.closed.aq,cK.cu,a3,i]
def PX (B:Bu) (most:Nat) (r:LV):Prop:=(∃ n a b c d,r = .cy [.agg [.int .i64 B.L, .int .i64 0,a,b], .int .i64 0]/\Fits B most n/\dF a (vz B n) c/\dF b (Nq B n) d)∨(r = .cy [.agg [.int .i64 0, .int .i64 0, .aj, .aj], .int .i64 2]/\Over B most)
theorem HV {f:Nat->List Int}{R:List LV}{n:Nat}(hl:R.length=n) (b:n<=1000) (h:∀ j,j<n->aM (R.getD j .top) (f j)):dF (.aB R n) ((List.range n).map f) R:=by
 have c:maxLen=9223372036854775807:=by decide
 refine⟨?_,by simp[hl],by simp;omega,λi a=>?_⟩
 ·have:Sl (.aB R n) R n:=.aB _ _;simpa using this
 ·simp only[List.length_map,List.length_range]at a;rw[fc a];exact h i a
theorem LB {b:LV}{B:Bu}{l m:LV}{most:Nat}(hB:zW b B l m) (c:Vb B) (o:B.next.length<=10) (hl:B.start.length<=64) (p:1<=most) (q:most<=1000):PE 7 [b, .int .i64 (most:Int)] (PX B most):=by
 refine⟨rfl,by simp[LV.closed.aq,LV.closed,hB.closed],aJ.mono (Qi hB c o hl (Se c) p q St.empty) λr s' s=>?_⟩;obtain⟨-,-,⟨n,z,A,rfl,a,⟨d,e,f,t⟩,⟨g,i,j,u⟩,-⟩ | ⟨rfl,ho⟩⟩:=s
 ·have k:0<n:=by
   rcases Nat.eq_zero_or_pos n with h | h
   ·subst h;exact absurd a.1 (by show ¬ (0:Nat)=1;omega)
   ·exact h
  have C:n<=most:=by have:=a.2.2 n (Nat.le_refl _);have:=a.1;omega
  have l1:d.length=n:=by have:=e.1;omega
  have l2:g.length=n:=by have:=i.1;omega
  obtain⟨j1,rfl,D,v⟩:=e.pos k;obtain⟨E,rfl,F,w⟩:=i.pos k;obtain⟨x,y⟩:=TF (L:=B.L) (er:=.int .i64 0) v w l1 l2 f j rfl;exact⟨_,x,y,by simp[LV.closed,LV.closed.aq,f,j], .inl ⟨n,_,_,d,g,rfl,a,HV l1 om t,HV l2 om u⟩⟩
 ·exact⟨_,s',bf rfl,rfl, .inr ⟨rfl,ho⟩⟩
theorem TM {v st lo:LV}{B:Bu}{n o:LV}{S L:List Int}(hB:zW v B n o) (i:aM st S) (k:aM lo L):PE 6 [v, .agg [st,lo]] (λr=>∃ b,r = .bool b/\(b=true->B.next.length<=10/\B.L<=20/\B.start.length<=20/\Vb B/\Fm S L/\kO S B.L/\kO L B.L)):=by
 have l:=hB.closed;have m:(LV.agg [st,lo]).closed=true:=by simp[LV.closed,LV.closed.aq,i.closed,k.closed]
 have c:=M7 hB;have p:=F5 hB;have q:=MU i k;have s:=FT i k B.L;obtain⟨rfl,hs,t⟩:=hB;obtain⟨vs,u⟩:=t;have F:=hs.sl.cell;have G:=u.sl.cell;have H:=i.sl.cell;have I:=k.sl.cell;have w:∀ {b:Bool},((∀ j,j<S.length->S.getD j 0<B.L)/\(∀ j,j<L.length->L.getD j 0<B.L)/\Fm S L)->kO S B.L/\kO L B.L:=λh=>by
  obtain⟨h1,h2,h3,J,K,h6,x⟩:=h;exact⟨λj d=>⟨(h6 j d).1,h1 j d⟩,λj d=>⟨(x j d).1,h2 j d⟩⟩
 refine n8 Try.func6 (by decide +kernel) c6 (Nat.le_of_ble_eq_true rfl) (by simp[LV.closed.aq,l,m]) ?_;refine pF λe M N=>?_;unfold l6;dsimp only[jA,jD,qL,qN,qF,qK,qO,qG,qm];repeat' (first | refine gA (And.intro @l @m) ?_ | (refine gB (And.intro @l @m) ?_;rintro (_|_) a<;>try simp only[aG,reduceCtorEq]at a<;>try first | (exfalso;omega) | exact a.elim) | apply aA | fail)
 refine cW ez c wN (by simp only[List.map,lk,Nat.reduceEqDiff,if_false,if_true,List.map]) (λr y O=>⟨trivial,?_⟩);obtain⟨b,rfl,z⟩:=y;simp only[Env.au];cases b with
 | false=>
   repeat' (first | refine gA trivial ?_ | (refine gB trivial ?_;rintro (_|_) a<;>try simp only[aG,reduceCtorEq]at a<;>try first | (exfalso;omega) | exact a.elim) | apply aA | fail)
   exact⟨.inr trivial, .bool false,by simp only[br];rfl, .bool false,_,bf rfl,rfl,false,rfl,λh=>by cases h⟩
 | true=>
   obtain⟨A,C,D⟩:=z rfl;repeat' (first | refine gA trivial ?_ | (refine gB trivial ?_;rintro (_|_) a<;>try simp only[aG,reduceCtorEq]at a<;>try first | (exfalso;omega) | exact a.elim) | apply aA | fail)
   refine dN ez (p) (by first | exact wN | (apply wG;(simp only[lk,Nat.reduceEqDiff,reduceIte];(try rfl);done))) (by simp only[List.map,lk,Nat.reduceEqDiff,reduceIte];try rfl) (λf a=>⟨by first | trivial | (simp only[cH,aE,aR.run,Env.au,Env.bI,svq,Nat.reduceEqDiff,Nat.reduceAdd,Nat.reduceLeDiff,reduceIte,aT,eH,List.map,bC,beq_self_eq_true,reduceCtorEq,false_or,true_and,and_true,Option.some.injEq, *];done),?_⟩);simp only[Env.au];cases f<;>simp only[decide_eq_true_eq,decide_eq_false_iff_not]at a
   ·repeat' (first | refine gA trivial ?_ | (refine gB trivial ?_;rintro (_|_) a<;>try simp only[aG,reduceCtorEq]at a<;>try first | (exfalso;omega) | exact a.elim) | apply aA | fail)
    exact⟨.inr trivial, .bool false,by simp only[br];rfl, .bool false,_,bf rfl,rfl,false,rfl,λh=>by cases h⟩
   have E:=Bx.mk a;clear a;repeat' (first | refine gA trivial ?_ | (refine gB trivial ?_;rintro (_|_) a<;>try simp only[aG,reduceCtorEq]at a<;>try first | (exfalso;omega) | exact a.elim) | apply aA | fail)
   refine dN ez (q) (by first | exact wN | (apply wG;(simp only[lk,Nat.reduceEqDiff,reduceIte];(try rfl);done))) (by simp only[List.map,lk,Nat.reduceEqDiff,reduceIte];try rfl) (λf a=>⟨by first | trivial | (simp only[cH,aE,aR.run,Env.au,Env.bI,svq,Nat.reduceEqDiff,Nat.reduceAdd,Nat.reduceLeDiff,reduceIte,aT,eH,List.map,bC,beq_self_eq_true,reduceCtorEq,false_or,true_and,and_true,Option.some.injEq, *];done),?_⟩);simp only[Env.au];cases f<;>simp only[decide_eq_true_eq,decide_eq_false_iff_not]at a
   ·repeat' (first | refine gA trivial ?_ | (refine gB trivial ?_;rintro (_|_) a<;>try simp only[aG,reduceCtorEq]at a<;>try first | (exfalso;omega) | exact a.elim) | apply aA | fail)
    exact⟨.inr trivial, .bool false,by simp only[br];rfl, .bool false,_,bf rfl,rfl,false,rfl,λh=>by cases h⟩
   clear a;repeat' (first | refine gA trivial ?_ | (refine gB trivial ?_;rintro (_|_) a<;>try simp only[aG,reduceCtorEq]at a<;>try first | (exfalso;omega) | exact a.elim) | apply aA | fail)
   refine dN ez (s) (by first | exact wN | (apply wG;(simp only[lk,Nat.reduceEqDiff,reduceIte];(try rfl);done))) (by simp only[List.map,lk,Nat.reduceEqDiff,reduceIte];try rfl) (λf a=>⟨by first | trivial | (simp only[cH,aE,aR.run,Env.au,Env.bI,svq,Nat.reduceEqDiff,Nat.reduceAdd,Nat.reduceLeDiff,reduceIte,aT,eH,List.map,bC,beq_self_eq_true,reduceCtorEq,false_or,true_and,and_true,Option.some.injEq, *];done),?_⟩);simp only[Env.au];cases f<;>simp only[decide_eq_true_eq,decide_eq_false_iff_not]at a
   ·repeat' (first | refine gA trivial ?_ | (refine gB trivial ?_;rintro (_|_) a<;>try simp only[aG,reduceCtorEq]at a<;>try first | (exfalso;omega) | exact a.elim) | apply aA | fail)
    exact⟨.inr trivial, .bool false,by simp only[br];rfl, .bool false,_,bf rfl,rfl,false,rfl,λh=>by cases h⟩
   have g:=Bx.mk a;clear a;repeat' (first | refine gA trivial ?_ | (refine gB trivial ?_;rintro (_|_) a<;>try simp only[aG,reduceCtorEq]at a<;>try first | (exfalso;omega) | exact a.elim) | apply aA | fail)
   exact⟨.inr trivial, .bool true,by simp only[br];rfl, .bool true,_,bf rfl,rfl,true,rfl,λ_=>⟨A,C,D,E.out,g.out.2.2,w (b:=true) g.out⟩⟩
theorem Gv:∀ u,qW Try.prog 9 Try.f3.params.toList u->VG Try.prog 3 u:=by
 intro u h;rw[Try.params3]at h;cases h with | cons a h=>cases h with | cons b h=>
 cases h;obtain⟨B,sv,nv,hB,-⟩:=argB a;obtain⟨st,lo,S,L,rfl,g,i⟩:=argL b;refine⟨Try.f3,[],l3,Try.func3,by decide +kernel,c3,Nat.le_of_ble_eq_true rfl,aQ.mono (Q:=λo e s=>(o = .normal∨o = .jmp .ret)/\e.at 4 = .bool true) (Cd.out ?_) λo e s E=>⟨E.1,by simp[l3,br,bO,E.2]⟩⟩;have m:=hB.closed;have p:(LV.agg [st,lo]).closed=true:=by simp[LV.closed,LV.closed.aq,g.closed,i.closed]
 have F:=TM hB g i;have v:=Qm hB g i;have d:=λ(M:Vb B) (h1:B.next.length<=10) (h2:B.start.length<=20)=>LB (most:=150) hB M h1 om (by decide) (by decide);obtain⟨rfl,N,vs,O⟩:=hB;have mZ:=N.sl.cell;have uD:=O.sl.cell;have Ez:=g.sl.cell;have Xt:=i.sl.cell;refine pF λe P R=>?_;unfold l3;dsimp only[jA,jB,jD,jE,jG,qM,qN,qK,qO,qG,qm];repeat' (first | refine gN (And.intro @m @p) ?_ | (refine gB (And.intro @m @p) ?_;rintro (_|_) c<;>try simp only[aG,reduceCtorEq]at c<;>try first | (exfalso;omega) | exact c.elim) | fail)
 refine dR ez (KZ) (by first | exact wN | (apply wG;(simp only[lk,Nat.reduceEqDiff,reduceIte,P,R];(try rfl);done))) (by simp only[List.map];try rfl) (by first | trivial | (simp only[cH,aE,aR.run,Env.au,Env.bI,svq,Nat.reduceEqDiff,Nat.reduceAdd,Nat.reduceLeDiff,reduceIte,aT,eH,List.map,bC,beq_self_eq_true,reduceCtorEq,false_or,true_and,and_true,Option.some.injEq, *];done)) ?_;simp only[Env.au];repeat' (first | refine gA (And.intro @m @p) ?_ | (refine gB (And.intro @m @p) ?_;rintro (_|_) c<;>try simp only[aG,reduceCtorEq]at c<;>try first | (exfalso;omega) | exact c.elim) | apply aA | fail)
 refine cW ez F wN (by simp only[List.map,lk,Nat.reduceEqDiff,if_false,if_true,List.map]) (λr x T=>⟨trivial,?_⟩);obtain⟨b,rfl,G⟩:=x;simp only[Env.au];cases b with
 | false=>
   repeat' (first | refine gA trivial ?_ | (refine gB trivial ?_;rintro (_|_) c<;>try simp only[aG,reduceCtorEq]at c<;>try first | (exfalso;omega) | exact c.elim) | apply aA | fail)
   exact⟨.inr trivial,ef⟩
 | true=>
   obtain⟨y,kT,U,z,A⟩:=G rfl;have j:=d z y U;repeat' (first | refine gA trivial ?_ | (refine gB trivial ?_;rintro (_|_) c<;>try simp only[aG,reduceCtorEq]at c<;>try first | (exfalso;omega) | exact c.elim) | apply aA | fail)
   refine cW ez j wN (by simp only[List.map,lk,dJ,Nat.reduceEqDiff,if_false,if_true,List.map];rfl) (λr x T=>⟨trivial,?_⟩);simp only[Env.au];rcases x with⟨n,V,X,V1,V2,rfl,Y,q,t⟩ | ⟨rfl,-⟩
   rotate_left
   ·repeat' (first | refine gA trivial ?_ | (refine gB trivial ?_;intro k c;cases k<;>(try simp only[aG]at c)<;>(try first | omega | exact c.elim)) | apply aA | fail)
    exact⟨.inr trivial,ef⟩
   obtain⟨C,D,H⟩:=Y;have I:n<=1000:=by have:=H n (Nat.le_refl _);omega
   have J:=UJ z y I D C;have Z:=q.sl.cell;have hc6:=t.sl.cell;have f:(LV.agg [.int .i64 B.L, .int .i64 0,V,X]).closed=true:=by simp[LV.closed,LV.closed.aq,q.closed,t.closed]
   have K:=Au (L:=B.L) (S:=0) q t;rw[decide_eq_true J]at K;have l:=Ri (L:=B.L) (S:=0) q t g i;rw[NA z y I D C A]at l;generalize decide (AW B S L)=w at *;clear J C D H G j d F;repeat' (first | refine gA @f ?_ | (refine gB @f ?_;intro k c;cases k<;>(try simp only[aG]at c)<;>(try first | omega | exact c.elim)) | apply aA | fail)
   refine dR ez (K) (by first | exact wN | (apply wG;(simp only[lk,Nat.reduceEqDiff,reduceIte];(try rfl);done))) (by simp only[List.map,lk,Nat.reduceEqDiff,reduceIte];try rfl) (by first | trivial | (simp only[cH,aE,aR.run,Env.au,Env.bI,svq,Nat.reduceEqDiff,Nat.reduceAdd,Nat.reduceLeDiff,reduceIte,aT,eH,List.map,bC,beq_self_eq_true,reduceCtorEq,false_or,true_and,and_true,Option.some.injEq, *];done)) ?_;simp only[Env.au];repeat' (first | refine gA @f ?_ | (refine gB @f ?_;rintro (_|_) c<;>try simp only[aG,reduceCtorEq]at c<;>try first | (exfalso;omega) | exact c.elim) | apply aA | fail)
   refine dR ez (l) (by first | exact wN | (apply wG;(simp only[lk,Nat.reduceEqDiff,reduceIte];(try rfl);done))) (by simp only[List.map,lk,Nat.reduceEqDiff,reduceIte];try rfl) (by first | trivial | (simp only[cH,aE,aR.run,Env.au,lk,dJ,gW,Nat.reduceEqDiff,Nat.reduceAdd,if_false,if_true,aT,beq_self_eq_true,false_or,and_true,Option.some.injEq, *];done)) ?_;simp only[Env.au];repeat' (first | refine gA @f ?_ | (refine gB @f ?_;rintro (_|_) c<;>try simp only[aG,reduceCtorEq]at c<;>try first | (exfalso;omega) | exact c.elim) | apply aA | fail)
   refine dR ez (v) (by first | exact wN | (apply wG;(simp only[lk,Nat.reduceEqDiff,reduceIte];(try rfl);done))) (by simp only[List.map,lk,Nat.reduceEqDiff,reduceIte];try rfl) (by first | trivial | (simp only[cH,aE,aR.run,Env.au,Env.bI,svq,Nat.reduceEqDiff,Nat.reduceAdd,Nat.reduceLeDiff,reduceIte,aT,eH,List.map,bC,beq_self_eq_true,reduceCtorEq,false_or,true_and,and_true,Option.some.injEq, *];done)) ?_;simp only[Env.au];cases w;all_goals
    repeat' (first | refine gA trivial ?_ | (refine gB trivial ?_;intro k c;cases k<;>(try simp only[aG,if_false]at c)<;>(try first | omega | exact c.elim)) | apply aA | fail)
    all_goals first
     | exact⟨.inr trivial,ef⟩
     | (exfalso;simp at c;done)
     | (exfalso;exact c trivial)
     | (exfalso;exact c rfl)
end Go.Proofs.Ytkbiecjdcjfhaaa
end
