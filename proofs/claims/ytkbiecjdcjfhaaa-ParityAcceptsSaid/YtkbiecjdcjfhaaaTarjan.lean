/- Automata that accept by good moves again and again: words, runs, and the graph of places of a lasso. No program is in sight. -/
import Derived.Test.YtkbiecjdcjfhaaaOm
set_option linter.unusedSimpArgs false
set_option linter.unusedVariables false
set_option maxRecDepth 100000
set_option maxHeartbeats 16000000
section
namespace Go.C2
abbrev Mv:=Nat->Nat->List (Nat × Bool)
def Acc (start:Nat->Prop) (mv:Mv) (w:Nat->Nat):Prop:=
 ∃ (q:Nat->Nat) (g:Nat->Bool),start (q 0)/\(∀ i,(q (i+1),g i)∈mv (q i) (w i))/\∀ T,∃ i,T<=i/\g i=true
inductive jR {α:Type}(E:α->α->Prop):Nat->α->α->Prop
  | nil (x:α):jR E 0 x x
  | cons {n:Nat}{x y z:α}(h:E x y) (k:jR E n y z):jR E (n+1) x z
theorem jR.trans {α:Type}{E:α->α->Prop}{m n:Nat}{x y z:α}(h:jR E m x y) (k:jR E n y z):jR E (m+n) x z:=by
 induction h with
 | nil=>simpa using k
 | cons e _ ih=>rw[Nat.add_right_comm];exact .cons e (ih k)
theorem jR.snoc {α:Type}{E:α->α->Prop}{m:Nat}{x y z:α}(h:jR E m x y) (k:E y z):jR E (m+1) x z:=h.trans (.cons k (.nil z))
theorem jR.fn {α:Type}{E:α->α->Prop}{n:Nat}{x y:α}(h:jR E n x y):∃ f:Nat->α,f 0=x/\f n=y/\∀ i,i<n->E (f i) (f (i+1)):=by
 induction h with
 | nil x=>exact⟨λ_=>x,rfl,rfl,λi a=>absurd a (Nat.not_lt_zero _)⟩
 | @cons n x y z e _ ih=>
   obtain⟨f,h0,h1,h2⟩:=ih;refine⟨λi=>match i with | 0=>x | i+1=>f i,rfl,h1,λi a=>?_⟩;cases i with
   | zero=>simpa[h0] using e
   | succ i=>exact h2 i om
theorem jR.NI {α:Type}{E:α->α->Prop}(f:Nat->α):∀ (n i:Nat),(∀ j,i<=j->j<i+n->E (f j) (f (j+1)))->jR E n (f i) (f (i+n))
 | 0,i,_=>by simpa using jR.nil (f i)
 | n+1,i,h=>by
   have:=jR.NI f n (i+1) λj a b=>h j om om;rw[show i+1+n=i+(n+1) by omega]at this;exact .cons (h i (Nat.le_refl _) om) this
theorem RT (n:Nat):∀ l:List Nat,l.Nodup->(∀ x∈l,x<n)->l.length<=n:=by
 induction n with
 | zero=>
   intro l _ h;cases l with
   | nil=>simp
   | cons a l=>exact absurd (h a (by simp)) (Nat.not_lt_zero _)
 | succ n ih=>
   intro l c h;by_cases hm:n∈l
   ·have h1:=ih (l.erase n) (c.erase n) λx hx=>by
     have a:=h x (List.mem_of_mem_erase hx);have b:x≠n:=by rintro rfl;exact (List.Nodup.not_mem_erase c) hx
     omega
    rw[List.length_erase_of_mem hm]at h1;omega
   ·have:=ih l c λx hx=>by
     have a:=h x hx;have b:x≠n:=by rintro rfl;exact hm hx
     omega
    omega
theorem MF {N:Nat}(f:Nat->Nat) (g:∀ i,f i<N) (t:Nat->Nat) (e:∀ i,t i<t (i+1)):∃ i j,i<j/\f (t i)=f (t j):=by
 have mono:∀ i d,t i<t (i+d+1):=by
  intro i d;induction d with
  | zero=>exact e i
  | succ d ih=>exact Nat.lt_trans ih (e _)
 by_cases c:∃ i j,i<j/\f (t i)=f (t j)
 ·exact c
 ·have h:((List.range (N+1)).map λi=>f (t i)).Nodup:=by
   rw[List.nodup_iff_pairwise_ne,List.pairwise_map];refine List.Pairwise.imp ?_ (List.pairwise_lt_range);intro a b k l;exact c ⟨a,b,k,l⟩
  have:=RT N _ h λx hx=>by
   obtain⟨i,_,rfl⟩:=List.mem_map.1 hx;exact g _
  simp at this;omega
structure Tk where
  n:Nat
  back:Nat
  lt:Nat->Nat
  mv:Mv
def Tk.fS (k:Tk) (p:Nat):Nat:=if p+1=k.n then k.back else p+1
def Tk.pos (k:Tk):Nat->Nat
 | 0=>0
 | i+1=>k.fS (k.pos i)
def Tk.word (k:Tk) (i:Nat):Nat:=k.lt (k.pos i)
abbrev Pl:=Nat × Nat
def Tk.rG (k:Tk) (x:Pl):List (Nat × Bool):=k.mv x.2 (k.lt x.1)
def Tk.after (k:Tk) (x:Pl) (m:Nat × Bool):Pl:=(k.fS x.1,m.1)
def Tk.E (k:Tk) (x y:Pl):Prop:=∃ m∈k.rG x,k.after x m=y
theorem Tk.Ns {k:Tk}(h0:0<k.n) (a:k.back<k.n):∀ i,k.pos i<k.n
 | 0=>h0
 | i+1=>by
   have:=Tk.Ns h0 a i;simp only[Tk.pos,Tk.fS];split<;>omega
theorem T5 {k:Tk}{start:Nat->Prop}{S:Nat}(h0:0<k.n) (B:k.back<k.n) (hs:∀ q,start q->q<S) (hm:∀ q a,q<S->∀ m∈k.mv q a,m.1<S) :
 Acc start k.mv k.word↔∃ (q:Nat) (a:Nat) (x:Pl) (m:Nat × Bool) (b:Nat),start q/\jR k.E a (0,q) x/\m∈k.rG x/\m.2=true/\jR k.E b (k.after x m) x:=by
 constructor
 ·rintro⟨q,g,h1,h2,h3⟩;have C:∀ i,q i<S:=by
   intro i;induction i with
   | zero=>exact hs _ h1
   | succ i ih=>exact hm _ _ ih _ (h2 i)
  have P:∀ i,k.E (k.pos i,q i) (k.pos (i+1),q (i+1)):=λi=>⟨(q (i+1),g i),h2 i,rfl⟩;have hp:=Tk.Ns h0 B;let nx:Nat->Nat:=λT=>Classical.choose (h3 T);have w:∀ T,T<=nx T/\g (nx T)=true:=λT=>Classical.choose_spec (h3 T);let t:Nat->Nat:=λi=>Nat.rec (nx 0) (λ_ r=>nx (r+1)) i;have Q:∀ i,t (i+1)=nx (t i+1):=λ_=>rfl;have tg:∀ i,g (t i)=true:=λi=>by
   cases i with
   | zero=>exact (w 0).2
   | succ i=>rw[Q];exact (w _).2
  have D:∀ i,t i<t (i+1):=λi=>by
   rw[Q];have:=(w (t i+1)).1;omega
  have code:∀ {a b c d:Nat},b<S->d<S->a*S+b=c*S+d->a=c/\b=d:=by
   intro a b c d B hd F;have p:(a*S+b) % S=b:=by rw[Nat.add_comm,Nat.add_mul_mod_self_right,Nat.mod_eq_of_lt B]
   have u:(c*S+d) % S=d:=by rw[Nat.add_comm,Nat.add_mul_mod_self_right,Nat.mod_eq_of_lt hd]
   have Vp:b=d:=by rw[<- p,<- u,F]
   have hS:0<S:=by omega
   subst Vp;have:a*S=c*S:=by omega
   exact⟨Nat.eq_of_mul_eq_mul_right hS this,rfl⟩
  obtain⟨i,j,hij,F⟩:=MF (N:=k.n*S) (λi=>k.pos i*S+q i) (λi=>by
   have a:=hp i;have b:=C i;have:(k.pos i+1)*S<=k.n*S:=Nat.mul_le_mul_right _ a;rw[Nat.add_mul,Nat.one_mul]at this;omega) t D
  obtain⟨p,u⟩:=code (C _) (C _) F;have G:∀ d,t i<t (i+d+1):=by
   intro d;induction d with
   | zero=>exact D i
   | succ d ih=>exact Nat.lt_trans ih (D (i+d+1))
  have cm:t i<t j:=by
   have:=G (j - i - 1);rw[show i+(j - i - 1)+1=j by omega]at this;exact this
  have R:=jR.NI (E:=k.E) (λi=>(k.pos i,q i)) (t i) 0 λj _ _=>P j;have H:=jR.NI (E:=k.E) (λi=>(k.pos i,q i)) (t j - (t i+1)) (t i+1) λj _ _=>P j;rw[Nat.zero_add]at R;rw[show t i+1+(t j - (t i+1))=t j by omega]at H;refine⟨q 0,t i,(k.pos (t i),q (t i)),(q (t i+1),g (t i)),t j - (t i+1),h1,R,h2 _,tg i,?_⟩;have I:(k.pos (t j),q (t j))=(k.pos (t i),q (t i)):=by rw[<- p,<- u]
  rw[I]at H;exact H
 ·rintro⟨q0,a,x,m,b,h1,hw,U,V,hc⟩;obtain⟨f,f0,X,fE⟩:=hw.fn;obtain⟨c,c0,Y,Z⟩:=hc.fn;let l:Nat->Pl:=λi=>if i % (b+1)=0 then x else c (i % (b+1) - 1)
  have y:∀ i,∃ o,o∈k.rG (l i)/\k.after (l i) o=l (i+1)/\(i % (b+1)=0->o.2=true):=by
   intro i;have cm:=Nat.mod_lt i (show b+1 > 0 by omega);have J:∀ j,j % (b+1)=0->l j=x:=λj K=>by simp only[l,K,if_true]
   have cs:∀ j r,j % (b+1)=r+1->l j=c r:=λj r K=>by simp only[l,K,Nat.succ_ne_zero,if_false,Nat.add_sub_cancel]
   by_cases A:i % (b+1)=b
   ·have L:(i+1) % (b+1)=0:=by
     rw[Nat.add_mod,A];by_cases zM:b=0
     ·subst zM;rfl
     ·rw[Nat.mod_eq_of_lt (show 1<b+1 by omega),Nat.mod_self]
    have u:l (i+1)=x:=J _ L;rw[u];cases z:b with
    | zero=>
      have p:l i=x:=J _ (by rw[A,z]);have:k.after x m=x:=by rw[<- c0,<- Y,z]
      rw[p];exact⟨m,U,this,λ_=>V⟩
    | succ r=>
      have p:l i=c r:=cs _ _ (by rw[A,z]);obtain⟨o,m1,v⟩:=Z r om;rw[p];refine⟨o,m1,by rw[v,<- Y,z],λh=>?_⟩;rw[<- z,A]at h;omega
   ·have L:(i+1) % (b+1)=i % (b+1)+1:=by
     rw[Nat.add_mod];by_cases zM:b=0
     ·omega
     ·rw[Nat.mod_eq_of_lt (show 1<b+1 by omega),Nat.mod_eq_of_lt om]
    have u:l (i+1)=c (i % (b+1)):=cs _ _ L;rw[u];cases hr:i % (b+1) with
    | zero=>
      have p:l i=x:=J _ hr;rw[p,c0];exact⟨m,U,rfl,λ_=>V⟩
    | succ r=>
      have p:l i=c r:=cs _ _ hr;obtain⟨o,m1,v⟩:=Z r om;rw[p];exact⟨o,m1,v,λh=>absurd h om⟩
  let run:Nat->Pl:=λi=>if i<a then f i else l (i - a)
  have M:∀ i,∃ o,o∈k.rG (run i)/\k.after (run i) o=run (i+1)/\(a<=i->(i - a) % (b+1)=0->o.2=true):=by
   intro i;by_cases O:i<a
   ·obtain⟨o,m1,v⟩:=fE i O;have p:run i=f i:=by simp only[run,O,if_true]
    have u:run (i+1)=f (i+1):=by
     by_cases mQ:i+1<a
     ·simp only[run,mQ,if_true]
     ·have:i+1=a:=by omega
      simp only[run,this,Nat.lt_irrefl,if_false,Nat.sub_self,l,Nat.zero_mod,if_true,X]
    rw[p,u];exact⟨o,m1,v,λh=>absurd h om⟩
   ·have p:run i=l (i - a):=by simp only[run,O,if_false]
    have u:run (i+1)=l (i - a+1):=by
     have:¬ i+1<a:=by omega
     simp only[run,this,if_false];rw[show i+1 - a=i - a+1 by omega]
    obtain⟨o,m1,v,m3⟩:=y (i - a);rw[p,u];exact⟨o,m1,v,λ_ h=>m3 h⟩
  have ZS:run 0=(0,q0):=by
   by_cases ha:0<a
   ·simp only[run,ha,if_true,f0]
   ·have:a=0:=by omega
    subst this;simp only[run,Nat.lt_irrefl,if_false,Nat.sub_self,l,Nat.zero_mod,if_true];rw[<- X,f0]
  have oe:∀ i,(run i).1=k.pos i:=by
   intro i;induction i with
   | zero=>rw[ZS];rfl
   | succ i ih=>
     obtain⟨o,_,v,_⟩:=M i;rw[<- v];simp only[Tk.after,Tk.pos,ih]
  obtain⟨mf,QK⟩:∃ mf:Nat->Nat × Bool,∀ i,mf i∈k.rG (run i)/\k.after (run i) (mf i)=run (i+1)/\(a<=i->(i - a) % (b+1)=0->(mf i).2=true):=⟨λi=>Classical.choose (M i),λi=>Classical.choose_spec (M i)⟩;refine⟨λi=>(run i).2,λi=>(mf i).2,by simp only[ZS];exact h1,λi=>?_,λT=>?_⟩
  ·obtain⟨m1,v,_⟩:=QK i;have e:(run (i+1)).2=(mf i).1:=by rw[<- v];rfl
   simp only[e];simp only[Tk.rG,oe]at m1;exact m1
  ·refine⟨a+T*(b+1),?_,?_⟩
   ·have:T*1<=T*(b+1):=Nat.mul_le_mul_left _ om;omega
   ·exact (QK _).2.2 om (by rw[Nat.add_sub_cancel_left,Nat.mul_mod_left])
end Go.C2
end
section
namespace Go.Bn
variable {α:Type} [DecidableEq α]
abbrev Ac (α:Type):=List (α × Int)
def add (acc:Ac α) (p:α) (b:Int):Ac α:=if p∈acc.map (·.1) then acc else acc++[(p,b)]
def gJ (acc:Ac α) (l:List α) (b:Int):Ac α:=l.foldl (λacc p=>add acc p b) acc
def run (succ:α->List α):Nat->Nat->Ac α->Ac α
 | 0,_,acc=>acc
 | f+1,k,acc=>
   match acc[k]? with
   | none=>acc
   | some x=>run succ f (k+1) (gJ acc (succ x.1) k)
theorem Jn (acc:Ac α) (p:α) (b:Int):acc.length<=(add acc p b).length:=by unfold add;split<;>simp
theorem Qp (l:List α):∀ (acc:Ac α) (b:Int),acc.length<=(gJ acc l b).length:=by
 induction l with
 | nil=>intro acc b;exact Nat.le_refl _
 | cons p l ih=>intro acc b;exact Nat.le_trans (Jn acc p b) (ih _ _)
theorem Bl (acc:Ac α) (l:List α) (p:α) (b:Int):gJ acc (l++[p]) b=add (gJ acc l b) p b:=by simp[gJ]
theorem add_get {acc:Ac α}{p:α}{b:Int}{i:Nat}(h:i<acc.length):(add acc p b)[i]? = acc[i]? := by
 unfold add;split
 ·rfl
 ·rw[List.getElem?_append_left h]
theorem Qq {l:List α} : ∀ {acc:Ac α}{b:Int}{i:Nat},i<acc.length->(gJ acc l b)[i]? = acc[i]? := by
 induction l with
 | nil=>intros;rfl
 | cons p l ih=>
   intro acc b i h;have:=ih (acc:=add acc p b) (b:=b) (Nat.lt_of_lt_of_le h (Jn acc p b));rw[add_get h]at this;exact this
theorem T3 {acc:Ac α}{p:α}{b:Int}{x:α × Int}(h:x∈acc):x∈add acc p b:=by
 unfold add;split
 ·exact h
 ·exact List.mem_append_left _ h
theorem yZ {l:List α} : ∀ {acc:Ac α}{b:Int}{x:α × Int},x∈acc->x∈gJ acc l b:=by
 induction l with
 | nil=>intro acc b x h;exact h
 | cons p l ih=>intro acc b x h;exact ih (T3 h)
theorem T4 (acc:Ac α) (p:α) (b:Int):p∈(add acc p b).map (·.1):=by
 unfold add;split
 ·assumption
 ·simp
theorem Fc {l:List α} : ∀ {acc:Ac α}{b:Int}{p:α},p∈l->p∈(gJ acc l b).map (·.1):=by
 induction l with
 | nil=>intro acc b p h;cases h
 | cons a l ih=>
   intro acc b p h;rcases List.mem_cons.1 h with rfl | h
   ·obtain⟨x,hx,e⟩:=List.mem_map.1 (T4 acc p b);exact List.mem_map.2 ⟨x,yZ (l:=l) hx,e⟩
   ·exact ih h
structure Ok (succ:α->List α) (from_:List α) (R:α->Prop) (acc:Ac α):Prop where
  nd:(acc.map (·.1)).Nodup
  jd:∀ x∈acc,R x.1
  way:∀ (i:Nat) (x:α × Int),acc[i]? = some x->(x.2 = -1/\x.1∈from_)∨∃ (j:Nat) (y:α × Int),j<i/\x.2=(j:Int)/\acc[j]? = some y/\x.1∈succ y.1
theorem Ok.nil {a:Type}(succ:a->List a) (from_:List a) (R:a->Prop):Ok succ from_ R []:=⟨by simp,(λx h=>by cases h),(λi x h=>by simp at h)⟩
theorem Ok.add {succ:α->List α}{from_:List α}{R:α->Prop}{acc:Ac α}(h:Ok succ from_ R acc) {p:α}{b:Int}(g:R p) (d:(b = -1/\p∈from_)∨∃ (j:Nat) (y:α × Int),b=(j:Int)/\acc[j]? = some y/\p∈succ y.1):Ok succ from_ R (add acc p b):=by
 unfold Bn.add;split
 ·exact h
 ·rename_i k;refine⟨?_,?_,?_⟩
  ·rw[List.map_append,List.nodup_append];exact⟨h.nd,by simp,λa e c f=>by
    rintro rfl;rw[List.map_cons,List.map_nil,List.mem_singleton]at f;rw[f]at e;exact k e⟩
  ·intro x hx;rcases List.mem_append.1 hx with hx | hx
   ·exact h.jd x hx
   ·rw[List.mem_singleton.1 hx];exact g
  ·intro i x hx;by_cases l:i<acc.length
   ·rw[List.getElem?_append_left l]at hx;rcases h.way i x hx with m | ⟨j,y,h1,h2,h3,o⟩
    ·exact .inl m
    ·exact .inr ⟨j,y,h1,h2,by rw[List.getElem?_append_left om];exact h3,o⟩
   ·rw[List.getElem?_append_right om]at hx;have q:i - acc.length=0:=by
     have:=(List.getElem?_eq_some_iff.1 hx).1;simpa using this
    rw[q]at hx;cases hx;rcases d with d | ⟨j,y,h1,h2,h3⟩
    ·exact .inl d
    ·have r:=(List.getElem?_eq_some_iff.1 h2).1;exact .inr ⟨j,y,by omega,h1,by rw[List.getElem?_append_left r];exact h2,h3⟩
theorem Ok.gJ {succ:α->List α}{from_:List α}{R:α->Prop} : ∀ {l:List α}{acc:Ac α}(h:Ok succ from_ R acc) {b:Int}(a:∀ p∈l,R p) (c:∀ p∈l,(b = -1/\p∈from_)∨∃ (j:Nat) (y:α × Int),b=(j:Int)/\acc[j]? = some y/\p∈succ y.1),Ok succ from_ R (gJ acc l b):=by
 intro l;induction l with
 | nil=>intro acc h b _ _;exact h
 | cons p l ih=>
   intro acc h b a c;refine ih (h.add (a p (by simp)) (c p (by simp))) (λq d=>a q (List.mem_cons_of_mem _ d)) λq d=>?_;rcases c q (List.mem_cons_of_mem _ d) with e | ⟨j,y,h1,h2,h3⟩
   ·exact .inl e
   ·exact .inr ⟨j,y,h1,by rw[add_get (List.getElem?_eq_some_iff.1 h2).1];exact h2,h3⟩
theorem Ok.first {succ:α->List α}{from_:List α}{R:α->Prop}(a:∀ p∈from_,R p):Ok succ from_ R (Bn.gJ [] from_ (-1)):=(Ok.nil succ from_ R).gJ a λp b=>.inl ⟨rfl,b⟩
theorem Ok.step {succ:α->List α}{from_:List α}{R:α->Prop}{acc:Ac α}(h:Ok succ from_ R acc) (hs:∀ p,R p->∀ q∈succ p,R q) {k:Nat}{x:α × Int}(b:acc[k]? = some x):Ok succ from_ R (Bn.gJ acc (succ x.1) k) :=
 h.gJ (λp a=>hs _ (h.jd x (List.mem_of_getElem? b)) p a) λp a=>.inr ⟨k,x,rfl,b,a⟩
def Cl (succ:α->List α) (acc:Ac α) (k:Nat):Prop:=∀ (i:Nat) (x:α × Int),i<k->acc[i]? = some x->∀ p∈succ x.1,p∈acc.map (·.1)
theorem Cl.step {succ:α->List α}{acc:Ac α}{k:Nat}(h:Cl succ acc k) {x:α × Int}(b:acc[k]? = some x):Cl succ (gJ acc (succ x.1) k) (k+1):=by
 intro i y f a p c;have g:=(List.getElem?_eq_some_iff.1 b).1;rw[Qq om]at a;by_cases d:i=k
 ·subst d;rw[b]at a;cases a;exact Fc c
 ·obtain⟨z,e,rfl⟩:=List.mem_map.1 (h i y om a p c);exact List.mem_map.2 ⟨z,yZ e,rfl⟩
theorem VX {succ:α->List α}{from_:List α}{R:α->Prop}(hs:∀ p,R p->∀ q∈succ p,R q) {N:Nat}(d:∀ l:List α,l.Nodup->(∀ x∈l,R x)->l.length<=N):∀ (f k:Nat) (acc:Ac α),Ok succ from_ R acc->Cl succ acc k->(∀ p∈from_,p∈acc.map (·.1))->k+f=N+1 ->
 Ok succ from_ R (run succ f k acc)/\Cl succ (run succ f k acc) (run succ f k acc).length/\∀ p∈from_,p∈(run succ f k acc).map (·.1):=by
 intro f;induction f with
 | zero=>
   intro k acc h a b e;have hl:acc.length<=N:=by
    have:=d _ h.nd λx hx=>by obtain⟨y,g,rfl⟩:=List.mem_map.1 hx;exact h.jd y g
    simpa using this
   exact⟨h,λi x c hx=>a i x (by show i<k;have j:i<acc.length:=c;omega) hx,b⟩
 | succ f ih=>
   intro k acc h a b e;simp only[run];cases hx:acc[k]? with
   | none=>
     have:=List.getElem?_eq_none_iff.1 hx;exact⟨h,λi x c hx=>a i x (by show i<k;have j:i<acc.length:=c;omega) hx,b⟩
   | some x=>exact ih (k+1) _ (h.step hs hx) (a.step hx) (λp m=>by
    obtain⟨z,o,rfl⟩:=List.mem_map.1 (b p m);exact List.mem_map.2 ⟨z,yZ o,rfl⟩) om
def back (acc:Ac α):Nat->Int->List Nat
 | 0,_=>[]
 | f+1,i=>if i<0 then [] else i.toNat::back acc f (match acc[i.toNat]? with | some x=>x.2 | none=>-1)
def idx (p:α):List α->Nat->Option Nat
 | [],_=>none
 | q::r,i=>if p=q then some i else idx p r (i+1)
theorem nD {p:α} : ∀ {l:List α}{i:Nat},idx p l i=none↔p ∉ l:=by
 intro l;induction l with
 | nil=>intro i;simp[idx]
 | cons q r ih=>
   intro i;simp only[idx];split
   ·rename_i h;simp[h]
   ·rename_i h;rw[ih];simp[h]
theorem nC {p:α} : ∀ {l:List α}{i j:Nat},idx p l i=some j->i<=j/\l[j - i]? = some p:=by
 intro l;induction l with
 | nil=>intro i j h;cases h
 | cons q r ih=>
   intro i j h;simp only[idx]at h;split at h
   ·rename_i e;cases h;subst e;simp
   ·obtain⟨a,b⟩:=ih h;exact⟨by omega,by rw[show j - i=j - (i+1)+1 by omega];simpa using b⟩
theorem IK {l:List α}(e:l.Nodup) {p:α}{i:Nat}(h:l[i]? = some p):idx p l 0=some i:=by
 cases hx:idx p l 0 with
 | none=>exact absurd (List.mem_of_getElem? h) (nD.1 hx)
 | some j=>
   obtain⟨_,b⟩:=nC hx;rw[Nat.sub_zero]at b;obtain⟨h1,h2⟩:=List.getElem?_eq_some_iff.1 h;obtain⟨h3,c⟩:=List.getElem?_eq_some_iff.1 b;have d:=List.pairwise_iff_getElem.1 (List.nodup_iff_pairwise_ne.1 e);rcases Nat.lt_trichotomy i j with a | rfl | a
   ·exact absurd (by rw[h2,c]) (d i j h1 h3 a)
   ·rfl
   ·exact absurd (by rw[h2,c]) (d j i h3 h1 a)
end Go.Bn
end
section
namespace Go.CC
inductive wD (nx:Nat->List Nat):Nat->Nat->Prop
  | refl (u:Nat):wD nx u u
  | head {u v w:Nat}(h:v∈nx u) (k:wD nx v w):wD nx u w
theorem wD.trans {nx:Nat->List Nat}{u v w:Nat}(h:wD nx u v) (k:wD nx v w):wD nx u w:=by
 induction h with
 | refl=>exact k
 | head e _ ih=>exact .head e (ih k)
theorem wD.one {nx:Nat->List Nat}{u v:Nat}(h:v∈nx u):wD nx u v:=.head h (.refl v)
theorem wD.closed {nx:Nat->List Nat}{u v:Nat}(h:wD nx u v) {K:Nat->Prop}(d:∀ a,K a->∀ b∈nx a,K b) (c:K u):K v:=by
 induction h with
 | refl=>exact c
 | head e _ ih=>exact ih (d _ c _ e)
def jT (f:Nat->Nat) (v x:Nat):Nat->Nat:=λu=>if u=v then x else f u
@[simp] theorem nh (f:Nat->Nat) (v x:Nat):jT f v x v=x:=by simp[jT]
theorem jc (f:Nat->Nat) {v u:Nat}(x:Nat) (h:u≠v):jT f v x u=f u:=by simp[jT,h]
structure S where
  idx:Nat->Nat
  low:Nat->Nat
  part:Nat->Nat
  done:Nat->Nat
  qQ:Nat
  stack:List Nat
  path:List Nat
structure Inv (n:Nat) (nx:Nat->List Nat) (s:S):Prop where
  jd:∀ v,s.idx v≠0->v<n/\s.idx v<=s.qQ
  inj:∀ u v,s.idx u≠0->s.idx u=s.idx v->u=v
  mem:∀ v,v∈s.stack↔s.idx v≠0/\s.part v=0
  By:s.stack.Pairwise λa b=>s.idx a<s.idx b
  Z1:∀ v,s.part v≠0->s.idx v≠0
  kY:∀ v∈s.path,v∈s.stack
  BJ:s.path.Pairwise λa b=>s.idx a<s.idx b
  dle:∀ v,s.done v<=(nx v).length
  fresh:∀ v,s.idx v=0->s.done v=0
  link:∀ q∈s.path,(∀ w∈s.path,s.idx w<=s.idx q)∨∃ c∈s.path,(nx q)[s.done q]? = some c/\s.idx q<s.idx c/\∀ w∈s.path,s.idx q<s.idx w->s.idx c<=s.idx w
  fin:∀ v∈s.stack,v ∉ s.path->s.done v=(nx v).length/\s.low v<s.idx v
  clo:∀ v,s.part v≠0->∀ u∈nx v,s.part u≠0
  cls:∀ u v,s.part u≠0->s.part v≠0->(s.part u=s.part v↔wD nx u v/\wD nx v u)
  root:∀ u,s.part u≠0->∃ r,s.part r=s.part u/\s.idx r=s.part u
  lo:∀ v∈s.stack,∃ w∈s.stack,s.idx w=s.low v/\wD nx v w/\s.idx w<=s.idx v
  seen:∀ v k u,s.idx v≠0->k<s.done v->(nx v)[k]? = some u->s.idx u≠0/\(s.part v=0->s.part u=0->s.low v<=s.idx u)
  down:∀ p∈s.path,∀ w∈s.stack,s.idx p<=s.idx w->wD nx p w
  Kj:∀ p∈s.path,∀ w∈s.stack,s.idx p<s.idx w->s.low p<=s.low w∨∃ c∈s.stack,(nx p)[s.done p]? = some c/\s.idx p<s.idx c/\s.idx c<=s.idx w/\(c∈s.path∨s.low c<=s.low w)
def S.init:S:=⟨λ_=>0,λ_=>0,λ_=>0,λ_=>0,0,[],[]⟩
theorem Oj (n:Nat) (nx:Nat->List Nat):Inv n nx S.init:=by
 constructor<;>simp[S.init]
def S.enter (s:S) (v:Nat):S:=⟨jT s.idx v (s.qQ+1),jT s.low v (s.qQ+1),s.part,s.done,s.qQ+1,s.stack++[v],s.path++[v]⟩
def S.kr (s:S) (p u:Nat):S:={ s with low:=if s.part u=0 then jT s.low p (min (s.low p) (s.low u)) else s.low,done:=jT s.done p (s.done p+1) }
def S.BL (s:S):S:={ s with path:=s.path.dropLast }
def S.pN (s:S) (p:Nat):S:={ s with part:=λw=>if w∈s.stack/\s.idx p<=s.idx w then s.idx p else s.part w,stack:=s.stack.filter λw=>decide (s.idx w<s.idx p),path:=s.path.dropLast }
section
variable {n:Nat}{nx:Nat->List Nat}{s:S}
theorem Inv.sS (h:Inv n nx s) {l:List Nat}{p:Nat}(b:s.path=l++[p]):∀ w∈s.path,w≠p->s.idx w<s.idx p/\w∈l:=by
 intro w a dH;have hs:=h.BJ;rw[b]at hs a;rcases List.mem_append.1 a with a | a
 ·exact⟨(List.pairwise_append.1 hs).2.2 w a p (List.mem_singleton.2 rfl),a⟩
 ·exact absurd (List.mem_singleton.1 a) dH
theorem Inv.enter (h:Inv n nx s) {v:Nat}(hv:v<n) (h0:s.idx v=0) (I:s.path=[]∨∃ l p,s.path=l++[p]/\(nx p)[s.done p]? = some v):Inv n nx (s.enter v):=by
 have Z:s.part v=0:=by
  by_cases N:s.part v=0
  ·exact N
  ·exact absurd h0 (h.Z1 v N)
 have wo:v ∉ s.stack:=λhm=>((h.mem v).1 hm).1 h0;have S5:v ∉ s.path:=λhm=>wo (h.kY v hm);have M:∀ w∈s.stack,w≠v:=λw d e=>wo (e ▸ d);have j:∀ w∈s.path,w≠v:=λw d e=>S5 (e ▸ d);have g:∀ w,w≠v->(s.enter v).idx w=s.idx w:=λw d=>jc _ _ d;have J:∀ w,w≠v->(s.enter v).low w=s.low w:=λw d=>jc _ _ d;have y:(s.enter v).idx v=s.qQ+1:=nh _ _ _;have Q:(s.enter v).low v=s.qQ+1:=nh _ _ _;have D:∀ w∈s.stack,s.idx w<=s.qQ:=λw d=>(h.jd w ((h.mem w).1 d).1).2;have o:∀ w∈s.stack,(s.enter v).idx w=s.idx w:=λw d=>g w (M w d);have B:(s.enter v).stack=s.stack++[v]:=rfl;have F:(s.enter v).path=s.path++[v]:=rfl;have R:(s.enter v).part=s.part:=rfl;have C:(s.enter v).done=s.done:=rfl;have qQ:(s.enter v).qQ=s.qQ+1:=rfl;have K:∀ {w},w∈(s.enter v).stack->w∈s.stack∨w=v:=fun {w} d=>by simpa[B] using d
 have L:∀ {w},w∈(s.enter v).path->w∈s.path∨w=v:=fun {w} d=>by simpa[F] using d
 have lv : ∀ q ∈ s.path, ∃ c, (c ∈ s.path ∨ c = v) /\ (nx q)[s.done q]? = some c /\ s.idx q < (s.enter v).idx c /\ ∀ w, w ∈ s.path ∨ w = v -> s.idx q < (s.enter v).idx w -> (s.enter v).idx c <= (s.enter v).idx w := by
  intro q A;rcases h.link q A with hl | ⟨c,c1,c2,c3,c4⟩
  ·rcases I with I | ⟨l,p,m,T⟩
   ·rw[I]at A;cases A
   ·have uV:p∈s.path:=by rw[m];simp
    have U:q=p:=by
     by_cases e:q=p
     ·exact e
     ·have a:=(h.sS m q A e).1;have b:=hl p uV;omega
    subst U;refine⟨v, .inr rfl,T,?_,λw d z=>?_⟩
    ·rw[y];have:=D q (h.kY q A);omega
    ·rcases d with d | rfl
     ·rw[g w (j w d)]at z;have:=hl w d;omega
     ·exact Nat.le_refl _
  ·refine⟨c, .inl c1,c2,by rw[g c (j c c1)];exact c3,λw d z=>?_⟩;rw[g c (j c c1)];rcases d with d | rfl
   ·rw[g w (j w d)]at z ⊢;exact c4 w d z
   ·rw[y];have:=D c (h.kY c c1);omega
 constructor
 ·intro w d;by_cases e:w=v
  ·subst e;exact⟨hv,by rw[y,qQ];exact Nat.le_refl _⟩
  ·rw[g w e]at d ⊢;have:=h.jd w d;exact⟨this.1,by rw[qQ];omega⟩
 ·intro a b i E;by_cases e:a=v
  ·by_cases f:b=v
   ·rw[e,f]
   ·subst e;rw[y,g b f]at E;have:=h.jd b om;omega
  ·by_cases f:b=v
   ·subst f;rw[y,g a e]at E;rw[g a e]at i;have:=h.jd a i;omega
   ·rw[g a e,g b f]at E;rw[g a e]at i;exact h.inj a b i E
 ·intro w;rw[B,R,List.mem_append,List.mem_singleton];by_cases e:w=v
  ·subst e;simp[y,Z]
  ·rw[g w e,<- h.mem w];simp[e]
 ·rw[B];refine List.pairwise_append.2 ⟨h.By.imp_of_mem λi G E=>by rw[o _ i,o _ G];exact E,List.pairwise_singleton _ _,λa i b G=>?_⟩;rw[List.mem_singleton.1 G,o a i,y];have:=D a i;omega
 ·intro w d;by_cases e:w=v
  ·subst e;exact absurd Z d
  ·rw[g w e];exact h.Z1 w d
 ·intro w d;rcases L d with d | rfl
  ·rw[B];exact List.mem_append_left _ (h.kY w d)
  ·rw[B];simp
 ·rw[F];refine List.pairwise_append.2 ⟨h.BJ.imp_of_mem λi G E=>by rw[g _ (j _ i),g _ (j _ G)];exact E,List.pairwise_singleton _ _,λa i b G=>?_⟩;rw[List.mem_singleton.1 G,g a (j a i),y];have:=D a (h.kY a i);omega
 ·exact h.dle
 ·intro w d;rw[C];by_cases e:w=v
  ·subst e;exact h.fresh _ h0
  ·rw[g w e]at d;exact h.fresh w d
 ·intro q A;rcases L A with A | rfl
  ·obtain⟨c,c1,c2,c3,c4⟩:=lv q A;refine .inr ⟨c,by rw[F];simpa using c1,c2,by rw[g q (j q A)];exact c3,λw d z=>?_⟩;rw[g q (j q A)]at z;exact c4 w (L d) z
  ·refine .inl λw d=>?_;rcases L d with d | rfl
   ·rw[g w (j w d),y];have:=D w (h.kY w d);omega
   ·exact Nat.le_refl _
 ·intro w d hn;rcases K d with d | rfl
  ·rw[o w d,J w (M w d),C];exact h.fin w d λhm=>hn (by rw[F];exact List.mem_append_left _ hm)
  ·exact absurd (by rw[F];simp) hn
 ·exact h.clo
 ·exact h.cls
 ·intro u O;obtain⟨r,r1,r2⟩:=h.root u O;refine⟨r,r1,?_⟩;rw[g r ?_]
  ·exact r2
  ·rintro rfl;rw[h0]at r2;exact O r2.symm
 ·intro w d;rcases K d with d | rfl
  ·obtain⟨x,V,x2,x3,x4⟩:=h.lo w d;exact⟨x,by rw[B];exact List.mem_append_left _ V,by rw[o x V,J w (M w d)];exact x2,x3,by rw[o x V,o w d];exact x4⟩
  ·exact⟨w,by rw[B];simp,by rw[y,Q], .refl _,Nat.le_refl _⟩
 ·intro a k u i P O;rw[C]at P;by_cases e:a=v
  ·subst e;rw[h.fresh _ h0]at P;exact absurd P (Nat.not_lt_zero _)
  ·rw[g a e]at i;obtain⟨b1,b2⟩:=h.seen a k u i P O;have dH:u≠v:=by rintro rfl;exact b1 h0
   rw[g u dH,J a e];exact⟨b1,b2⟩
 ·intro p X w d H;rcases L X with m | rfl
  ·rcases K d with d | rfl
   ·rw[g p (j p m),o w d]at H;exact h.down p m w d H
   ·rcases I with I | ⟨l,t,mO,T⟩
    ·rw[I]at m;cases m
    ·have Y:t∈s.path:=by rw[mO];simp
     have Cg:s.idx p<=s.idx t:=by
      by_cases e:p=t
      ·rw[e];exact Nat.le_refl _
      ·exact Nat.le_of_lt (h.sS mO p m e).1
     exact (h.down p m t (h.kY t Y) Cg).trans (.one (List.mem_of_getElem? T))
  ·rcases K d with d | rfl
   ·rw[y,o w d]at H;have:=D w d;omega
   ·exact .refl _
 ·intro p X w d z;rcases L X with m | rfl
  ·rcases K d with d | rfl
   ·rw[g p (j p m),o w d]at z;rw[J p (j p m),J w (M w d),C];rcases h.Kj p m w d z with N | ⟨c,c1,c2,c3,c4,c5⟩
    ·exact .inl N
    ·refine .inr ⟨c,by rw[B];exact List.mem_append_left _ c1,c2,by rw[g p (j p m),o c c1];exact c3,by rw[o c c1,o w d];exact c4,?_⟩;rw[J c (M c c1)];exact c5.imp (λhm=>by rw[F];exact List.mem_append_left _ hm) id
   ·obtain⟨c,c1,c2,c3,c4⟩:=lv p m;have Fw:c∈(s.enter w).stack:=by
     rw[B];rcases c1 with c1 | rfl
     ·exact List.mem_append_left _ (h.kY c c1)
     ·simp
    refine .inr ⟨c,Fw,c2,by rw[g p (j p m)];exact c3,?_, .inl (by rw[F];simpa using c1)⟩;rcases c1 with c1 | rfl
    ·rw[g c (j c c1),y];have:=D c (h.kY c c1);omega
    ·exact Nat.le_refl _
  ·rcases K d with d | rfl
   ·rw[y,o w d]at z;have:=D w d;omega
   ·exact absurd z (Nat.lt_irrefl _)
theorem Inv.Gi (h:Inv n nx s) {u:Nat}(a:u∈s.stack):s.low u<=s.idx u:=by
 obtain⟨w,_,b,_,c⟩:=h.lo u a;omega
theorem Inv.kr (h:Inv n nx s) {l:List Nat}{p u:Nat}(F:s.path=l++[p]) (E:(nx p)[s.done p]? = some u) (hi:s.idx u≠0):Inv n nx (s.kr p u):=by
 have r:p∈s.path:=by rw[F];simp
 have M:=h.kY p r;have N:=(h.mem p).1 M;have O:s.done p<(nx p).length:=by
  have:=(List.getElem?_eq_some_iff.1 E).1;exact this
 have t:s.part u=0->u∈s.stack:=λh0=>(h.mem u).2 ⟨hi,h0⟩;have m:∀ w,w≠p->(s.kr p u).done w=s.done w:=λw i=>jc _ _ i;have y:(s.kr p u).done p=s.done p+1:=nh _ _ _;have j:∀ w,w≠p->(s.kr p u).low w=s.low w:=λw i=>by
  simp only[S.kr];split
  ·exact jc _ _ i
  ·rfl
 have K:(s.kr p u).low p<=s.low p:=by
  simp only[S.kr];split
  ·rw[nh];omega
  ·exact Nat.le_refl _
 have z:s.part u=0->(s.kr p u).low p<=s.low u:=λh0=>by
  simp only[S.kr,h0,if_true,nh];omega
 have A:(s.kr p u).low p=s.low p∨s.part u=0/\(s.kr p u).low p=s.low u:=by
  by_cases h0:s.part u=0
  ·simp only[S.kr,h0,if_true,nh];by_cases P:s.low p<=s.low u
   ·left;omega
   ·right;exact⟨trivial,by omega⟩
  ·left;simp only[S.kr,h0,if_false]
 have kr:wD nx p u:=.one (List.mem_of_getElem? E);refine⟨h.jd,h.inj,h.mem,h.By,h.Z1,h.kY,h.BJ,?_,?_,?_,?_,h.clo,h.cls,h.root,?_,?_,h.down,?_⟩
 ·intro w;by_cases e:w=p
  ·subst e;rw[y];exact O
  ·rw[m w e];exact h.dle w
 ·intro w i;have e:w≠p:=by rintro rfl;exact N.1 i
  rw[m w e];exact h.fresh w i
 ·intro q B;by_cases e:q=p
  ·subst e;refine .inl λw i=>?_;by_cases f:w=q
   ·rw[f];exact Nat.le_refl _
   ·exact Nat.le_of_lt (h.sS F w i f).1
  ·have:=h.link q B;rw[<- m q e]at this;exact this
 ·intro w i L;have e:w≠p:=by rintro rfl;exact L r
  rw[m w e,j w e];exact h.fin w i L
 ·intro v o;by_cases e:v=p
  ·subst e;rcases A with G | ⟨h0,G⟩
   ·rw[G];exact h.lo v o
   ·obtain⟨w,Q,R,T,X⟩:=h.lo u (t h0);refine⟨w,Q,by rw[G];exact R,kr.trans T,?_⟩;have a:=h.Gi o;have b:s.idx w<=s.idx v:=by omega
    exact b
  ·rw[j v e];exact h.lo v o
 ·intro v k x o H hx;by_cases e:v=p
  ·subst e;rw[y]at H;by_cases U:k=s.done v
   ·subst U;rw[E]at hx;cases hx;refine⟨hi,λ_ h0=>?_⟩;have a:=z h0;have b:=h.Gi (t h0);exact Nat.le_trans a b
   ·obtain⟨a,b⟩:=h.seen v k x o om hx;exact⟨a,λc d=>Nat.le_trans K (b c d)⟩
  ·rw[m v e]at H;rw[j v e];exact h.seen v k x o H hx
 ·intro q B w i C;by_cases e:q=p
  ·subst e;left;have D:w≠q:=by rintro rfl;exact Nat.lt_irrefl _ C
   rw[j w D];rcases h.Kj q B w i C with I | ⟨c,c1,c2,c3,c4,c5⟩
   ·exact Nat.le_trans K I
   ·rw[E]at c2;cases c2;have h0:=((h.mem u).1 c1).2;rcases c5 with c5 | c5
    ·have dH:u≠q:=by rintro rfl;exact Nat.lt_irrefl _ c3
     have:=(h.sS F u c5 dH).1;have V:s.idx q<s.idx u:=c3;omega
    ·exact Nat.le_trans (z h0) c5
  ·rw[j q e,m q e];by_cases f:w=p
   ·subst f;right;rcases h.link q B with hl | ⟨c,c1,c2,c3,c4⟩
    ·have:=hl w r;have J:s.idx q<s.idx w:=C;omega
    ·exact⟨c,h.kY c c1,c2,c3,c4 w r C, .inl c1⟩
   ·rw[j w f];rcases h.Kj q B w i C with I | ⟨c,c1,c2,c3,c4,c5⟩
    ·exact .inl I
    ·refine .inr ⟨c,c1,c2,c3,c4,?_⟩;by_cases g:c=p
     ·subst g;exact .inl r
     ·rw[j c g];exact c5
theorem Inv.DS (h:Inv n nx s) {l:List Nat}{p:Nat}(b:s.path=l++[p]) (d:s.done p=(nx p).length):∀ w∈s.stack,s.idx p<=s.idx w->s.low p<=s.low w:=by
 intro w f g;have a:p∈s.path:=by rw[b];simp
 by_cases e:s.idx p=s.idx w
 ·have:=h.inj p w ((h.mem p).1 (h.kY p a)).1 e;rw[this];exact Nat.le_refl _
 ·rcases h.Kj p a w f om with i | ⟨c,_,c2,_⟩
  ·exact i
  ·rw[d,List.getElem?_eq_none (Nat.le_refl _)]at c2;cases c2
theorem Inv.D2 (h:Inv n nx s) {l:List Nat}{p:Nat}(i:s.path=l++[p]):∀ q∈l,(∀ w∈l,s.idx w<=s.idx q)∨∃ c∈l,(nx q)[s.done q]? = some c/\s.idx q<s.idx c/\∀ w∈l,s.idx q<s.idx w->s.idx c<=s.idx w:=by
 intro q k;have g:∀ w∈l,w∈s.path:=λw d=>by rw[i];exact List.mem_append_left _ d
 have hs:=h.BJ;rw[i]at hs;have j:∀ w∈l,s.idx w<s.idx p:=λw d=>(List.pairwise_append.1 hs).2.2 w d p (List.mem_singleton.2 rfl);rcases h.link q (g q k) with hl | ⟨c,c1,c2,c3,c4⟩
 ·exact .inl λw d=>hl w (g w d)
 ·by_cases e:c=p
  ·left;intro w d;by_cases f:s.idx q<s.idx w
   ·have a:=c4 w (g w d) f;have b:=j w d;rw[e]at a;omega
   ·omega
  ·right;have m:c∈l:=by
    rw[i]at c1;rcases List.mem_append.1 c1 with h | h
    ·exact h
    ·exact absurd (List.mem_singleton.1 h) e
   exact⟨c,m,c2,c3,λw d j=>c4 w (g w d) j⟩
theorem Inv.BL (h:Inv n nx s) {l:List Nat}{p:Nat}(b:s.path=l++[p]) (m:s.done p=(nx p).length) (hl:s.low p<s.idx p):Inv n nx s.BL:=by
 have d:s.BL.path=l:=by simp[S.BL,b]
 have i:∀ w∈l,w∈s.path:=λw a=>by rw[b];exact List.mem_append_left _ a
 have j:=h.BJ;rw[b]at j;have u:p ∉ l:=λhm=>Nat.lt_irrefl _ ((List.pairwise_append.1 j).2.2 p hm p (List.mem_singleton.2 rfl));have f:∀ w∈s.path,w∈l∨w=p:=λw a=>by rw[b]at a;simpa using a
 refine⟨h.jd,h.inj,h.mem,h.By,h.Z1,λv k=>h.kY v (i v (d ▸ k)),by rw[d];exact (List.pairwise_append.1 j).1,h.dle,h.fresh,?_,?_,h.clo,h.cls,h.root,h.lo,h.seen,λq g=>h.down q (i q (d ▸ g)),?_⟩
 ·rw[d];exact h.D2 b
 ·intro v k o;rw[d]at o;by_cases e:v=p
  ·subst e;exact⟨m,hl⟩
  ·exact h.fin v k λhm=>by
    rcases f v hm with hm | hm
    ·exact o hm
    ·exact e hm
 ·intro q g w a r;rw[d]at g ⊢;rcases h.Kj q (i q g) w a r with t | ⟨c,c1,c2,c3,c4,c5⟩
  ·exact .inl t
  ·refine .inr ⟨c,c1,c2,c3,c4,?_⟩;rcases c5 with c5 | c5
   ·rcases f c c5 with c5 | rfl
    ·exact .inl c5
    ·exact .inr (h.DS b m w a c4)
   ·exact .inr c5
theorem Inv.pN (h:Inv n nx s) {l:List Nat}{p:Nat}(B:s.path=l++[p]) (Y:s.done p=(nx p).length) (hl:¬ s.low p<s.idx p):Inv n nx (s.pN p):=by
 have E:(s.pN p).path=l:=by simp[S.pN,B]
 have N:∀ w∈l,w∈s.path:=λw i=>by rw[B];exact List.mem_append_left _ i
 have Z:p∈s.path:=by rw[B];simp
 have O:=h.kY p Z;have G:=(h.mem p).1 O;have P:=h.BJ;rw[B]at P;have cm:∀ w∈l,s.idx w<s.idx p:=λw i=>(List.pairwise_append.1 P).2.2 w i p (List.mem_singleton.2 rfl);have H:∀ w∈s.path,w∈l∨w=p:=λw i=>by rw[B]at i;simpa using i
 have U7:s.low p=s.idx p:=by have:=h.Gi O;omega
 have hR:∀ w∈s.stack,s.idx p<=s.idx w->s.done w=(nx w).length/\s.idx p<=s.low w/\(w=p∨s.low w<s.idx w):=by
  intro w i j;have h1:=h.DS B Y w i j;by_cases e:w=p
  ·subst e;exact⟨Y,by omega, .inl rfl⟩
  ·have F:w ∉ s.path:=λhm=>by have:=(h.sS B w hm e).1;omega
   obtain⟨a,b⟩:=h.fin w i F;exact⟨a,by omega, .inr b⟩
 have D:∀ w∈s.stack,s.idx p<=s.idx w->∀ u∈nx w,s.part u≠0∨(u∈s.stack/\s.idx p<=s.idx u):=by
  intro w i j u t;obtain⟨k,L⟩:=List.mem_iff_getElem?.1 t;obtain⟨a,b,_⟩:=hR w i j;have I:=(h.mem w).1 i;obtain⟨c,d⟩:=h.seen w k u I.1 (by rw[a];exact (List.getElem?_eq_some_iff.1 L).1) L;by_cases e:s.part u=0
  ·right;have:=d I.2 e;exact⟨(h.mem u).2 ⟨c,e⟩,by omega⟩
  ·exact .inl e
 have O8:∀ (m:Nat) (w:Nat),w∈s.stack->s.idx p<=s.idx w->s.idx w=m->wD nx w p:=by
  intro m;induction m using Nat.strongRecOn with
  | ind m ih=>
    intro w i j hm;obtain⟨_,b,c⟩:=hR w i j;rcases c with rfl | c
    ·exact .refl _
    ·obtain⟨x,x1,x2,x3,x4⟩:=h.lo w i;exact x3.trans (ih (s.idx x) om x x1 om rfl)
 have yb:∀ w∈s.stack,s.idx p<=s.idx w->wD nx p w/\wD nx w p:=λw i j=>⟨h.down p Z w i j,O8 _ w i j rfl⟩;have A:∀ w,w∈s.stack->s.idx p<=s.idx w->(s.pN p).part w=s.idx p:=λw i j=>by simp only[S.pN];rw[if_pos ⟨i,j⟩]
 have y:∀ w,¬ (w∈s.stack/\s.idx p<=s.idx w)->(s.pN p).part w=s.part w:=λw F=>by simp only[S.pN];rw[if_neg F]
 have C:∀ w,w∈(s.pN p).stack↔w∈s.stack/\s.idx w<s.idx p:=λw=>by simp[S.pN]
 have M:∀ w,(s.pN p).part w=0->s.part w=0:=λw i=>by
  by_cases e:w∈s.stack/\s.idx p<=s.idx w
  ·rw[A w e.1 e.2]at i;exact absurd i G.1
  ·rw[y w e]at i;exact i
 have cx:∀ u v,wD nx u v->s.part u≠0->s.part v≠0:=λu v Q t=>Q.closed (K:=λx=>s.part x≠0) h.clo t;refine⟨h.jd,h.inj,?_,?_,?_,?_,by rw[E];exact (List.pairwise_append.1 P).1,h.dle,h.fresh,by rw[E];exact h.D2 B,?_,?_,?_,?_,?_,?_,?_,?_⟩
 ·intro v;rw[C];by_cases e:v∈s.stack/\s.idx p<=s.idx v
  ·rw[A v e.1 e.2];constructor
   ·intro z;omega
   ·intro z;exact absurd z.2 G.1
  ·rw[y v e];show _↔s.idx v≠0/\s.part v=0;rw[<- h.mem v];constructor
   ·exact λz=>z.1
   ·intro z;exact⟨z,by
     by_cases f:s.idx p<=s.idx v
     ·exact absurd ⟨z,f⟩ e
     ·omega⟩
 ·exact h.By.filter _
 ·intro v o;by_cases e:v∈s.stack/\s.idx p<=s.idx v
  ·exact ((h.mem v).1 e.1).1
  ·rw[y v e]at o;exact h.Z1 v o
 ·intro v o;rw[E]at o;exact (C v).2 ⟨h.kY v (N v o),cm v o⟩
 ·intro v o F;rw[E]at F;obtain⟨R,T⟩:=(C v).1 o;refine h.fin v R λhm=>?_;rcases H v hm with hm | rfl
  ·exact F hm
  ·exact Nat.lt_irrefl _ T
 ·intro v o u t;by_cases e:v∈s.stack/\s.idx p<=s.idx v
  ·rcases D v e.1 e.2 u t with g | ⟨g1,g2⟩
   ·exact λU=>g (M u U)
   ·rw[A u g1 g2];exact G.1
  ·rw[y v e]at o;exact λU=>h.clo v o u t (M u U)
 ·intro u v t o;by_cases e:u∈s.stack/\s.idx p<=s.idx u
  ·by_cases f:v∈s.stack/\s.idx p<=s.idx v
   ·rw[A u e.1 e.2,A v f.1 f.2];obtain⟨a,b⟩:=yb u e.1 e.2;obtain⟨c,d⟩:=yb v f.1 f.2;exact⟨λ_=>⟨b.trans c,d.trans a⟩,λ_=>rfl⟩
   ·rw[A u e.1 e.2,y v f];rw[y v f]at o;constructor
    ·intro z;obtain⟨r,r1,r2⟩:=h.root v o;have:r=p:=h.inj r p (by rw[r2];exact o) (by rw[r2,z]);rw[this,G.2]at r1;exact absurd r1.symm o
    ·rintro⟨_,hb⟩;exact absurd ((h.mem u).1 e.1).2 (cx v u hb o)
  ·rw[y u e]at t;by_cases f:v∈s.stack/\s.idx p<=s.idx v
   ·rw[y u e,A v f.1 f.2];constructor
    ·intro z;obtain⟨r,r1,r2⟩:=h.root u t;have:r=p:=h.inj r p (by rw[r2];exact t) (by rw[r2,z]);rw[this,G.2]at r1;exact absurd r1.symm t
    ·rintro⟨ha,_⟩;exact absurd ((h.mem v).1 f.1).2 (cx u v ha t)
   ·rw[y v f]at o;rw[y u e,y v f];exact h.cls u v t o
 ·intro u t;by_cases e:u∈s.stack/\s.idx p<=s.idx u
  ·exact⟨p,by rw[A u e.1 e.2,A p O (Nat.le_refl _)],by rw[A u e.1 e.2];rfl⟩
  ·rw[y u e]at t;obtain⟨r,r1,r2⟩:=h.root u t;have Q:s.part r≠0:=by rw[r1];exact t
   refine⟨r,?_,by rw[y u e];exact r2⟩;rw[y u e,y r λz=>Q ((h.mem r).1 z.1).2];exact r1
 ·intro v o;obtain⟨R,T⟩:=(C v).1 o;obtain⟨w,V,X,w3,w4⟩:=h.lo v R;exact⟨w,(C w).2 ⟨V,Nat.lt_of_le_of_lt w4 T⟩,X,w3,w4⟩
 ·intro v k u o L t;obtain⟨a,b⟩:=h.seen v k u o L t;exact⟨a,λc d=>b (M v c) (M u d)⟩
 ·intro q J w i j;rw[E]at J;exact h.down q (N q J) w ((C w).1 i).1 j
 ·intro q J w i GM;rw[E]at J ⊢;obtain⟨V,X⟩:=(C w).1 i;rcases h.Kj q (N q J) w V GM with z | ⟨c,c1,c2,c3,c4,c5⟩
  ·exact .inl z
  ·have QV:s.idx c<s.idx p:=Nat.lt_of_le_of_lt c4 X;refine .inr ⟨c,(C c).2 ⟨c1,QV⟩,c2,c3,c4,c5.imp (λhm=>?_) id⟩;rcases H c hm with hm | rfl
   ·exact hm
   ·exact absurd QV (Nat.lt_irrefl _)
theorem Inv.shut (h:Inv n nx s) (c:s.path=[]):s.stack=[]:=by
 have key:∀ (m:Nat) (v:Nat),v∈s.stack->s.idx v=m->False:=by
  intro m;induction m using Nat.strongRecOn with
  | ind m ih=>
    intro v a hm;obtain⟨_,b⟩:=h.fin v a (by rw[c];exact List.not_mem_nil);obtain⟨w,d,e,_,_⟩:=h.lo v a;exact ih (s.idx w) om w d rfl
 cases hs:s.stack with
 | nil=>rfl
 | cons v r=>exact (key _ v (by rw[hs];simp) rfl).elim
theorem Inv.final (h:Inv n nx s) (d:s.path=[]) (e:∀ v,v<n->s.idx v≠0):∀ u v,u<n->v<n->s.part u≠0/\(s.part u=s.part v↔wD nx u v/\wD nx v u):=by
 have hs:=h.shut d;have a:∀ v,v<n->s.part v≠0:=λv b f=>by
  have:=(h.mem v).2 ⟨e v b,f⟩;rw[hs]at this;cases this
 exact λu v c b=>⟨a u c,h.cls u v (a u c) (a v b)⟩
end
end Go.CC
end
section
namespace Go.C2
open Go.Bn Go.CC
def Tk.succ (k:Tk) (x:Pl):List Pl:=(k.rG x).map (k.after x)
theorem Tk.tu {k:Tk}{x y:Pl} : y∈k.succ x↔k.E x y:=by
 simp only[Tk.succ,List.mem_map,Tk.E]
theorem Lh {k:Tk}{from_:List Pl}{R:Pl->Prop}{acc:Ac Pl}(h:Ok k.succ from_ R acc) (f:Cl k.succ acc acc.length) (g:∀ p∈from_,p∈acc.map (·.1)) (p:Pl):p∈acc.map (·.1)↔∃ q∈from_,∃ a,jR k.E a q p:=by
 constructor
 ·intro l;obtain⟨x,hx,rfl⟩:=List.mem_map.1 l;obtain⟨i,c⟩:=List.mem_iff_getElem?.1 hx;have key:∀ (i:Nat) (x:Pl × Int),acc[i]? = some x->∃ q∈from_,∃ a,jR k.E a q x.1:=by
   intro i;induction i using Nat.strongRecOn with
   | ind i ih=>
     intro x hx;rcases h.way i x hx with⟨_,h2⟩ | ⟨j,y,h1,_,h3,m⟩
     ·exact⟨x.1,h2,0, .nil _⟩
     ·obtain⟨q,d,a,b⟩:=ih j h1 y h3;exact⟨q,d,a+1,b.snoc (Tk.tu.1 m)⟩
  exact key i x c
 ·rintro⟨q,d,a,b⟩;have key:∀ {a:Nat}{x y:Pl},jR k.E a x y->x∈acc.map (·.1)->y∈acc.map (·.1):=by
   intro a x y b;induction b with
   | nil=>exact id
   | cons e _ ih=>
     intro hx;obtain⟨z,o,rfl⟩:=List.mem_map.1 hx;obtain⟨i,c⟩:=List.mem_iff_getElem?.1 o;exact ih (f i z (List.getElem?_eq_some_iff.1 c).1 c _ (Tk.tu.2 e))
  exact key b (g q d)
theorem RH {k:Tk}{ps:List Pl}(f:ps.Nodup) {nx:Nat->List Nat}(g:∀ i x,ps[i]? = some x->(nx i).map (λj=>ps[j]?)=(k.succ x).map some) {i j:Nat}{x y:Pl}(hx:ps[i]? = some x) (c:ps[j]? = some y):wD nx i j↔∃ a,jR k.E a x y:=by
 have inj:∀ {i j:Nat}{x:Pl},ps[i]? = some x->ps[j]? = some x->i=j:=λh1 h2=>by
  have a:=IK f h1;have b:=IK f h2;rw[a]at b;exact Option.some.inj b
 constructor
 ·intro h;induction h generalizing x with
  | refl u=>rw[hx]at c;cases c;exact⟨0, .nil _⟩
  | @head u v w hm _ ih=>
    have h1:ps[v]? ∈ (k.succ x).map some:=by rw[<- g u x hx];exact List.mem_map_of_mem hm
    obtain⟨z,l,d⟩:=List.mem_map.1 h1;obtain⟨a,m⟩:=ih d.symm c;exact⟨a+1, .cons (Tk.tu.1 l) m⟩
 ·rintro⟨a,o⟩;induction o generalizing i with
  | nil=>rw[inj hx c];exact .refl _
  | @cons n x z y e _ ih=>
    have h1:some z∈(nx i).map (λj=>ps[j]?):=by rw[g i x hx];exact List.mem_map_of_mem (Tk.tu.2 e)
    obtain⟨v,p,d⟩:=List.mem_map.1 h1;exact .head p (ih d c)
end Go.C2
end
