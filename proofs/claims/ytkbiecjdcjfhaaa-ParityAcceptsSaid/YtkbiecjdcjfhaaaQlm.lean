/- Which priority is the least that comes again and again. -/
import Derived.Test.YtkbiecjdcjfhaaaQpv
import Derived.Test.YtkbiecjdcjfhaaaWod
set_option linter.unusedSimpArgs false
set_option linter.unusedVariables false
set_option maxRecDepth 100000
set_option maxHeartbeats 16000000
section
namespace Go.Proofs.Ytkbiecjdcjfhaaa
open Go Go.Pv
open Classical
def y5 (m:Int) (r:Nat->Int):Prop:=(∀ T,∃ i,T<=i/\r i=m)/\∃ T,∀ i,T<=i->m<=r i
theorem y5.shift {m:Int}{r:Nat->Int}(k:Nat) (h:y5 m λi=>r (i+k)):y5 m r:=by
 obtain⟨h1,T,h2⟩:=h;refine⟨λU=>?_,T+k,λi a=>?_⟩
 ·obtain⟨i,a,e⟩:=h1 U;exact⟨i+k,by omega,e⟩
 ·have:=h2 (i - k) om;simp only[Nat.sub_add_cancel (show k<=i by omega)]at this;exact this
def iU (N:List (List Int)) (w:Nat->Int) (q:Nat):Nat->Nat
 | 0=>q
 | i+1=>LN N (iU N w q i) (w i)
def lM (N R:List (List Int)) (w:Nat->Int) (q i:Nat):Int:=(R.getD (iU N w q i) []).getD (w i).toNat 0
theorem sV (N:List (List Int)) (w:Nat->Int) (q i:Nat):∀ k,iU N w q (i+k)=iU N (λj=>w (i+j)) (iU N w q i) k
 | 0=>rfl
 | k+1=>by rw[<- Nat.add_assoc];simp only[iU,sV N w q i k]
theorem xI (N R:List (List Int)) (w:Nat->Int) (q i k:Nat):lM N R w q (i+k)=lM N R (λj=>w (i+j)) (iU N w q i) k:=by
 simp only[lM,sV]
theorem xp (N:List (List Int)) {w a:Nat->Int}(q:Nat):∀ n,(∀ i,i<n->w i=a i)->iU N w q n=iU N a q n
 | 0,_=>rfl
 | n+1,h=>by simp only[iU];rw[xp N q n (λi hi=>h i om),h n om]
theorem Aj (N:List (List Int)):∀ (l:List Int) (q:Nat) (w:Nat->Int),(∀ i,i<l.length->w i=l.getD i 0)->gO N l q=iU N w q l.length:=by
 intro l;induction l with
 | nil=>intro q w _;rfl
 | cons a l ih=>
   intro q w h;have h0:w 0=a:=by simpa using h 0 (by simp)
   have:=ih (LN N q a) (λi=>w (i+1)) (λi b=>by simpa using h (i+1) (by simpa using b));rw[gO,this,List.length_cons,Nat.add_comm l.length 1,sV];simp only[iU,h0];exact xp N _ _ λi _=>by rw[Nat.add_comm]
theorem Kg (N R:List (List Int)):∀ (l:List Int) (q:Nat) (m:Int) (w:Nat->Int),(∀ i,i<l.length->w i=l.getD i 0) ->
 iW N R l q m<=m/\(∀ i,i<l.length->iW N R l q m<=lM N R w q i)/\(iW N R l q m=m∨∃ i,i<l.length/\iW N R l q m=lM N R w q i):=by
 intro l;induction l with
 | nil=>intro q m w _;exact⟨Int.le_refl _,λi b=>absurd b (Nat.not_lt_zero _), .inl rfl⟩
 | cons a l ih=>
   intro q m w h;have h0:w 0=a:=by simpa using h 0 (by simp)
   obtain⟨h1,h2,h3⟩:=ih (LN N q a) (min m ((R.getD q []).getD a.toNat 0)) (λi=>w (1+i)) (λi b=>by rw[Nat.add_comm];simpa using h (i+1) (by simpa using b));have c:∀ i,lM N R w q (1+i)=lM N R (λj=>w (1+j)) (LN N q a) i:=λi=>by rw[xI];simp only[iU,h0]
   have d:lM N R w q 0=(R.getD q []).getD a.toNat 0:=by simp only[lM,iU,h0]
   simp only[iW];refine⟨by omega,λi b=>?_,?_⟩
   ·cases i with
    | zero=>rw[d];omega
    | succ i=>rw[Nat.add_comm i 1,c];exact h2 i (by simpa using b)
   ·rcases h3 with h3 | ⟨i,b,h3⟩
    ·rw[h3];by_cases e:m<=(R.getD q []).getD a.toNat 0
     ·exact .inl om
     ·exact .inr ⟨0,by simp,by rw[d];omega⟩
    ·exact .inr ⟨1+i,by simp;omega,by rw[c];exact h3⟩
theorem TL {q:Nat} : ∀ {qs:List Nat}{i j:Nat},FA q qs i=some j->∃ d,j=i+d/\qs[d]? = some q:=by
 intro qs;induction qs with
 | nil=>intro i j h;cases h
 | cons x r ih=>
   intro i j h;simp only[FA]at h;split at h
   ·rename_i hx;cases h;subst hx;exact⟨0,rfl,rfl⟩
   ·obtain⟨d,h1,h2⟩:=ih h;exact⟨d+1,by omega,by simpa using h2⟩
theorem yB:∀ (l:List Int) (a:Int),l.foldl min a<=a/\(∀ x∈l,l.foldl min a<=x)/\(l.foldl min a=a∨l.foldl min a∈l):=by
 intro l;induction l with
 | nil=>intro a;exact⟨Int.le_refl _,λx hx=>absurd hx List.not_mem_nil, .inl rfl⟩
 | cons b l ih=>
   intro a;obtain⟨h1,h2,h3⟩:=ih (min a b);simp only[List.foldl_cons];refine⟨by omega,λx hx=>?_,?_⟩
   ·rcases List.mem_cons.1 hx with rfl | hx
    ·omega
    ·exact h2 x hx
   ·rcases h3 with h3 | h3
    ·rw[h3];by_cases h:a<=b
     ·exact .inl om
     ·exact .inr (by rw[show min a b=b by omega];exact List.mem_cons_self)
    ·exact .inr (List.mem_cons_of_mem _ h3)
theorem Sh {l:List Int}(h:0<l.length):(∀ x∈l,mn l<=x)/\mn l∈l:=by
 match l,h with
 | a :: l, _ =>
   obtain⟨h1,h2,h3⟩:=yB l a;have e:mn (a::l)=l.foldl min a:=by simp[mn]
   rw[e];refine⟨λx hx=>?_,?_⟩
   ·rcases List.mem_cons.1 hx with rfl | hx
    ·exact h1
    ·exact h2 x hx
   ·rcases h3 with h3 | h3
    ·rw[h3];exact List.mem_cons_self
    ·exact List.mem_cons_of_mem _ h3
def nS (fS:Nat->Nat) (q:Nat):Nat->Nat
 | 0=>q
 | k+1=>fS (nS fS q k)
theorem IG {fS:Nat->Nat}{q j p:Nat}(h:nS fS q (j+p)=nS fS q j):∀ t,nS fS q (j+t+p)=nS fS q (j+t)
 | 0=>h
 | t+1=>by
   have:=IG h t;rw[show j+(t+1)+p=(j+t+p)+1 by omega,show j+(t+1)=(j+t)+1 by omega];simp only[nS,this]
theorem B2 {fS:Nat->Nat}{q j p:Nat}(h:nS fS q (j+p)=nS fS q j) (t:Nat):∀ c,nS fS q (j+t+c*p)=nS fS q (j+t)
 | 0=>by simp
 | c+1=>by
   have:=B2 h t c;rw[show j+t+(c+1)*p=(j+(t+c*p))+p by rw[Nat.add_mul];omega,IG h,show j+(t+c*p)=j+t+c*p by omega,this]
theorem VL {fS:Nat->Nat}{zw:Nat->Int}{n c:Nat}(G:∀ y,y<n->fS y<n) (H:c<n):∀ (f k:Nat),k+f=n+1->((List.range k).map (nS fS c)).Nodup->(∀ i,nS fS c i<n) ->
 ∃ m,y5 m (λi=>zw (nS fS c i))/\wv fS zw f ((List.range k).map (nS fS c)) (nS fS c k)=decide (m.tmod 2=0):=by
 intro f;induction f with
 | zero=>
   intro k u g h;have:=Nw n _ g (λx hx=>by obtain⟨i,_,rfl⟩:=List.mem_map.1 hx;exact h i);simp at this;omega
 | succ f ih=>
   intro k u g h;simp only[wv];cases l:FA (nS fS c k) ((List.range k).map (nS fS c)) 0 with
   | some j=>
     obtain⟨d,q,v⟩:=TL l;rw[Nat.zero_add]at q;subst q;have w:j<k:=by have:=(EI l).2;simpa using this
     have o:nS fS c j=nS fS c k:=by simpa[w] using v
     have r:nS fS c (j+(k - j))=nS fS c j:=by rw[show j+(k - j)=k by omega,o]
     have e:0<((((List.range k).map (nS fS c)).map zw).drop j).length:=by simp;omega
     obtain⟨m1,z⟩:=Sh e;have A:∀ t,t<k - j->zw (nS fS c (j+t))∈((((List.range k).map (nS fS c)).map zw).drop j):=λt p=>by
      refine List.mem_iff_getElem?.2 ⟨t,?_⟩;simp[show j+t<k by omega]
     refine⟨_,⟨λT=>?_,j,λi I=>?_⟩,rfl⟩
     ·obtain⟨t,p⟩:=List.mem_iff_getElem?.1 z;have J:t<k - j:=by
       have:=(List.getElem?_eq_some_iff.1 p).1;simpa using this
      have B:zw (nS fS c (j+t))=mn ((((List.range k).map (nS fS c)).map zw).drop j):=by
       simpa[show j+t<k by omega] using p
      refine⟨j+t+T*(k - j),?_,?_⟩
      ·have:T*1<=T*(k - j):=Nat.mul_le_mul_left _ om;omega
      ·show zw (nS fS c (j+t+T*(k - j)))=_;rw[B2 r,B]
     ·have C:(i - j) % (k - j)<k - j:=Nat.mod_lt _ om;have D:i=j+(i - j) % (k - j)+(i - j) / (k - j)*(k - j):=by
       have:=Nat.div_add_mod (i - j) (k - j);rw[Nat.mul_comm]at this;omega
      show _<=zw (nS fS c i);rw[D,B2 r];exact m1 _ (A _ C)
   | none=>
     have s:(List.range k).map (nS fS c)++[nS fS c k]=(List.range (k+1)).map (nS fS c):=by rw[List.range_succ,List.map_append];rfl
     simp only[s];refine ih (k+1) om ?_ h;rw[<- s];exact List.nodup_append.2 ⟨g,by simp,λa E b F=>by
      rintro rfl;rcases List.mem_singleton.1 F with rfl
      exact EJ l E⟩
theorem Bw {L S:Int}{N R:List (List Int)}(b:PV L S N R) {w:Nat->Int}(a:∀ i,0<=w i/\w i<L) {q:Nat}(c:q<N.length):∀ i,iU N w q i<N.length
 | 0=>c
 | i+1=>(Bv b (Bw b a c i) (a i).1 (a i).2).2
theorem RR {L S:Int}{N R:List (List Int)}(a:PV L S N R) {w:Nat->Int}(b:∀ i,0<=w i/\w i<L) {q:Nat}(c:q<N.length) (i:Nat):lM N R w q i<=20000:=by
 have h:=b i;have:=((a.2 _ (Bw a b c i)).2.2 (w i).toNat om).2.2.2;exact this
theorem Kw {L S:Int}{N R:List (List Int)}(o:PV L S N R) {sl c:List Int}(z:∀ a∈sl,0<=a/\a<L) (s:∀ a∈c,0<=a/\a<L) (hl:1<=c.length) :
 ∃ m,y5 m (lM N R (ew sl c) S.toNat)/\wv (gO N c) (λq=>iW N R c q 20000) (N.length+1) [] (gO N sl S.toNat)=decide (m.tmod 2=0):=by
 have p:S.toNat<N.length:=by have:=o.1.2.2.2.2.2;omega
 have r:gO N sl S.toNat<N.length:=wM o p z;have u:∀ y,y<N.length->gO N c y<N.length:=λy A=>wM o A s;have KX:∀ i,nS (gO N c) (gO N sl S.toNat) i<N.length:=λi=>by
  induction i with
  | zero=>exact r
  | succ i ih=>exact u _ ih
 obtain⟨m,hm,B⟩:=VL (zw:=λq=>iW N R c q 20000) u r (N.length+1) 0 om (by simp) KX;refine⟨m,?_,by simpa[nS] using B⟩;generalize C:gO N sl S.toNat=g at *;let d:Nat->Int:=λi=>c.getD (i % c.length) 0;have D:∀ i,0<=d i/\d i<L:=λi=>s _ (bE (Nat.mod_lt _ om));have n:∀ k j,j<c.length->d (k*c.length+j)=c.getD j 0:=λk j E=>by
  show c.getD ((k*c.length+j) % c.length) 0=_;rw[Nat.add_comm,Nat.add_mul_mod_self_right,Nat.mod_eq_of_lt E]
 have F:∀ k,iU N d g (k*c.length)=nS (gO N c) g k:=by
  intro k;induction k with
  | zero=>simp[iU,nS]
  | succ k ih=>
    rw[Nat.add_mul,Nat.one_mul,sV,ih,nS];exact (Aj N c _ _ (λi h=>n k i h)).symm
 have v:∀ k,(∀ t,t<c.length->iW N R c (nS (gO N c) g k) 20000<=lM N R d g (k*c.length+t))/\∃ t,t<c.length/\iW N R c (nS (gO N c) g k) 20000=lM N R d g (k*c.length+t):=by
  intro k;obtain⟨h1,h2,h3⟩:=Kg N R c (nS (gO N c) g k) 20000 (λj=>d (k*c.length+j)) (λi h=>n k i h);have l:∀ t,lM N R d g (k*c.length+t)=lM N R (λj=>d (k*c.length+j)) (nS (gO N c) g k) t:=λt=>by rw[xI,F]
  refine⟨λt w=>by rw[l];exact h2 t w,?_⟩;rcases h3 with h3 | ⟨i,h,h3⟩
  ·have a:=h2 0 om;have b:=RR o D r (k*c.length+0);rw[l]at b;exact⟨0,by omega,by rw[l];omega⟩
  ·exact⟨i,h,by rw[l];exact h3⟩
 have G:y5 m (lM N R d g):=by
  obtain⟨h1,T,h2⟩:=hm;refine⟨λU=>?_,T*c.length,λi h=>?_⟩
  ·obtain⟨k,x,e⟩:=h1 U;obtain⟨t,w,f⟩:=(v k).2;refine⟨k*c.length+t,?_,by rw[<- f];exact e⟩;have:k*1<=k*c.length:=Nat.mul_le_mul_left _ hl;omega
  ·have x:T<=i / c.length:=(Nat.le_div_iff_mul_le om).2 h;have a:=h2 _ x;have b:=(v (i / c.length)).1 (i % c.length) (Nat.mod_lt _ om);have e:i / c.length*c.length+i % c.length=i:=by rw[Nat.mul_comm];exact Nat.div_add_mod i c.length
   rw[e]at b;exact Int.le_trans a b
 refine y5.shift sl.length ?_;have l:(λi=>lM N R (ew sl c) S.toNat (i+sl.length))=lM N R d g:=by
  funext i;rw[Nat.add_comm i,xI];have h1:iU N (ew sl c) S.toNat sl.length=g:=by
   rw[<- C];exact (Aj N sl _ _ (λi h=>by simp[ew,h])).symm
  have h2:(λj=>ew sl c (sl.length+j))=d:=by
   funext j;simp only[ew,d];rw[if_neg om,Nat.add_sub_cancel_left]
  rw[h1,h2]
 rw[l];exact G
end Go.Proofs.Ytkbiecjdcjfhaaa
end
