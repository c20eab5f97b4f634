/- The document's step of a tree, in plain lists, is the program's: part 1, nodes that are kept. -/
import Derived.Test.YtkbiecjdcjfhaaaGreatTre
set_option linter.unusedSimpArgs false
set_option linter.unusedVariables false
set_option maxRecDepth 100000
set_option maxHeartbeats 16000000
section
namespace Go.pR
open Classical
def fO (n:Gn):Nd:=⟨n.name,n.par,n.kept⟩
def D4 (t:List Nd) (i:Nat) (x:Int) (n:Nat):Prop:=∃ k,1<=k/\k<n/\(t.getD k default).par=(t.getD i default).par/\x∈(t.getD k default).set
def AJ (t:List Nd) (i:Nat) (x:Int):Prop:=(i=0∨x∈(t.getD (t.getD i default).par.toNat default).set)/\¬ D4 t i x i
noncomputable def Cu (t:List Nd) (i:Nat):List Int:=(t.getD i default).set.filter λx=>decide (AJ t i x)
def jf (t:List Nd) (top:Int):Nat->Int->Bool
 | 0,_=>false
 | f+1,p=>if 0<=p then (decide (p=top) || jf t top f (t.getD p.toNat default).par) else false
def fB (m:Nat->Bool) (i:Nat):Nat:=((List.range i).filter m).length
theorem dQ (m:Nat->Bool) (i:Nat):fB m (i+1)=fB m i+if m i=true then 1 else 0:=by
 unfold fB;rw[List.range_succ,List.filter_append,List.length_append];by_cases h:m i=true
 ·simp[h]
 ·simp[h]
theorem uf (m:Nat->Bool) {i j:Nat}(h:i<=j):fB m i<=fB m j:=by
 induction j with
 | zero=>rw[Nat.le_zero.1 h];exact Nat.le_refl _
 | succ j ih=>
   rcases Nat.lt_or_ge j i with e | e
   ·rw[show i=j+1 by omega];exact Nat.le_refl _
   ·have:=ih e;rw[dQ];omega
theorem yp (m:Nat->Bool) {i j:Nat}(h:i<j) (a:m i=true):fB m i<fB m j:=by
 have h1:=uf m (i:=i+1) (j:=j) h;rw[dQ,if_pos a]at h1;omega
theorem CC (m:Nat->Bool) (i:Nat):fB m i<=i:=by
 have:=List.length_filter_le m (List.range i);simpa[fB] using this
theorem rI {m m':Nat->Bool}{i:Nat}(h:∀ k,k<i->m k=m' k):fB m i=fB m' i:=by
 induction i with
 | zero=>rfl
 | succ i ih=>rw[dQ,dQ,ih λk a=>h k om,h i om]
theorem JX (m:Nat->Bool) {i j:Nat}(a:m i=true) (b:m j=true) (e:fB m i=fB m j):i=j:=by
 rcases Nat.lt_trichotomy i j with h | h | h
 ·have:=yp m h a;omega
 ·exact h
 ·have:=yp m h b;omega
theorem JW (m:Nat->Bool):∀ {n j:Nat},j<fB m n->∃ k,k<n/\m k=true/\fB m k=j
 | 0,j,h=>by simp[fB]at h
 | n + 1, j, h => by
   rw[dQ]at h;by_cases a:j<fB m n
   ·obtain⟨k,h1,h2⟩:=JW m a;exact⟨k,by omega,h2⟩
   ·by_cases hm:m n=true
    ·rw[if_pos hm]at h;exact⟨n,by omega,hm,by omega⟩
    ·rw[if_neg hm]at h;omega
def u9 (m:Nat->Bool) (n:Nd):Nd:=⟨n.name,if 0<=n.par then (if m n.par.toNat=true then (fB m n.par.toNat:Int) else 0) else n.par,n.set⟩
def tR (t:List Nd) (m:Nat->Bool) (k:Nat):List Nd:=((List.range k).filter m).map λi=>u9 m (t.getD i default)
def kp (t:List Nd) (m:Nat->Bool):List Nd:=tR t m t.length
theorem ke (t:List Nd) (m:Nat->Bool) (k:Nat):tR t m (k+1)=if m k=true then tR t m k++[u9 m (t.getD k default)] else tR t m k:=by
 unfold tR;rw[List.range_succ,List.filter_append,List.map_append];by_cases h:m k=true
 ·simp[h]
 ·simp[h]
theorem oF (t:List Nd) (m:Nat->Bool) (k:Nat):(tR t m k).length=fB m k:=by
 unfold tR fB;rw[List.length_map]
theorem tE (t:List Nd) (m:Nat->Bool):(kp t m).length=fB m t.length:=oF _ _ _
theorem Ko (t:List Nd) (m:Nat->Bool):∀ {n k:Nat},k<n->m k=true->(tR t m n).getD (fB m k) default=u9 m (t.getD k default)
 | 0,k,h,_=>by omega
 | n + 1, k, h, a => by
   rw[ke];by_cases e:k=n
   ·subst e;rw[if_pos a,bZ (by rw[oF];exact Nat.le_refl _),oF,Nat.sub_self];rfl
   ·have h1:=Ko t m (n:=n) (k:=k) om a;split
    ·rw[dz (by rw[oF];exact yp m om a),h1]
    ·exact h1
theorem CR {t:List Nd}{m:Nat->Bool}{k:Nat}(h:k<t.length) (a:m k=true):(kp t m).getD (fB m k) default=u9 m (t.getD k default):=Ko t m h a
theorem P6 {t:List Nd}{m:Nat->Bool}{k:Nat}(h:k<t.length) (a:m k=true):fB m k<(kp t m).length:=by
 rw[tE];exact yp m h a
def Ji (t:List Nd):Prop:=∀ i,i<t.length->-1<=(t.getD i default).par/\(t.getD i default).par<(i:Int)
def ClP (t:List Nd) (m:Nat->Bool):Prop:=∀ i,i<t.length->m i=true->0<=(t.getD i default).par->m (t.getD i default).par.toNat=true
theorem oG {m:Nat->Bool}{n:Nd}(h:0<=n.par) (hm:m n.par.toNat=true):(u9 m n).par=(fB m n.par.toNat:Int):=by
 show (if 0<=n.par then _ else _)=_;rw[if_pos h,if_pos hm]
theorem uo {m:Nat->Bool}{n:Nd}(h:n.par<0):(u9 m n).par=n.par:=by
 show (if 0<=n.par then _ else _)=_;rw[if_neg om]
theorem Kn {t:List Nd}{m:Nat->Bool}(d:Ji t) (e:ClP t m):Ji (kp t m):=by
 intro j b;rw[tE]at b;obtain⟨k,a,hm,rfl⟩:=JW m b;rw[CR a hm];have h1:=d k a;by_cases c:0<=(t.getD k default).par
 ·have h2:=e k a hm c;rw[oG c h2];have h3:=yp m (i:=(t.getD k default).par.toNat) (j:=k) om h2;omega
 ·rw[uo om];omega
theorem Yx {t:List Nd}{m:Nat->Bool}{P:Nd->Prop}(h:∀ n∈t,P n) (b:∀ n a:Nd,P n->a.set=n.set->a.name=n.name->P a):∀ n∈kp t m,P n:=by
 intro n c;obtain⟨k,d,rfl⟩:=List.mem_map.1 c;have:=List.mem_range.1 (List.mem_filter.1 d).1;exact b _ _ (h _ (fK this)) rfl rfl
theorem yM {t:List Nd}{m m':Nat->Bool}(a:Ji t) (h:∀ k,k<t.length->m k=m' k):kp t m=kp t m':=by
 have key:∀ n,n<=t.length->tR t m n=tR t m' n:=by
  intro n;induction n with
  | zero=>intro _;rfl
  | succ n ih=>
    intro b;rw[ke,ke,ih om,h n om];have c:=a n om;have e:u9 m (t.getD n default)=u9 m' (t.getD n default):=by
     unfold u9;by_cases h0:0<=(t.getD n default).par
     ·rw[if_pos h0,if_pos h0,h _ om,rI (m:=m) (m':=m') λk d=>h k om]
     ·rw[if_neg h0,if_neg h0]
    rw[e]
 exact key t.length (Nat.le_refl _)
theorem Pf (m m':Nat->Bool) (p:Nat):fB m' (fB m p)=fB (λk=>m k && m' (fB m k)) p:=by
 induction p with
 | zero=>rfl
 | succ p ih=>
   rw[dQ,dQ (λk=>m k && m' (fB m k)),<- ih];by_cases h:m p=true
   ·rw[if_pos h,dQ];simp[h]
   ·rw[if_neg h];simp[h]
theorem Us {t:List Nd}{m m':Nat->Bool}(b:Ji t) (a:ClP t m):kp (kp t m) m'=kp t λk=>m k && m' (fB m k):=by
 have key:∀ n,n<=t.length->tR (kp t m) m' (fB m n)=tR t (λk=>m k && m' (fB m k)) n:=by
  intro n;induction n with
  | zero=>intro _;rfl
  | succ n ih=>
    intro c;rw[ke t,<- ih om,dQ];by_cases h:m n=true
    ·rw[if_pos h,ke,CR om h];have e:u9 m' (u9 m (t.getD n default))=u9 (λk=>m k && m' (fB m k)) (t.getD n default):=by
      by_cases h0:0<=(t.getD n default).par
      ·have h1:=a n om h h0;have h2:=oG h0 h1;unfold u9 at h2 ⊢;simp only at h2 ⊢;rw[h2,if_pos om,Int.toNat_natCast,if_pos h0,Pf];simp only[h1,Bool.true_and]
      ·have h2:=uo (m:=m) (n:=t.getD n default) om;unfold u9 at h2 ⊢;simp only at h2 ⊢;rw[h2,if_neg h0,if_neg h0]
     rw[e];simp[h]
    ·rw[if_neg h];simp[h]
 have:=key t.length (Nat.le_refl _);unfold kp at this ⊢;rw[<- this,oF]
inductive An (t:List Nd) (a:Nat):Nat->Prop
  | one {k:Nat} : (t.getD k default).par=(a:Int)->An t a k
  | up {k b:Nat} : (t.getD k default).par=(b:Int)->An t a b->An t a k
theorem An.lt {t:List Nd}{a:Nat}(b:Ji t) {k:Nat}(h:An t a k) (c:k<t.length):a<k:=by
 induction h with
 | one h=>have:=b _ c;omega
 | up h _ ih=>
   have h1:=b _ c;have:=ih om;omega
theorem xR {t:List Nd}(a:Ji t) (top:Nat):∀ (f:Nat) (p:Int),p<(f:Int)->p<(t.length:Int)->(jf t (top:Int) f p=true↔∃ q:Nat,p=(q:Int)/\(q=top∨An t top q))
 | 0,p,h,_=>by
   show (false=true)↔_;constructor
   ·intro e;cases e
   ·rintro⟨q,rfl,_⟩;omega
 | f + 1, p, h, hl => by
   show (if 0<=p then _ else _)=true↔_;by_cases h0:0<=p
   ·rw[if_pos h0];obtain⟨q,rfl⟩:∃ q:Nat,p=(q:Int):=⟨p.toNat,by omega⟩;have b:=a q om;rw[Int.toNat_natCast,Bool.or_eq_true,decide_eq_true_iff,xR a top f _ om om];constructor
    ·rintro (e | ⟨r,e,h⟩)
     ·exact⟨q,rfl, .inl om⟩
     ·refine⟨q,rfl, .inr ?_⟩;rcases h with rfl | h
      ·exact .one e
      ·exact .up e h
    ·rintro⟨r,e,h⟩;have:q=r:=by omega
     subst this;rcases h with rfl | h
     ·exact .inl rfl
     ·right;cases h with
      | one h=>exact⟨top,h, .inl rfl⟩
      | up h h2=>exact⟨_,h, .inr h2⟩
   ·rw[if_neg h0];constructor
    ·intro e;cases e
    ·rintro⟨q,rfl,_⟩;omega
theorem Yy {t:List Nd}{m:Nat->Bool}(i:Ji t) (g:ClP t m) {a k:Nat}(v:a<t.length) (j:m a=true) (d:k<t.length) (f:m k=true):An (kp t m) (fB m a) (fB m k)↔An t a k:=by
 have key:∀ n k,k<=n->k<t.length->m k=true->(An (kp t m) (fB m a) (fB m k)↔An t a k):=by
  intro n;induction n with
  | zero=>
    intro k r d f;have s:k=0:=by omega
    subst s;constructor
    ·intro h;have:=h.lt (Kn i g) (P6 d f);simp[fB]at this
    ·intro h;have:=h.lt i d;omega
  | succ n ih=>
    intro k r d f;have o:=CR (t:=t) d f;have w:=i k d;constructor
    ·intro h;have q:∀ b:Nat,((kp t m).getD (fB m k) default).par=(b:Int)->∃ c:Nat,c<k/\(t.getD k default).par=(c:Int)/\m c=true/\fB m c=b:=λb e=>by
      rw[o]at e;by_cases h0:0<=(t.getD k default).par
      ·have h1:=g k d f h0;rw[oG h0 h1]at e;exact⟨(t.getD k default).par.toNat,by omega,by omega,h1,by omega⟩
      ·rw[uo om]at e;omega
     cases h with
     | one h=>
       obtain⟨c,h1,h2,h3,p⟩:=q _ h;have:=JX m h3 j p;subst this;exact .one h2
     | up h h2=>
       obtain⟨c,h3,p,u,h6⟩:=q _ h;subst h6;exact .up p ((ih c om om u).1 h2)
    ·intro h;cases h with
     | one h=>
       refine .one ?_;rw[o,oG om (g k d f om),h,Int.toNat_natCast]
     | @up _ b h h2=>
       have h1:=g k d f om;rw[h,Int.toNat_natCast]at h1;refine .up (b:=fB m b) ?_ ((ih b om om h1).2 h2);rw[o,oG om (by rw[h,Int.toNat_natCast];exact h1),h,Int.toNat_natCast]
 exact key k k (Nat.le_refl _) d f
theorem P8 {t:List Nd}{m:Nat->Bool}(c:Ji t) (a:ClP t m) {p:Nat}(d:p<t.length) (hm:m p=true) (b:∀ k,k<t.length->(t.getD k default).par=(p:Int)->m k=true∨(t.getD k default).set=[]):below (kp t m) (fB m p:Int)=below t (p:Int):=by
 have key:∀ n,n<=t.length->below (tR t m n) (fB m p:Int)=below (t.take n) (p:Int):=by
  intro n;induction n with
  | zero=>intro _;simp[tR,below]
  | succ n ih=>
    intro f;rw[ke,take_one t default om,gT,<- ih om,jy];by_cases h:m n=true
    ·rw[if_pos h,gT,jy];congr 1;by_cases e:(t.getD n default).par=(p:Int)
     ·rw[if_pos e,oG om (by rw[e,Int.toNat_natCast];exact hm),e,Int.toNat_natCast,if_pos rfl];rfl
     ·rw[if_neg e];by_cases h0:0<=(t.getD n default).par
      ·have h1:=a n om h h0;rw[oG h0 h1];rw[if_neg λg=>e ?_];have:=JX m h1 hm om;omega
      ·rw[uo om,if_neg om]
    ·rw[if_neg h];by_cases e:(t.getD n default).par=(p:Int)
     ·rcases b n om e with h1 | h1
      ·exact absurd h1 h
      ·rw[if_pos e,h1,List.append_nil]
     ·rw[if_neg e,List.append_nil]
 have:=key t.length (Nat.le_refl _);rwa[List.take_length]at this
def Cy (t:List Nd) (i:Nat):List Nd:=kp t λk=>!jf t (i:Int) (t.length+1) (t.getD k default).par
def yf:Nat->List Nd->List Int->Nat->List Nd × List Int
 | 0,t,g,i=>(t,g)
 | f+1,t,g,i=>if i<t.length then (if (below t (i:Int)).length<(t.getD i default).set.length then yf f t g (i+1) else yf f (Cy t i) (g++[(t.getD i default).name]) (i+1)) else (t,g)
theorem cut_cl {t:List Nd}(a:Ji t) (i:Nat):ClP t λk=>!jf t (i:Int) (t.length+1) (t.getD k default).par:=by
 intro k d h h0;have e:=a k d;obtain⟨q,c⟩:∃ q:Nat,(t.getD k default).par=(q:Int):=⟨(t.getD k default).par.toNat,by omega⟩;have f:=a q om;simp only[Bool.not_eq_true',Bool.eq_false_iff]at h ⊢;intro h2;refine h ((xR a i _ _ om om).2 ?_);rw[c,Int.toNat_natCast]at h2;obtain⟨r,h3,b⟩:=(xR a i _ _ om om).1 h2;refine⟨q,c, .inr ?_⟩;rcases b with rfl | b
 ·exact .one h3
 ·exact .up h3 b
theorem cut_wf {t:List Nd}(a:Ji t) (i:Nat):Ji (Cy t i):=Kn a (cut_cl a i)
theorem VN (t:List Nd) (i:Nat):(Cy t i).length<=t.length:=by
 unfold Cy;rw[tE];exact CC _ _
section
variable {N:Nat}{l:List Gn}
theorem Tw (h:Gr N l) {i:Nat}(j:i<l.length):Cu (((aD l).take i).map fO++(l.drop i).map fO) i=((aD l).getD i default).kept:=by
 have m:(aD l).length=l.length:=bR;have n:(((aD l).take i).map fO).length=i:=by rw[List.length_map,List.length_take];omega
 have o:((aD l).take i).length=i:=by rw[List.length_take];omega
 have b:(((aD l).take i).map fO++(l.drop i).map fO).getD i default=fO (l.getD i default):=by
  rw[bZ om,n,Nat.sub_self,getD_map (by rw[List.length_drop];omega)];simp[gD]
 have d:∀ k,k<i->(((aD l).take i).map fO++(l.drop i).map fO).getD k default=fO ((aD l).getD k default):=λk p=>by
  rw[dz om,getD_map om,getD_take p]
 generalize ((aD l).take i).map fO++(l.drop i).map fO=T at *;have f:=h.pw i j;rw[kZ j];show (T.getD i default).set.filter _=eW ((aD l).take i) (l.getD i default);unfold eW;rw[b];show (l.getD i default).kept.filter _=_;by_cases h0:0<=(l.getD i default).par
 ·have g:0<i:=by
   rcases Nat.eq_zero_or_pos i with e | e
   ·have:=f.1 e;omega
   ·exact e
  have q:=(f.2 g).2;rw[if_pos h0];refine List.filter_congr λx hx=>?_;have h1 : AJ T i x ↔ x ∈ (((aD l).take i).getD (l.getD i default).par.toNat default).kept /\ x ∉ fZ ((aD l).take i) (l.getD i default).par := by
   unfold AJ D4;rw[b];show (i=0∨x∈(T.getD (l.getD i default).par.toNat default).set)/\_↔_;rw[d _ om,getD_take om,qj,o];constructor
   ·rintro⟨h1 | h1,h2⟩
    ·omega
    ·refine⟨h1,?_⟩;rintro⟨k,h3,a,c⟩;rw[getD_take h3]at a c;refine h2 ⟨k,?_,h3,?_,?_⟩
     ·rcases Nat.eq_zero_or_pos k with e | e
      ·have:=h.pw k om;rw[fY om]at a;have:=this.1 e;omega
      ·exact e
     ·rw[d k h3];exact a
     ·rw[d k h3];exact c
   ·rintro⟨h1,h2⟩;refine⟨.inr h1,?_⟩;rintro⟨k,h3,a,c,h6⟩;rw[d k a]at c h6;exact h2 ⟨k,a,by rw[getD_take a];exact c,by rw[getD_take a];exact h6⟩
  by_cases r:x∈(((aD l).take i).getD (l.getD i default).par.toNat default).kept<;>by_cases s:x∈fZ ((aD l).take i) (l.getD i default).par<;>simp[h1]
 ·have g:i=0:=by
   rcases Nat.eq_zero_or_pos i with e | e
   ·exact e
   ·have:=f.2 e;omega
  rw[if_neg h0];refine List.filter_eq_self.2 λx hx=>?_;exact decide_eq_true ⟨.inl g,λ⟨k,h1,h2,_⟩=>by omega⟩
abbrev Lk (l:List Gn):List Nd:=(aD l).map fO
abbrev Cl (l:List Gn) (i:Nat):Gn:=(aJ (aD l)).getD i default
theorem qp:(Lk l).length=l.length:=by rw[List.length_map,bR]
theorem yJ {i:Nat}(h:i<l.length):(Lk l).getD i default=fO ((aD l).getD i default):=getD_map (by rw[bR];exact h)
theorem H6 {i:Nat}(h:i<l.length):((Lk l).getD i default).par=(l.getD i default).par:=by
 rw[yJ h];exact fY h
theorem Km (b:Gr N l):Ji (Lk l):=λi a=>by
 rw[qp]at a;rw[H6 a];have:=b.pw i a;rcases Nat.eq_zero_or_pos i with e | e
 ·have:=this.1 e;omega
 ·have:=this.2 e;omega
theorem P4 (d:Gr N l) {i b:Nat}(a:i<l.length) (c:((Lk l).getD i default).par=(b:Int)) (h:((aD l).getD b default).kept=[]):((aD l).getD i default).kept=[]:=by
 rw[H6 a]at c;refine List.eq_nil_iff_forall_not_mem.2 λx hx=>?_;have h1:=d.pw i a;have h0:0<i:=by
  rcases Nat.eq_zero_or_pos i with e | e
  ·have:=h1.1 e;omega
  ·exact e
 have:=((oP a (h1.2 h0).1 (h1.2 h0).2).1 hx).2.1;rw[c,Int.toNat_natCast,h]at this;cases this
theorem RH (d:Gr N l):∀ n i,i<=n->i<l.length->((Cl l i).gone=true↔((aD l).getD i default).kept=[]∨∃ a,An (Lk l) a i/\(Cl l a).bO=true):=by
 intro n;induction n with
 | zero=>
   intro i o c;rw[xO d c];constructor
   ·rintro (h | ⟨h,_⟩)
    ·exact .inl h
    ·omega
   ·rintro (h | ⟨a,h,_⟩)
    ·exact .inl h
    ·have:=h.lt (Km d) (by rw[qp];exact c);omega
 | succ n ih=>
   intro i o c;rw[xO d c];have f:=d.pw i c;have j:=H6 (l:=l) c;constructor
   ·rintro (h | ⟨h0,h | h⟩)
    ·exact .inl h
    ·refine .inr ⟨_, .one ?_,h⟩;rw[j];have:=f.2 h0;omega
    ·have h2:=f.2 h0;have e:((Lk l).getD i default).par=(((l.getD i default).par.toNat:Nat):Int):=by rw[j];omega
     rcases (ih _ om om).1 h with h | ⟨a,h3,g⟩
     ·exact .inl (P4 d c e h)
     ·exact .inr ⟨a, .up e h3,g⟩
   ·rintro (h | ⟨a,h,g⟩)
    ·exact .inl h
    ·have m:∀ b:Nat,((Lk l).getD i default).par=(b:Int)->0<i/\(l.getD i default).par.toNat=b/\b<i:=λb e=>by
      rw[j]at e;rcases Nat.eq_zero_or_pos i with k | k
      ·have:=f.1 k;omega
      ·have:=f.2 k;omega
     cases h with
     | one h=>
       obtain⟨h0,h1,h2⟩:=m _ h;exact .inr ⟨h0, .inl (by rw[h1];exact g)⟩
     | up h h3=>
       obtain⟨h0,h1,h2⟩:=m _ h;exact .inr ⟨h0, .inr (by rw[h1];exact (ih _ om om).2 (.inr ⟨a,h3,g⟩))⟩
noncomputable def Mk (l:List Gn) (p k:Nat):Bool:=!decide (((aD l).getD k default).kept=[]) && !decide (∃ a,a<p/\An (Lk l) a k/\(Cl l a).bO=true)
theorem qi {p k:Nat} : Mk l p k=true↔((aD l).getD k default).kept≠[]/\¬ ∃ a,a<p/\An (Lk l) a k/\(Cl l a).bO=true:=by
 unfold Mk;rw[Bool.and_eq_true,Bool.not_eq_true',Bool.not_eq_true',decide_eq_false_iff_not,decide_eq_false_iff_not]
theorem Wz (c:Gr N l) (p:Nat):ClP (Lk l) (Mk l p):=by
 intro i b h h0;rw[qp]at b;obtain⟨h1,h2⟩:=qi.1 h;have e:((Lk l).getD i default).par=(((Lk l).getD i default).par.toNat:Int):=by omega
 refine qi.2 ⟨λh=>h1 (P4 c b e h),?_⟩;rintro⟨a,h3,d,f⟩;exact h2 ⟨a,h3, .up e d,f⟩
theorem xu (e:Gr N l) {p q:Nat}(f:p<l.length) (g:p<=q):Mk l q p = !(Cl l p).gone:=by
 have h1:=RH e p p (Nat.le_refl _) f;by_cases h:Mk l q p=true
 ·obtain⟨h2,h3⟩:=qi.1 h;rw[h];symm;rw[Bool.not_eq_true',Bool.eq_false_iff];intro c;rcases h1.1 c with b | ⟨a,b,d⟩
  ·exact h2 b
  ·exact h3 ⟨a,by have:=b.lt (Km e) (by rw[qp];exact f);omega,b,d⟩
 ·have c:(Cl l p).gone=true:=h1.2 (by
   by_cases h2:((aD l).getD p default).kept=[]
   ·exact .inl h2
   ·refine .inr ?_;have:∃ a,a<q/\An (Lk l) a p/\(Cl l a).bO=true:=Classical.byContradiction λh3=>h (qi.2 ⟨h2,h3⟩);obtain⟨a,_,b,d⟩:=this;exact⟨a,b,d⟩)
  rw[c];simpa using h
theorem rK {p k:Nat}(h:(Cl l p).bO=false):Mk l (p+1) k=Mk l p k:=by
 have e:(∃ a,a<p+1/\An (Lk l) a k/\(Cl l a).bO=true)↔∃ a,a<p/\An (Lk l) a k/\(Cl l a).bO=true:=by
  constructor
  ·rintro⟨a,h1,h2,h3⟩;rcases Nat.lt_or_ge a p with e | e
   ·exact⟨a,e,h2,h3⟩
   ·have:a=p:=by omega
    subst this;rw[h]at h3;cases h3
  ·rintro⟨a,h1,h2,h3⟩;exact⟨a,by omega,h2,h3⟩
 unfold Mk;simp only[e]
theorem rL {p k:Nat}(h:(Cl l p).bO=true):Mk l (p+1) k=true↔Mk l p k=true/\¬ An (Lk l) p k:=by
 rw[qi,qi];constructor
 ·rintro⟨h1,h2⟩;exact⟨⟨h1,λ⟨a,h3,c,b⟩=>h2 ⟨a,by omega,c,b⟩⟩,λh3=>h2 ⟨p,by omega,h3,h⟩⟩
 ·rintro⟨⟨h1,h2⟩,h3⟩;refine⟨h1,?_⟩;rintro⟨a,c,b,h6⟩;rcases Nat.lt_or_ge a p with e | e
  ·exact h2 ⟨a,e,b,h6⟩
  ·have:a=p:=by omega
   subst this;exact h3 b
theorem TX {m m':Nat->Bool}{i j:Nat}(h:∀ k,m' k=true->m k=true) (a:i<=j):fB m' j - fB m' i<=fB m j - fB m i:=by
 induction j with
 | zero=>simp[Nat.le_zero.1 a]
 | succ j ih=>
   rcases Nat.lt_or_ge j i with e | e
   ·rw[show i=j+1 by omega];simp
   ·have h1:=ih e;have h2:=uf m e;have h3:=uf m' e;rw[dQ,dQ];by_cases b:m' j=true
    ·rw[if_pos b,if_pos (h j b)];omega
    ·rw[if_neg b];split<;>omega
def IN (l:List Gn) (p:Nat):List Int:=(((aJ (aD l)).take p).filter λn=>!n.gone && n.bO).map (·.name)
theorem RI {p:Nat}(a:p<l.length):IN l (p+1)=IN l p++if !(Cl l p).gone && (Cl l p).bO then [(Cl l p).name] else []:=by
 unfold IN;rw[take_one _ default (by rw[gJ];exact a),List.filter_append,List.map_append];congr 1;have e:∀ c:Gn,(([c]:List Gn).filter λn=>!n.gone && n.bO).map (·.name)=if !c.gone && c.bO then [c.name] else []:=λc=>by
  rw[List.filter_cons];split<;>rfl
 exact e _
theorem Sk (a:Gr N l) (p:Nat):(below (Lk l) (p:Int)).length=under (aD l) (p:Int):=by
 rw[vp];congr 1;unfold below fZ;rw[List.filter_map,List.flatMap_map];rfl
theorem xX (a:Gr N l) {p:Nat}(b:p<l.length):under (aD l) (p:Int)<=((aD l).getD p default).kept.length:=by
 rw[vp];exact gn (xZ a.pw a.nd) λx hx=>D5 a.pw b hx
theorem TB (y:Gr N l):∀ d p f,p+d=l.length->fB (Mk l p) l.length<=fB (Mk l p) p+f->yf f (kp (Lk l) (Mk l p)) (IN l p) (fB (Mk l p) p)=(kp (Lk l) (Mk l l.length),IN l l.length):=by
 intro d;have s:=Km y;have r:(Lk l).length=l.length:=qp;induction d with
 | zero=>
   intro p f H L;have H:p=l.length:=by omega
   subst H;cases f with
   | zero=>rfl
   | succ f=>
     unfold yf;rw[if_neg (by rw[tE,r];omega)]
 | succ d ih =>
   intro p f H L;have n:p<l.length:=by omega
   have D:=xu y n (Nat.le_refl p);have w:=RI n;cases E:(Cl l p).gone with
   | true=>
     rw[E]at D w;have I:(Cl l p).bO=false:=by
      rw[Bool.eq_false_iff];intro h;have:=((zI (by rw[bR];exact n)).1 h).1;rw[show ((aJ (aD l)).getD p default).gone=true from E]at this;cases this
     have J:kp (Lk l) (Mk l p)=kp (Lk l) (Mk l (p+1)):=yM s λk _=>(rK I).symm;have z:∀ i,fB (Mk l p) i=fB (Mk l (p+1)) i:=λi=>rI λk _=>(rK I).symm;have x:fB (Mk l (p+1)) (p+1)=fB (Mk l p) p:=by
      rw[dQ,<- z,rK I,D];simp
     have A:IN l (p+1)=IN l p:=by rw[w];simp
     rw[J,<- x,<- A];refine ih (p+1) f om ?_;rw[x,<- z];exact L
   | false =>
     rw[E]at D w;have u:Mk l p p=true:=D;have M:=P6 (t:=Lk l) (by rw[r];exact n) u;have F:=Wz y p;obtain⟨G,rfl⟩:∃ G,f=G+1:=⟨f - 1,by rw[tE,r]at M;omega⟩;have O:=CR (t:=Lk l) (m:=Mk l p) (k:=p) (by rw[r];exact n) u;have B:=P8 s F (by rw[r];exact n) u λk v e=>by
      rw[r]at v;by_cases h:((aD l).getD k default).kept=[]
      ·right;rw[yJ v];exact h
      ·left;refine qi.2 ⟨h,?_⟩;rintro⟨a,h1,h2,h3⟩;cases h2 with
       | one h2=>omega
       | @up _ b h2 o=>
         have:b=p:=by omega
         subst this;exact (qi.1 u).2 ⟨a,h1,o,h3⟩
     have S:((kp (Lk l) (Mk l p)).getD (fB (Mk l p) p) default).set=((aD l).getD p default).kept:=by
      rw[O,yJ n];rfl
     have T:((kp (Lk l) (Mk l p)).getD (fB (Mk l p) p) default).name=(Cl l p).name:=by
      rw[O,yJ n];exact (n7 (by rw[bR];exact n)).symm
     have X:=xX y n;have P:=zI (l:=aD l) (i:=p) (by rw[bR];exact n);unfold yf;rw[if_pos M,B,Sk y,S,T];cases c:(Cl l p).bO with
     | false=>
       rw[c]at w;have dB:under (aD l) (p:Int)≠((aD l).getD p default).kept.length:=λe=>by
        have:=P.2 ⟨E,e⟩;rw[show ((aJ (aD l)).getD p default).bO=false from c]at this;cases this
       rw[if_pos om];have J:kp (Lk l) (Mk l p)=kp (Lk l) (Mk l (p+1)):=yM s λk _=>(rK c).symm;have z:∀ i,fB (Mk l p) i=fB (Mk l (p+1)) i:=λi=>rI λk _=>(rK c).symm;have x:fB (Mk l (p+1)) (p+1)=fB (Mk l p) p+1:=by
        rw[dQ,<- z,rK c,u];simp
       have A:IN l (p+1)=IN l p:=by rw[w];simp
       rw[J,<- x,<- A];refine ih (p+1) G om ?_;rw[x,<- z];omega
     | true=>
       rw[c]at w;have Y:=(P.1 c).2;rw[if_neg om];have C:Cy (kp (Lk l) (Mk l p)) (fB (Mk l p) p)=kp (Lk l) (Mk l (p+1)):=by
        unfold Cy;rw[Us s F];refine yM s λk v=>?_;rw[r]at v;by_cases h:Mk l p k=true
        ·have K:=P6 (t:=Lk l) (m:=Mk l p) (k:=k) (by rw[r];exact v) h;have Q:=Kn s F;have U:=Q _ K;have h1:=xR Q (fB (Mk l p) p) ((kp (Lk l) (Mk l p)).length+1) ((kp (Lk l) (Mk l p)).getD (fB (Mk l p) k) default).par om om;have h2:=Yy s F (a:=p) (k:=k) (by rw[r];exact n) u (by rw[r];exact v) h;have h3:(∃ q:Nat,((kp (Lk l) (Mk l p)).getD (fB (Mk l p) k) default).par=(q:Int)/\(q=fB (Mk l p) p∨An (kp (Lk l) (Mk l p)) (fB (Mk l p) p) q))↔An (kp (Lk l) (Mk l p)) (fB (Mk l p) p) (fB (Mk l p) k):=by
          constructor
          ·rintro⟨q,e,rfl | o⟩
           ·exact .one e
           ·exact .up e o
          ·intro o;cases o with
           | one e=>exact⟨_,e, .inl rfl⟩
           | up e o=>exact⟨_,e, .inr o⟩
         rw[h3,h2]at h1;by_cases o:An (Lk l) p k
         ·have g:¬ Mk l (p+1) k=true:=λg=>((rL c).1 g).2 o;rw[h,h1.2 o];simpa using g
         ·have g:Mk l (p+1) k=true:=(rL c).2 ⟨h,o⟩;have h6:jf (kp (Lk l) (Mk l p)) (fB (Mk l p) p:Int) ((kp (Lk l) (Mk l p)).length+1) ((kp (Lk l) (Mk l p)).getD (fB (Mk l p) k) default).par=false:=by
           rw[Bool.eq_false_iff];exact λV=>o (h1.1 V)
          rw[h,g,h6];rfl
        ·have g:¬ Mk l (p+1) k=true:=λg=>h ((rL c).1 g).1;have h6:Mk l p k=false:=by simpa using h
         rw[h6];simpa using g
       have R:∀ k,k<=p->Mk l (p+1) k=Mk l p k:=λk v=>by
        by_cases h:Mk l p k=true
        ·rw[h];exact (rL c).2 ⟨h,λh2=>by have:=h2.lt s (by rw[r];omega);omega⟩
        ·have g:¬ Mk l (p+1) k=true:=λg=>h ((rL c).1 g).1;have h6:Mk l p k=false:=by simpa using h
         rw[h6];simpa using g
       have x:fB (Mk l (p+1)) (p+1)=fB (Mk l p) p+1:=by
        rw[dQ,R p (Nat.le_refl _),u,rI (m':=Mk l p) λk v=>R k om];simp
       have A:IN l (p+1)=IN l p++[(Cl l p).name]:=by rw[w];simp
       rw[C,<- x,<- A];refine ih (p+1) G om ?_;have h1:=TX (m:=Mk l p) (m':=Mk l (p+1)) (i:=p+1) (j:=l.length) (λk h=>((rL c).1 h).1) om;have h2:=uf (Mk l (p+1)) (i:=p+1) (j:=l.length) om;have h3:fB (Mk l p) (p+1)=fB (Mk l p) p+1:=by rw[dQ,u];simp
       omega
theorem P7 (a:Gr N l):kp (Lk l) (Mk l l.length)=leave (aJ (aD l)):=by
 have d:∀ p,p<=l.length->fB (Mk l l.length) p=(((aJ (aD l)).take p).filter λn=>!n.gone).length:=by
  intro p;induction p with
  | zero=>intro _;simp[fB]
  | succ p ih=>
    intro j;rw[dQ,ih om,take_one _ default (by rw[gJ];omega),List.filter_append,List.length_append,xu a om om];congr 1;have e:∀ c:Gn,(if (!c.gone)=true then 1 else 0)=(([c]:List Gn).filter λn=>!n.gone).length:=λc=>by
     rw[List.filter_cons];split<;>rfl
    exact e _
 have key:∀ n,n<=l.length->tR (Lk l) (Mk l l.length) n=(((aJ (aD l)).take n).filter λn=>!n.gone).map λn=>(⟨n.name,place (aJ (aD l)) n.par,n.kept⟩:Nd):=by
  intro n;induction n with
  | zero=>intro _;simp[tR]
  | succ n ih=>
    intro k;rw[ke,ih om,take_one _ default (by rw[gJ];omega),List.filter_append,List.map_append,xu a om om];have g:∀ (c:Gn) (F:Gn->Nd) (K:List Nd) (x:Nd),(c.gone=false->x=F c)->(if (!c.gone)=true then K++[x] else K)=K++(([c]:List Gn).filter λn=>!n.gone).map F:=λc F K x hx=>by
     rw[List.filter_cons];cases h:c.gone with
     | true=>simp
     | false=>simp[hx h]
    refine g _ _ _ _ λh1=>?_
    ·skip;have f:n<(aD l).length:=by rw[bR];omega
     have e:u9 (Mk l l.length) ((Lk l).getD n default)=(⟨((aJ (aD l)).getD n default).name,place (aJ (aD l)) ((aJ (aD l)).getD n default).par,((aJ (aD l)).getD n default).kept⟩:Nd):=by
      rw[yJ om,n7 f,Gf f,KZ f];have m:((aD l).getD n default).par<(l.length:Int):=by
       rw[fY om];have:=a.pw n om;rcases Nat.eq_zero_or_pos n with e | e
       ·have:=this.1 e;omega
       ·have:=this.2 e;omega
      unfold u9 fO place;simp only;congr 1;by_cases h0:0<=((aD l).getD n default).par
      ·rw[if_pos h0,if_pos h0,xu a om om,d _ om];have i:∀ (b:Bool) (x:Int),(if (!b)=true then x else 0)=if b=true then 0 else x:=λb x=>by cases b<;>rfl
       exact i _ _
      ·rw[if_neg h0,if_neg h0]
     exact e
 have:=key l.length (Nat.le_refl _);rw[List.take_of_length_le (by rw[gJ];exact Nat.le_refl _)]at this;unfold kp leave;rw[qp];exact this
theorem ON (b:Gr N l) {f:Nat}(c:(kp (Lk l) λk=>!decide (((aD l).getD k default).kept=[])).length<=f):yf f (kp (Lk l) λk=>!decide (((aD l).getD k default).kept=[])) [] 0=(leave (aJ (aD l)),cR (aJ (aD l))):=by
 have e:∀ k,Mk l 0 k = !decide (((aD l).getD k default).kept=[]):=λk=>by
  unfold Mk;have:¬ ∃ a,a<0/\An (Lk l) a k/\(Cl l a).bO=true:=λ⟨a,h,_⟩=>by omega
  rw[decide_eq_false this];simp
 have d:(λk=>!decide (((aD l).getD k default).kept=[]))=Mk l 0:=funext λk=>(e k).symm;rw[d]at c ⊢;have h:=TB b l.length 0 f om (by rw[tE,qp]at c;omega);have h0:fB (Mk l 0) 0=0:=rfl;have h1:IN l 0=[]:=by simp[IN]
 have h2:IN l l.length=cR (aJ (aD l)):=by
  unfold IN cR;rw[List.take_of_length_le (by rw[gJ];exact Nat.le_refl _)]
 rw[h0,h1,h2,P7 b]at h;exact h
end
def Hq (used:List Int) (f:Nat) (n:Int):Int:=dV used (f - (n - 1).toNat) (n - 1)
def qa (used:List Int) (f:Nat):Int->List Nd->List Nd
 | _,[]=>[]
 | n,x::l=>if 0<x.name then x::qa used f n l else { x with name:=Hq used f n } :: qa used f (Hq used f n+1) l
theorem BE (U:List Int) (f:Nat) (l:List Gn) (n:Int):∀ i,((dX U f n l).getD i default).gone=(l.getD i default).gone:=λi=>(nM U f l n i).2.2.2.1
theorem PK (U:List Int) (f:Nat) (l:List Gn) (n:Int) (k:Nat):(((dX U f n l).take k).filter λn=>!n.gone).length=((l.take k).filter λn=>!n.gone).length:=by
 have h1:=ja ((dX U f n l).take k) (λn=>!n.gone);have h2:=ja (l.take k) (λn=>!n.gone);rw[h1,h2,List.length_take,List.length_take,uj];congr 1;refine List.filter_congr λi a=>?_;have:=List.mem_range.1 a;rw[getD_take om,getD_take om,BE]
theorem LP (U:List Int) (f:Nat) (l:List Gn) (n:Int) (i:Int):place (dX U f n l) i=place l i:=by
 unfold place;rw[BE,PK]
theorem uh (U:List Int) (f:Nat) (pl:Int->Int):∀ (l:List Gn) (n:Int),(∀ x∈l,x.gone=false->(x.old=true↔0<x.name)) ->
 ((dX U f n l).filter λn=>!n.gone).map (λn=>(⟨n.name,pl n.par,n.kept⟩:Nd))=qa U f (n+1) ((l.filter λn=>!n.gone).map λn=>(⟨n.name,pl n.par,n.kept⟩:Nd))
 | [],n,_=>rfl
 | x :: l, n, h => by
   have hl:=λy b=>h y (List.mem_cons_of_mem _ b);have hx:=h x List.mem_cons_self;have c:Hq U f (n+1)=dV U (f - n.toNat) n:=by
    unfold Hq;rw[Int.add_sub_cancel]
   unfold dX;cases a:x.gone with
   | true=>
     rw[Bool.or_true,if_pos rfl,List.filter_cons,List.filter_cons,a];simp only[Bool.not_true,Bool.false_eq_true,if_false];exact uh U f pl l n hl
   | false=>
     cases ho:x.old with
     | true=>
       rw[Bool.true_or,if_pos rfl,List.filter_cons,List.filter_cons,a];simp only[Bool.not_false,if_true,List.map_cons];rw[uh U f pl l n hl];show _=if 0<x.name then _ else _
       rw[if_pos ((hx a).1 ho)]
     | false=>
       rw[Bool.or_false,if_neg (by decide),List.filter_cons,List.filter_cons];simp only[a,Bool.not_false,if_true,List.map_cons];rw[uh U f pl l _ hl];show _=if 0<x.name then _ else _
       have:¬ 0<x.name:=λh2=>by
        have:=(hx a).2 h2;rw[ho]at this;cases this
       rw[if_neg this,c]
theorem vE (U:List Int) (f:Nat):∀ (l:List Gn) (n:Int),(∀ x∈l,x.gone=false->x.bO=true->x.old=true)->cR (dX U f n l)=cR l
 | [],n,_=>rfl
 | x :: l, n, h => by
   have hl:=λy e=>h y (List.mem_cons_of_mem _ e);have hx:=h x List.mem_cons_self;have key:∀ (a b:Gn) (r s:List Gn),cR r=cR s->a.gone=b.gone->a.bO=b.bO->((!b.gone && b.bO)=true->a.name=b.name)->cR (a::r)=cR (b::s):=λa b r s h1 h2 h3 g=>by
    unfold cR at h1 ⊢;rw[List.filter_cons,List.filter_cons,h2,h3];split
    ·rename_i c;rw[List.map_cons,List.map_cons,h1,g c]
    ·exact h1
   unfold dX;split
   ·exact key _ _ _ _ (vE U f l n hl) rfl rfl λ_=>rfl
   ·rename_i d;refine key _ _ _ _ (vE U f l _ hl) rfl rfl λc=>?_;simp only[Bool.and_eq_true,Bool.not_eq_true']at c;have:=hx c.1 c.2;rw[this]at d;exact absurd rfl d
theorem yA (U:List Int) (f:Nat):∀ (l:List Gn) (n:Int),gd (dX U f n l)=gd l
 | [],n=>rfl
 | x :: l, n => by
   have key:∀ (a b:Gn) (r s:List Gn),gd r=gd s->a.gone=b.gone->a.old=b.old->((b.gone && b.old)=true->a.name=b.name)->gd (a::r)=gd (b::s):=λa b r s h1 h2 h3 e=>by
    unfold gd at h1 ⊢;rw[List.filter_cons,List.filter_cons,h2,h3];split
    ·rename_i c;rw[List.map_cons,List.map_cons,h1,e c]
    ·exact h1
   unfold dX;split
   ·exact key _ _ _ _ (yA U f l n) rfl rfl λ_=>rfl
   ·rename_i d;refine key _ _ _ _ (yA U f l _) rfl rfl λc=>?_;simp only[Bool.and_eq_true]at c;rw[c.2]at d;exact absurd rfl d
section
variable {N:Nat}{mv:Nat->Mv}{t:List Nd}
theorem VB (i:Nat) (a:i<(grown N mv t).length):((grown N mv t).getD i default).old=decide (i<t.length)/\((grown N mv t).getD i default).name=if i<t.length then (t.getD i default).name else 0:=by
 rcases iq a with e | ⟨k,b,rfl⟩
 ·rw[kJ e,decide_eq_true e,if_pos e];exact⟨rfl,rfl⟩
 ·rw[ni b,decide_eq_false om,if_neg om];exact⟨rfl,rfl⟩
theorem oV (i:Nat) (a:i<(grown N mv t).length):(Cl (grown N mv t) i).old=decide (i<t.length)/\(Cl (grown N mv t) i).name=if i<t.length then (t.getD i default).name else 0:=by
 have h:=VB i a;rw[<- oO a,<- rA a,<- oS (by rw[bR];exact a),<- n7 (by rw[bR];exact a)]at h;exact h
theorem I0 (h:Tr N t):∀ x∈aJ (aD (grown N mv t)),x.gone=false->(x.old=true↔0<x.name):=by
 intro x hx _;obtain⟨i,a,rfl⟩:=cF hx;rw[gJ]at a;obtain⟨h1,h2⟩:=oV (N:=N) (mv:=mv) i a;rw[show ((aJ (aD (grown N mv t))).getD i default).old=_ from h1,show ((aJ (aD (grown N mv t))).getD i default).name=_ from h2];by_cases e:i<t.length
 ·have:=(h.1 i e).name.1;rw[decide_eq_true e,if_pos e];exact⟨λ_=>by omega,λ_=>rfl⟩
 ·rw[decide_eq_false e,if_neg e];simp
theorem I5 (b:Gr N (grown N mv t)):∀ x∈aJ (aD (grown N mv t)),x.gone=false->x.bO=true->x.old=true:=by
 intro x hx f g;obtain⟨i,a,rfl⟩:=cF hx;rw[gJ]at a;rw[show ((aJ (aD (grown N mv t))).getD i default).old=_ from (oV (N:=N) (mv:=mv) i a).1];rcases iq a with e | ⟨k,m,rfl⟩
 ·exact decide_eq_true e
 ·exfalso;have h:As N mv t (t.length+k):=⟨a,f⟩;obtain⟨x,hx⟩:=List.exists_mem_of_ne_nil _ (h.ne b);obtain⟨c,c1,c2,c3⟩:=((Dq b a).1 g).2 x hx;rcases iq c1 with e | ⟨n,j,rfl⟩
  ·have:=(b.pw c c1).2;rcases Nat.eq_zero_or_pos c with d | d
   ·have:=(b.pw c c1).1 d;omega
   ·have:=this d;omega
  ·rw[zn j]at c2;omega
theorem LB (h:Tr N t):qa (dW (aJ (aD (grown N mv t)))) (2*N) 1 (leave (aJ (aD (grown N mv t))))=step N mv t:=by
 unfold step cW named;have h1:=uh (dW (aJ (aD (grown N mv t)))) (2*N) (place (aJ (aD (grown N mv t)))) (aJ (aD (grown N mv t))) 0 (I0 h);unfold leave;rw[show (1:Int)=0+1 from rfl,<- h1];refine List.map_congr_left λn _=>?_;rw[LP]
theorem IL (h:Tr N t):cR (cW N mv t)=cR (aJ (aD (grown N mv t))):=vE _ _ _ _ (I5 (B1 h))
theorem A6:dW (aJ (aD (grown N mv t)))=t.map (·.name):=by
 have hl:(aJ (aD (grown N mv t))).length=2*t.length:=by rw[gJ,fh]
 have e:aJ (aD (grown N mv t))=(aJ (aD (grown N mv t))).take t.length++(aJ (aD (grown N mv t))).drop t.length:=(List.take_append_drop _ _).symm;have h1:((aJ (aD (grown N mv t))).take t.length).filter (·.old)=(aJ (aD (grown N mv t))).take t.length:=by
  refine List.filter_eq_self.2 λx hx=>?_;obtain⟨i,a,rfl⟩:=cF hx;rw[List.length_take]at a;rw[getD_take om,show ((aJ (aD (grown N mv t))).getD i default).old=_ from (oV (N:=N) (mv:=mv) i (by rw[fh];omega)).1];exact decide_eq_true om
 have h2:((aJ (aD (grown N mv t))).drop t.length).filter (·.old)=[]:=by
  refine List.filter_eq_nil_iff.2 λx hx=>?_;obtain⟨i,a,rfl⟩:=cF hx;rw[List.length_drop]at a;have c:((aJ (aD (grown N mv t))).drop t.length).getD i default=(aJ (aD (grown N mv t))).getD (t.length+i) default:=by simp[gD]
  rw[c,show ((aJ (aD (grown N mv t))).getD (t.length+i) default).old=_ from (oV (N:=N) (mv:=mv) (t.length+i) (by rw[fh];omega)).1];rw[decide_eq_false om];simp
 unfold dW;rw[e,List.filter_append,h1,h2,List.append_nil];apply List.ext_getElem
 ·rw[List.length_map,List.length_map,List.length_take];omega
 ·intro i d b;rw[List.length_map]at b;rw[List.getElem_map,List.getElem_map,List.getElem_take];have h3:=(oV (N:=N) (mv:=mv) (t:=t) i (by rw[fh];omega)).2;rw[if_pos b]at h3;have f:(aJ (aD (grown N mv t)))[i]'(by rw[hl];omega)=Cl (grown N mv t) i:=by
   show _=(aJ (aD (grown N mv t))).getD i default;rw[gD,gE (by rw[hl];omega)];rfl
  rw[f,h3,gD,gE b];rfl
theorem Nk (h:Tr N t):gd (cW N mv t)=(t.map (·.name)).filter λx=>decide (x ∉ (leave (aJ (aD (grown N mv t)))).map (·.name)):=by
 unfold cW named;have p:=A6 (N:=N) (mv:=mv) (t:=t);rw[yA,<- p];unfold gd dW;rw[List.filter_map,List.filter_filter];congr 1;refine List.filter_congr λx hx=>?_;obtain⟨i,d,rfl⟩:=cF hx;rw[gJ]at d;obtain⟨h1,h2⟩:=oV (N:=N) (mv:=mv) i d;have q:(leave (aJ (aD (grown N mv t)))).map (·.name)=((aJ (aD (grown N mv t))).filter λn=>!n.gone).map (·.name):=by
  unfold leave;rw[List.map_map];rfl
 rw[q];show ((Cl (grown N mv t) i).gone && (Cl (grown N mv t) i).old)=(decide ((Cl (grown N mv t) i).name ∉ _) && (Cl (grown N mv t) i).old);rw[h1];by_cases e:i<t.length
 ·rw[decide_eq_true e,Bool.and_true,Bool.and_true];rw[if_pos e]at h2;cases m:(Cl (grown N mv t) i).gone with
  | false=>
    symm;refine decide_eq_false λa=>a (List.mem_map.2 ⟨Cl (grown N mv t) i,List.mem_filter.2 ⟨fK (by rw[gJ];exact d),by rw[m];rfl⟩,rfl⟩)
  | true=>
    symm;refine decide_eq_true λhm=>?_;obtain⟨y,f,g⟩:=List.mem_map.1 hm;obtain⟨f,b⟩:=List.mem_filter.1 f;obtain⟨j,o,rfl⟩:=cF f;rw[gJ]at o;have h3:=(oV (N:=N) (mv:=mv) j o).2;have c:(Cl (grown N mv t) j).name=(t.getD i default).name:=Eq.trans g h2;rw[h3]at c;by_cases k:j<t.length
    ·rw[if_pos k]at c;have:=Jw h k e c;subst this;rw[show ((aJ (aD (grown N mv t))).getD j default).gone=true from m]at b;cases b
    ·rw[if_neg k]at c;have:=(h.1 i e).name.1;omega
 ·rw[decide_eq_false e,Bool.and_false,Bool.and_false]
end
abbrev Lf (l:List Int):List Int:=l.mergeSort λa b=>decide (a<=b)
theorem Le (l:List Int):(Lf l).Perm l:=List.mergeSort_perm _ _
theorem D7 (l:List Int):(Lf l).Pairwise (· <= ·):=by
 have h:=List.pairwise_mergeSort (le:=λa b:Int=>decide (a<=b)) (λa b c h1 h2=>by simp only[decide_eq_true_iff] at *;omega) (λa b=>by simp only[Bool.or_eq_true,decide_eq_true_iff];omega) l;exact h.imp λh=>by simpa using h
theorem Ld {l m:List Int}(h1:m.Pairwise (· <= ·)) (h2:m.Perm l):m=Lf l:=
 (h2.trans (Le l).symm).eq_of_pairwise (λa b _ _ h3 c=>Int.le_antisymm h3 c) h1 (D7 l)
theorem Fc {A B:List Int}{x:Int}(c:(A++B).Pairwise (· <= ·)) (hB:∀ b∈B,x<=b) (f:∀ a∈A,a<=x):(A++x::B).Pairwise (· <= ·):=by
 rw[List.pairwise_append]at c ⊢;refine⟨c.1,List.pairwise_cons.2 ⟨hB,c.2.1⟩,λa e b d=>?_⟩;rcases List.mem_cons.1 d with rfl | d
 ·exact f a e
 ·exact c.2.2 a e b d
theorem Qn {A B:List Int}{x y:Int}(d:(A++[y]++B).Pairwise (· <= ·)) (hB:∀ b∈B,x<=b) (h:y<=x):(A++[y]++x::B).Pairwise (· <= ·):=by
 refine Fc d hB λa c=>?_;rcases List.mem_append.1 c with c | c
 ·rw[List.append_assoc,List.pairwise_append]at d;have:=d.2.2 a c y (by simp);omega
 ·rw[List.mem_singleton.1 c];exact h
theorem Qm {A B S L:List Int}{x:Int}(a:A++B=S) (b:S.Perm L):(A++x::B).Perm (L++[x]):=by
 subst a;refine (List.perm_middle).trans ?_;refine (List.Perm.cons x b).trans ?_;exact (List.perm_append_singleton x L).symm
theorem Ot {A B:List Int}{x y:Int} : ((A++y::x::B).set A.length x).set (A.length+1) y=A++x::y::B:=by
 rw[List.set_append_right _ _ (Nat.le_refl _),Nat.sub_self,List.set_cons_zero,List.set_append_right _ _ om,Nat.add_sub_cancel_left];rfl
end Go.pR
end
