/- tree.divide. -/
import Derived.Test.YtkbiecjdcjfhaaaTval
set_option linter.unusedSimpArgs false
set_option linter.unusedVariables false
set_option maxRecDepth 100000
set_option maxHeartbeats 16000000
section
namespace Go.Proofs.Ytkbiecjdcjfhaaa
open Go Go.Pv Go.Jo
open Classical
theorem GS.frame {s s':St}{lo:Nat}{v:LV}{R:List GR}(h:GS s lo v R) (a:s.n<=s'.n) (b:∀ id,aP v id->s'.get id=s.get id) (hm:∀ r∈R,s'.get r.2.2=s.get r.2.2):GS s' lo v R:=
 ⟨h.sg.mono a b,h.lJ,h.mp.keep a λj c=>hm _ (by rw[gD,gE c];simp),h.low⟩
theorem bE {α:Type} [Inhabited α] {l:List α}{i:Nat}(h:i<l.length):l.getD i default∈l:=by
 rw[gD,gE h];simp
theorem GS.ms {s:St}{lo:Nat}{v:LV}{R:List GR}(h:GS s lo v R) {r:GR}(b:r∈R):dV s r.2.2 r.1.kept:=by
 obtain⟨i,a,rfl⟩:=List.getElem_of_mem b;have:=h.mp.ms i a;simpa[gD,a] using this
theorem GS.set {s s':St}{lo:Nat}{v:LV}{R:List GR}(h:GS s lo v R) {i:Nat}(hi:i<R.length) {r':GR}(o:aM r'.2.1 r'.1.set) (p:Sg s' v 7 (eG grow (R.set i r')) R.length) (q:s.n<=s'.n) (hm:∀ r∈R,s'.get r.2.2=s.get r.2.2)
 (g:(r'.2.2=(R.getD i default).2.2/\r'.1.kept=(R.getD i default).1.kept)∨(dV s' r'.2.2 r'.1.kept/\(∀ r∈R,r.2.2≠r'.2.2)/\lo<=r'.2.2/\r'.2.2<s'.n)):GS s' lo v (R.set i r'):=by
 have k:(R.set i r').getD i default=r':=by simp[gD,hi]
 have d:∀ j,j≠i->(R.set i r').getD j default=R.getD j default:=λj a=>by simp[gD,List.getElem?_set_ne (Ne.symm a)]
 refine⟨by rw[List.length_set];exact p,λr b=>?_,?_,h.low.1,λr b=>?_⟩
 ·rcases List.mem_or_eq_of_mem_set b with b | b
  ·exact h.lJ r b
  ·rw[b];exact o
 ·rw[List.length_set];refine⟨λj a=>?_,λj a=>?_,λj f a l c=>?_⟩
  ·by_cases e:j=i
   ·subst e;simp only[k];rcases g with⟨h1,h2⟩ | h1
    ·rw[h1,h2];exact (h.mp.ms j a).keep (hm _ (bE a))
    ·exact h1.1
   ·simp only[d j e];exact (h.mp.ms j a).keep (hm _ (bE a))
  ·by_cases e:j=i
   ·subst e;simp only[k];rcases g with⟨h1,h2⟩ | h1
    ·rw[h1];have:=h.mp.lt j a;omega
    ·exact h1.2.2.2
   ·simp only[d j e];have:=h.mp.lt j a;omega
  ·by_cases e:j=i<;>by_cases m:f=i
   ·omega
   ·subst e;simp only[k,d f m]at c;rcases g with⟨h1,h2⟩ | h1
    ·rw[h1]at c;exact h.mp.inj j f a l c
    ·exact absurd c.symm (h1.2.1 _ (bE l))
   ·subst m;simp only[k,d j e]at c;rcases g with⟨h1,h2⟩ | h1
    ·rw[h1]at c;exact h.mp.inj j f a l c
    ·exact absurd c (h1.2.1 _ (bE a))
   ·simp only[d j e,d f m]at c;exact h.mp.inj j f a l c
 ·rcases List.mem_or_eq_of_mem_set b with b | b
  ·exact h.low.2 r b
  ·rw[b];rcases g with⟨h1,h2⟩ | h1
   ·rw[h1];exact h.low.2 _ (bE hi)
   ·exact h1.2.2.1
def jo (l:List Gn):Prop:=∀ i,i<l.length->(l.getD i default).par<(i:Int)
theorem Jw {l:List Gn}(h:∀ i,i<l.length->(l.getD i default).par<(i:Int)) {j:Nat}(c:l.length<=j):gC l (j:Int)=[]:=by
 unfold gC;have:(l.filter λn=>decide (n.par=(j:Int)))=[]:=by
  refine List.filter_eq_nil_iff.2 λn b=>?_;obtain⟨k,a,rfl⟩:=List.getElem_of_mem b;have h1:=h k a;rw[gD,gE a]at h1;simp only[Option.getD_some]at h1;simp only[decide_eq_true_iff];omega
 rw[this];rfl
theorem Bc (l:List Gn):(cg gI l).map (·.par)=l.map (·.par):=by
 have h:∀ (l d:List Gn),(l.foldl (λd n=>d++[gI d n]) d).map (·.par)=d.map (·.par)++l.map (·.par):=by
  intro l;induction l with
  | nil=>intro d;simp
  | cons x l ih=>intro d;rw[List.foldl_cons,ih];simp[gI]
 simpa[cg] using h l []
theorem TW {l:List Gn}(h:jo l) (k:Nat):∀ i,i<(cg gI (l.take k)).length->((cg gI (l.take k)).getD i default).par<(i:Int):=by
 intro i a;have h1:=congrArg (λL=>L[i]?) (Bc (l.take k));simp only[List.getElem?_map]at h1;have b:i<(l.take k).length:=by rw[cv]at a;exact a
 rw[gE a,gE b]at h1;simp only[Option.map_some,Option.some.injEq]at h1;rw[gD,gE a];simp only[Option.getD_some];rw[h1,List.getElem_take];rw[List.length_take]at b;have:=h i om;rw[gD,gE om]at this;exact this
structure DV (s0 s:St) (lo:Nat) (v:LV) (l:List Gn) (T:Nat) (F:Nat->Nat) (i:Nat) (R:List GR):Prop where
  gs:GS s lo v R
  tk:s.get T=some (.cells .mut (bw l.length (dG F i)))
  mp:wF s i F λj=>gC (cg gI (l.take i)) (j:Int)
  ap:∀ j,j<i->∀ r∈R,F j≠r.2.2
  eq:R.map (·.1)=cg gI (l.take i)++l.drop i
  low:lo<=T/\T<s.n/\(∀ j,j<i->lo<=F j)/\¬ aP v T
  fr:∀ id,id<lo->s.get id=s0.get id
structure DX (s0 s:St) (lo:Nat) (v:LV) (len T:Nat) (F:Nat->Nat) (i:Nat) (R:List GR) (TK:Nat->List Int) (b:Nat):Prop where
  gs:GS s lo v R
  tk:s.get T=some (.cells .mut (bw len (dG F (i+1))))
  mp:wF s (i+1) F TK
  ap:∀ j,j<i+1->∀ r∈R,F j≠r.2.2
  low:lo<=T/\T<b/\(∀ j,j<i+1->lo<=F j/\F j<b)/\(∀ r∈R,r.2.2<b)/\(∀ id,aP v id->id<b)/\¬ aP v T/\lo<=b/\b<=s.n
  fr:∀ id,id<lo->s.get id=s0.get id
theorem DX.frame {c s s':St}{lo:Nat}{v:LV}{len T:Nat}{F:Nat->Nat}{i:Nat}{R:List GR}{d:Nat->List Int}{b:Nat}(h:DX c s lo v len T F i R d b) (e:s.n<=s'.n) (a:∀ id,id<b->s'.get id=s.get id):DX c s' lo v len T F i R d b:=
 have hl:=h.low
 ⟨h.gs.frame e (λid f=>a id (hl.2.2.2.2.1 id f)) λr g=>a _ (hl.2.2.2.1 r g),(a T hl.2.1).trans h.tk,h.mp.keep e λj k=>a _ (hl.2.2.1 j k).2,h.ap,⟨hl.1,hl.2.1,hl.2.2.1,hl.2.2.2.1,hl.2.2.2.2.1,hl.2.2.2.2.2.1,hl.2.2.2.2.2.2.1,by omega⟩,λid l=>(a id om).trans (h.fr id l)⟩
theorem eX {s:St}{M:Nat}{K:List Int}{m:Md}{cs:List LV}{j:Nat}(h:dV s M K) (a:s.get j=some (.cells m cs)):M≠j:=by
 rintro rfl;obtain⟨E,h1,_⟩:=h;rw[h1]at a;cases a
theorem DX.up {d s s':St}{lo:Nat}{v:LV}{len T:Nat}{F:Nat->Nat}{i q:Nat}{R:List GR}{f T7:Nat->List Int}{b:Nat}(h:DX d s lo v len T F i R f b) (c:q<i+1) (g:s'.n=s.n) (hm:dV s' (F q) (T7 q)) (hs:∀ id,id≠F q->s'.get id=s.get id) (k:∀ j,j<i+1->j≠q->T7 j=f j):DX d s' lo v len T F i R T7 b:=
 have hl:=h.low;have a:=h.mp.ms q c
 ⟨h.gs.frame om (λid l=>hs id λe=>uI h.gs.sg a (e ▸ l)) λr m=>hs _ (h.ap q c r m).symm,(hs T (eX a h.tk).symm).trans h.tk,h.mp.up c g hm hs k,h.ap,⟨hl.1,hl.2.1,hl.2.2.1,hl.2.2.2.1,hl.2.2.2.2.1,hl.2.2.2.2.2.1,hl.2.2.2.2.2.2.1,by omega⟩,λid o=>(hs id (by have:=(hl.2.2.1 q c).1;omega)).trans (h.fr id o)⟩
theorem DX.ext {a s:St}{lo:Nat}{v:LV}{len T:Nat}{F:Nat->Nat}{i:Nat}{R:List GR}{c T7:Nat->List Int}{b:Nat}(h:DX a s lo v len T F i R c b) (d:∀ j,j<i+1->∀ x,x∈c j↔x∈T7 j):DX a s lo v len T F i R T7 b:=⟨h.gs,h.tk,h.mp.ext d,h.ap,h.low,h.fr⟩
theorem DV.begin {f s s':St}{lo:Nat}{v:LV}{l:List Gn}{T:Nat}{F:Nat->Nat}{i:Nat}{R:List GR}(h:DV f s lo v l T F i R) (g:jo l) (hi:i<l.length) (p:s'.n=s.n+1) (k:s'.get T=some (.cells .mut (bw l.length (dG (λj=>if j=i then s.n else F j) (i+1))))) (hm:s'.get s.n=some (.map [])) (hs:∀ id,id<s.n->id≠T->s'.get id=s.get id):DX f s' lo v l.length T (λj=>if j=i then s.n else F j) i R (λj=>gC (cg gI (l.take i)) (j:Int)) (s.n+1):=by
 have hl:=h.low;have d:=h.gs.Bi;have q:(cg gI (l.take i)).length=i:=by rw[cv,List.length_take];omega
 have m:gC (cg gI (l.take i)) (i:Int)=[]:=Jw (TW g i) om;refine⟨h.gs.frame om (λid c=>hs id (h.gs.sg.lt c) λe=>hl.2.2.2 (e ▸ c)) λr a=>hs _ (d r a) (eX (h.gs.ms a) h.tk),k,h.mp.snoc (M:=s.n) om (λj b=>hs _ (h.mp.lt j b) (eX (h.mp.ms j b) h.tk)) (λj b=>by have:=h.mp.lt j b;omega) om ?_ (λj=>rfl) (λj b=>rfl),λj b r a=>?_,⟨hl.1,by omega,λj b=>?_,λr a=>by have:=d r a;omega,λid c=>by have:=h.gs.sg.lt c;omega,hl.2.2.2,by omega,by omega⟩,λid o=>(hs id om om).trans (h.fr id o)⟩
 ·show dV s' s.n (gC (cg gI (l.take i)) ((i:Nat):Int));rw[m];exact dV.nil hm
 ·by_cases e:j=i
  ·rw[if_pos e];have:=d r a;omega
  ·rw[if_neg e];exact h.ap j om r a
 ·by_cases e:j=i
  ·rw[if_pos e];omega
  ·rw[if_neg e];have:=hl.2.2.1 j (by omega);have:=h.mp.lt j (by omega);omega
theorem DX.store {l s s':St}{lo:Nat}{J n:Nat}{len T:Nat}{F:Nat->Nat}{i i0:Nat}{R:List GR}{m:Nat->List Int}{b b':Nat}{r':GR}{rest:List LV}(h:DX l s lo (.aD J 0 n 7) len T F i R m b) (hi:i0<R.length) (o:R.length=n) (p:aM r'.2.1 r'.1.set) (q:s'.get J=some (.cells .mut (eG grow (R.set i0 r')++rest))) (y:s'.n=s.n) (hs:∀ id,id≠J->s'.get id=s.get id)
 (g:(r'.2.2=(R.getD i0 default).2.2/\r'.1.kept=(R.getD i0 default).1.kept)∨(dV s r'.2.2 r'.1.kept/\b<=r'.2.2/\r'.2.2<b')) (z:b<=b') (A:b'<=s.n):DX l s' lo (.aD J 0 n 7) len T F i (R.set i0 r') m b':=by
 have hl:=h.low;have c:aP (.aD J 0 n 7) J:=aC.2 rfl;have t:=hl.2.2.2.2.1 J c;have u:=h.gs.low.1 J c;obtain⟨v,d⟩:∃ cs,s.get J=some (.cells .mut cs):=by
  obtain⟨j,r,h1,h2,h3⟩:=h.gs.sg.pos om;cases h1;exact⟨_,h3⟩
 have k:∀ r∈R,s'.get r.2.2=s.get r.2.2:=λr a=>hs _ (eX (h.gs.ms a) d);refine⟨h.gs.set hi p ⟨by rw[nY bS,List.length_set], .inr ⟨J,rest,by rw[o],by omega,q⟩⟩ om k ?_,(hs T λe=>hl.2.2.2.2.2.1 (e ▸ c)).trans h.tk,h.mp.keep om λj f=>hs _ (eX (h.mp.ms j f) d),λj f r a=>?_,⟨hl.1,by omega,λj f=>?_,λr a=>?_,λid w=>?_,hl.2.2.2.2.2.1,by omega,by omega⟩,λid x=>(hs id om).trans (h.fr id x)⟩
 ·rcases g with h1 | ⟨h1,h2,h3⟩
  ·exact .inl h1
  ·exact .inr ⟨h1.keep (hs _ (eX h1 d)),λr a=>by have:=hl.2.2.2.1 r a;omega,by omega,by omega⟩
 ·rcases List.mem_or_eq_of_mem_set a with a | rfl
  ·exact h.ap j f r a
  ·rcases g with⟨h1,_⟩ | ⟨h1,h2,h3⟩
   ·rw[h1];exact h.ap j f _ (bE hi)
   ·have:=(hl.2.2.1 j f).2;omega
 ·have:=hl.2.2.1 j f;omega
 ·rcases List.mem_or_eq_of_mem_set a with a | rfl
  ·have:=hl.2.2.2.1 r a;omega
  ·rcases g with⟨h1,_⟩ | ⟨h1,h2,h3⟩
   ·rw[h1];have:=hl.2.2.2.1 _ (bE hi);omega
   ·exact h3
 ·have:=hl.2.2.2.2.1 id w;omega
def pL (c:Int->Bool) (E:List (Int × LV)) (seen:List Nat):List Int:=(seen.map λa=>(E.getD a default).1).filter c
theorem FR (c:Int->Bool) (E:List (Int × LV)) (seen:List Nat) (a:Nat):pL c E (seen++[a])=pL c E seen++if c (E.getD a default).1 then [(E.getD a default).1] else []:=by
 unfold pL;rw[List.map_append,List.filter_append];congr 1;rw[List.map_singleton];generalize (E.getD a default).1=x;by_cases h:c x<;>simp[h]
theorem De {E:List (Int × LV)}(g:(E.map (·.1)).Nodup) {seen:List Nat}(hs:∀ a∈seen,a<E.length) {a:Nat}(c:a<E.length) (i:a ∉ seen):(E.getD a default).1 ∉ seen.map λa=>(E.getD a default).1:=by
 intro h;obtain⟨b,e,j⟩:=List.mem_map.1 h;have d:=hs b e;have h1:(E.map (·.1))[b]'(by rw[List.length_map];exact d)=(E.map (·.1))[a]'(by rw[List.length_map];exact c):=by
  simpa[gD,d,c] using j
 have f:=List.pairwise_iff_getElem.1 g;rcases Nat.lt_trichotomy b a with h | h | h
 ·exact f b a (by rw[List.length_map];exact d) (by rw[List.length_map];exact c) h h1
 ·subst h;exact i e
 ·exact f a b (by rw[List.length_map];exact c) (by rw[List.length_map];exact d) h h1.symm
theorem Ah {c:Int->Bool}{E:List (Int × LV)}{seen:List Nat}{K:List Int}(d:∀ k,k∈E.map (·.1)↔k∈K) (hs:∀ a∈seen,a<E.length) (e:∀ a,a<E.length->a∈seen) (x:Int):x∈pL c E seen↔x∈K.filter c:=by
 unfold pL;rw[List.mem_filter,List.mem_filter,<- d];refine and_congr_left λ_=>⟨λh=>?_,λh=>?_⟩
 ·obtain⟨a,b,rfl⟩:=List.mem_map.1 h;have:=hs a b;rw[gD,gE this];exact List.mem_map.2 ⟨_,List.getElem_mem this,rfl⟩
 ·obtain⟨p,f,rfl⟩:=List.mem_map.1 h;obtain⟨a,b,rfl⟩:=List.getElem_of_mem f;exact List.mem_map.2 ⟨a,e a b,by rw[gD,gE b];rfl⟩
theorem xw {α:Type}{l:List α}{i:Nat}{x:α}(h:l[i]? = some x):l.set i x=l:=by
 apply List.ext_getElem?;intro j;by_cases e:j=i
 ·subst e;rw[List.getElem?_set_self (List.getElem?_eq_some_iff.1 h).1,h]
 ·rw[List.getElem?_set_ne (Ne.symm e)]
theorem drop_set {α:Type}(D l:List α) (i:Nat) (x y:α) (a:D.length=i) (h:l[i]? = some y):(D++l.drop i).set i x=D++[x]++l.drop (i+1):=by
 obtain⟨b,c⟩:=List.getElem?_eq_some_iff.1 h;rw[List.set_append_right _ _ om,a,Nat.sub_self,List.drop_eq_getElem_cons b,List.set_cons_zero,List.append_assoc];rfl
theorem DX.done {c s:St}{lo:Nat}{v:LV}{l:List Gn}{T:Nat}{F:Nat->Nat}{i:Nat}{R:List GR}{b:Nat}{g:Gn}{r:GR}(a:l[i]? = some g) (e:R.map (·.1)=cg gI (l.take i)++l.drop i) (h:DX c s lo v l.length T F i (R.set i r) (λj=>gC (cg gI (l.take i)) (j:Int)++if g.par=(j:Int) then fe (cg gI (l.take i)) g else []) b) (f:r.1=gI (cg gI (l.take i)) g):DV c s lo v l T F (i+1) (R.set i r):=by
 obtain⟨n,o⟩:=List.getElem?_eq_some_iff.1 a;have k:(cg gI (l.take i)).length=i:=by rw[cv,List.length_take];omega
 have d:cg gI (l.take (i+1))=cg gI (l.take i)++[gI (cg gI (l.take i)) g]:=by
  rw[List.take_add_one,a,Option.toList_some,sI]
 have hl:=h.low;refine⟨h.gs,h.tk,h.mp.ext λj _ x=>?_,h.ap,?_,⟨hl.1,by omega,λj m=>(hl.2.2.1 j m).1,hl.2.2.2.2.2.1⟩,h.fr⟩
 ·rw[d,vm,Db];exact Iff.rfl
 ·rw[List.map_set,e,f,drop_set _ _ i _ g k a,d]
theorem Lo {v:LV}{t:List GR}{lo:Nat}{u:St}(ez:GS u lo v t) (hp:jo (t.map (·.1))) (hlen:t.length<=6000) (pW:lo<=u.n) (gK:∀ n∈t.map (·.1),n.kept.Nodup) :
 aJ Try.prog GL (.fn (.func 63) [] []) [v] u (λr s'=>∃ R,GS s' lo v R/\R.map (·.1)=aK (t.map (·.1))/\u.n<=s'.n/\∀ id,id<lo->s'.get id=u.get id):=by
 have lS:=ez.sg.len;refine bL (first:=[]) (caps:=[]) Try.func63 (by decide +kernel) c63 (Nat.le_of_ble_eq_true rfl) (aQ.mono (Q:=λo e s'=>(o = .normal∨o = .jmp .ret)/\∃ R,GS s' lo v R/\R.map (·.1)=aK (t.map (·.1))/\u.n<=s'.n/\∀ id,id<lo->s'.get id=u.get id) ?_ λo e s' hh=>by
  obtain⟨h1,h2⟩:=hh;exact⟨h1, .cy [],by simp[l63,br],h2⟩)
 refine Cd.out (sJ λe H=>?_);unfold l63;dsimp only[jA,jD,jG,qM,qL,qF,qS,qI,qA,qB,qC,qm,ql];repeat' (first | refine gN @lS ?_ | (refine gB @lS ?_;rintro (_|_) b<;>try simp only[aG,reduceCtorEq]at b<;>try first | (exfalso;omega) | exact b.elim) | fail)
 refine xk (n:=t.length) (k:=u.n) (z:=.bN) wN rfl ef ef om (by decide) ?_;repeat' (first | refine gN @lS ?_ | (refine gB @lS ?_;rintro (_|_) b<;>try simp only[aG,reduceCtorEq]at b<;>try first | (exfalso;omega) | exact b.elim) | fail)
 have hl:(t.map (·.1)).length=t.length:=List.length_map ..;generalize U9:t.map (·.1)=l at *;refine aS (λm e s=>∃ (i:Nat) (F:Nat->Nat) (R:List GR),m=l.length - i/\i<=l.length/\u.n<=s.n/\DV u s lo v l u.n F i R/\e.at 0=v/\e.at 2 = .aD u.n 0 t.length 1/\e.at 10=v/\e.at 11 = .int .i64 (t.length:Int)/\e.at 12 = .int .i64 (i:Int)) _
  ⟨0,λ_=>0,t,rfl,by omega,by simp,?_,ef,ef,ef,ef,by simp only[lk,Nat.reduceEqDiff,if_false,if_true];rfl⟩ ?_
 ·have hz:bw l.length (dG (λ_=>0) 0)=bw t.length λ_=>.bN:=by rw[hl];exact kC λj _=>by simp[dG]
  exact⟨ez.mono (by simp) λid aO=>by rw[St.az,if_neg om],by rw[hz];simp,wF.zero _ _ _,λj hj=>absurd hj om,by rw[U9];simp[cg],⟨pW,by simp,λj hj=>absurd hj om,λhu=>by have:=ez.sg.lt hu;omega⟩,λid aO=>by rw[St.az,if_neg om]⟩
 clear H;clear e;rintro m e s ⟨i,F,R,rfl,hi,gH,hD,H,O,P,T,vV⟩;by_cases cM:i<l.length
 ·have tP : (i : Int) < (t.length : Int) := by omega
  have X:IntKind.i64.wrap ((i:Int)+1)=((i+1:Nat):Int):=by rw[wrap_i64 _ om om];rfl
  have G5:R.length=t.length:=by
   have:=congrArg List.length hD.eq;rw[List.length_map,List.length_append,cv,List.length_take,List.length_drop]at this;omega
  obtain⟨J,rest,Fg,hJ,sF⟩:=hD.gs.sg.pos om;rw[G5]at Fg;subst Fg;have N:=Bx.mk hD;clear hD;repeat' (first | refine gN @cG ?_ | (refine gB @cG ?_;intro bb b;cases bb<;>(try simp only[aG]at b)<;>(try first | omega | exact b.elim)) | fail)
  refine ju wN rfl ?_;repeat' (first | refine gN @cG ?_ | (refine gB @cG ?_;rintro (_|_) b<;>try simp only[aG,reduceCtorEq]at b<;>try first | (exfalso;omega) | exact b.elim) | fail)
  refine kX (q:=i) (f:=dG F i) (f':=dG (λj=>if j=i then s.n else F j) (i+1)) (n:=l.length) ef ef rfl (by rw[St.az,if_neg (by have:=N.out.low;omega)];exact N.out.tk) cM xQ (λp jY G0 oQ=>?_);rw[St.dZ]at jY;have w:=N.out.begin (s':=p) hp cM jY G0 (by rw[oQ _ (by have:=N.out.low;omega),St.az,if_pos rfl]) λid h1 h2=>by rw[oQ id h2,St.az,if_neg om]
  have OV:p.get J=some (.cells .mut (eG grow R++rest)):=by
   rw[oQ J (λe=>N.out.low.2.2.2 (e ▸ aC.2 rfl)),St.az,if_neg om];exact sF
  have zh:=N.out.eq;have OQ:i<R.length:=by omega
  have Y:R[i]? = some (R.getD i default):=by rw[gD,gE OQ];rfl
  have Za:(cg gI (l.take i)).length=i:=by rw[cv,List.length_take];omega
  have mN:(R.getD i default).1=l.getD i default:=by
   have h1:=congrArg (λL=>L[i]?) zh;simp only[List.getElem?_map]at h1;rw[Y,List.getElem?_append_right om,Za,Nat.sub_self,List.getElem?_drop,Nat.add_zero,gE cM]at h1;have KU:l.getD i default=l[i]:=by rw[gD,gE cM];rfl
   rw[KU];exact Option.some.inj h1
  have hgm:l.getD i default∈l:=bE cM;have Ti:=gK _ hgm;have zf:=hp i cM;rw[<- mN]at Ti zf;have A1:R.getD i default∈R:=bE OQ;have hD1:∀ q,q<i->(R.getD q default).1=(cg gI (l.take i)).getD q default:=λq hq=>by
   have h1:=congrArg (λL=>L[q]?) zh;simp only[List.getElem?_map]at h1;rw[gE om,List.getElem?_append_left om]at h1;rw[gD,gD,<- h1,gE om];rfl
  generalize hrE:R.getD i default=r at *;obtain⟨g,sv,M⟩:=r;simp only at mN Ti zf;generalize hDE:cg gI (l.take i)=D at *;generalize (λj=>if j=i then s.n else F j)=Z at *;have Em:u.n<=p.n:=by omega
  have hb:s.n+1=p.n:=by omega
  rw[hb]at w;clear N G0 oQ jY hJ sF gH hb;clear F;have o8:=eL bS Y (k:=1) (v:=.int .i64 g.par) rfl OV;have Fp:=eL bS Y (k:=3) (v:=.aI M) rfl OV;have d:=Bx.mk w;clear w;repeat' (first | refine gN @o8 ?_ | (refine gB @o8 ?_;rintro (_|_) b<;>try simp only[aG,reduceCtorEq]at b<;>try first | (exfalso;omega) | exact b.elim) | fail)
  refine kj (λe' s'=>(∃ r' b',DX u s' lo (.aD J 0 t.length 7) l.length u.n Z i (R.set i r') (λj=>gC D (j:Int)++if g.par=(j:Int) then fe D g else []) b'/\r'.1 = { g with kept:=fe D g } /\ r'.2.1=sv/\u.n<=s'.n)/\e'.at 0 = .aD J 0 t.length 7/\e'.at 2 = .aD u.n 0 t.length 1/\e'.at 10 = .aD J 0 t.length 7/\e'.at 11 = .int .i64 (t.length:Int)/\e'.at 12 = .int .i64 (i:Int)/\e'.at 4 = .aH J (i*7)) ?_ ?_
  ·repeat' (first | refine gN @o8 ?_ | (refine gB @o8 ?_;intro bb b;cases bb<;>(try simp only[aG]at b)<;>(try first | omega | exact b.elim)) | fail)
   ·have hdk:fe D g=g.kept:=by unfold fe;rw[if_neg om]
    have w:=d.out.ext (T7:=λj=>gC D (j:Int)++if g.par=(j:Int) then fe D g else []) λj _ x=>by
     have:¬ g.par=(j:Int):=by omega
     simp only[if_neg this,List.append_nil]
    rw[<- xw Y]at w;exact⟨⟨_,_,w,by rw[hdk],rfl,Em⟩,ef,ef,ef,ef,ef,ef⟩
   ·obtain⟨q,hq⟩:∃ q:Nat,g.par=(q:Int):=⟨g.par.toNat,by omega⟩;have YE:q<i:=by omega
    have hqR:q<R.length:=by omega
    have YF:(q:Int)<(t.length:Int):=by omega
    have hrq:R[q]? = some (R.getD q default):=by rw[gD,gE hqR];rfl
    have hrqm:R.getD q default∈R:=bE hqR;have hpq:=hD1 q YE;have bV:∃ kp,(R.getD q default).1.kept=kp/\fe D g=g.kept.filter (λx=>decide (x∈kp) && !decide (x∈gC D (q:Int))):=⟨_,rfl,by
     unfold fe;rw[if_pos om,hq,Int.toNat_natCast,hpq]⟩
    obtain⟨kp,I5,hdk⟩:=bV;generalize R.getD q default=rp at *;refine ju wN rfl ?_;have Jb:=d.out.frame (s':=p.new (.map [])) (by simp) λid aO=>by rw[St.az,if_neg om]
    have A:(p.new (.map [])).get J=some (.cells .mut (eG grow R++rest)):=by
     rw[St.az,if_neg (by have:=d.out.low.2.2.2.2.1 J (aC.2 rfl);omega)];exact OV
    have U6:(p.new (.map [])).get p.n=some (.map []):=by rw[St.az,if_pos rfl]
    have nG:(p.new (.map [])).n=p.n+1:=rfl;have Xb:=eL bS Y (k:=3) (v:=.aI M) rfl A;clear o8 Fp;have d:=Bx.mk Jb;clear Jb;generalize p.new (.map [])=B at *;repeat' (first | refine gN @Xb ?_ | (refine gB @Xb ?_;rintro (_|_) b<;>try simp only[aG,reduceCtorEq]at b<;>try first | (exfalso;omega) | exact b.elim) | fail)
    obtain⟨E,Y9,hE2,hE3,hE4⟩:=d.out.gs.ms A1;refine DB (n:=p.n+1) (M:=M) nG ef Y9 ?_;repeat' (first | refine gN trivial ?_ | (refine gB trivial ?_;rintro (_|_) b<;>try simp only[aG,reduceCtorEq]at b<;>try first | (exfalso;omega) | exact b.elim) | fail)
    have hMb:M<p.n:=d.out.low.2.2.2.1 _ A1;have hJb:J<p.n:=d.out.low.2.2.2.2.1 J (aC.2 rfl);generalize hcE:(λx=>decide (x∈kp) && !decide (x∈gC D (q:Int)))=c at *;refine aS (λm e s=>∃ seen:List Nat,m=E.length - seen.length/\seen.Nodup/\(∀ a∈seen,a<E.length)/\s.n=p.n+2/\DX u s lo (.aD J 0 t.length 7) l.length u.n Z i R (λj=>gC D (j:Int)++if g.par=(j:Int) then pL c E seen else []) p.n/\dV s p.n (pL c E seen)/\s.get (p.n+1)=some (.iter (some M) (mG cV E).length seen (mG cV E).length)/\s.get M=some (.map (mG cV E))/\s.get J=some (.cells .mut (eG grow R++rest))/\e.at 0 = .aD J 0 t.length 7/\e.at 2 = .aD u.n 0 t.length 1/\e.at 4 = .aH J (i*7)/\e.at 5 = .aI p.n/\e.at 10 = .aD J 0 t.length 7/\e.at 11 = .int .i64 (t.length:Int)/\e.at 12 = .int .i64 (i:Int)/\e.at 33 = .aH (p.n+1) 0) _
     ⟨[],rfl,List.nodup_nil,λa I=>absurd I (by simp),by simp[nG],?_,dV.nil (by rw[St.az,if_neg om];exact U6),by rw[St.az,if_pos nG.symm],by rw[St.az,if_neg om];exact Y9,by rw[St.az,if_neg om];exact A,ef,ef,ef,ef,ef,ef,ef,ef⟩ ?_
    ·refine (d.out.frame (by simp) λid aO=>by rw[St.az,if_neg om]).ext λj hj x=>?_;simp[pL]
    clear H O P T vV d U6 A Xb Y9 OV nG;clear e B;rintro m e B ⟨seen,rfl,hsn1,Ou,nG,w,K,Y8,XM,A,H,O,e4,e5,P,T,vV,Ma⟩;have d:=Bx.mk (And.intro w K);clear w K;refine lX ?_;refine ig hm ?_;refine Ii (M:=M) (it:=p.n+1) (seen:=seen) ef Y8 XM (by
     cases seen with
     | nil=>exact .inl rfl
     | cons a l=>right;have:=Ou a (by simp);rw[eS];omega) (λa I Fl=>?_) (λbY=>?_)
    ·rw[eS]at I;have hEa:E[a]? = some (E.getD a default):=by rw[gD,gE I];rfl
     have gL:=IB cV hEa;have Ei:=De hE2 Ou I Fl;have U:=FR c E seen a;have Fv:c (E.getD a default).1=(decide ((E.getD a default).1∈kp) && !decide ((E.getD a default).1∈gC D (q:Int))):=by rw[<- hcE]
     have G6:(B.put (p.n+1) (.iter (some M) (mG cV E).length (seen++[a]) (mG cV E).length)).get (p.n+1)=some (.iter (some M) (mG cV E).length (seen++[a]) (mG cV E).length):=by rw[St.ah,if_pos rfl]
     have XD:=d.out.1.frame (s':=B.put (p.n+1) (.iter (some M) (mG cV E).length (seen++[a]) (mG cV E).length)) (by simp) λid aO=>by rw[St.ah,if_neg om]
     have Pk:=d.out.2.keep (s':=B.put (p.n+1) (.iter (some M) (mG cV E).length (seen++[a]) (mG cV E).length)) (by rw[St.ah,if_neg om]);have XL:(B.put (p.n+1) (.iter (some M) (mG cV E).length (seen++[a]) (mG cV E).length)).get M=some (.map (mG cV E)):=by rw[St.ah,if_neg om];exact XM
     have rf:(B.put (p.n+1) (.iter (some M) (mG cV E).length (seen++[a]) (mG cV E).length)).get J=some (.cells .mut (eG grow R++rest)):=by rw[St.ah,if_neg om];exact A
     have qv:(B.put (p.n+1) (.iter (some M) (mG cV E).length (seen++[a]) (mG cV E).length)).n=p.n+2:=nG;generalize B.put (p.n+1) (.iter (some M) (mG cV E).length (seen++[a]) (mG cV E).length)=s4 at *;clear d Y8 XM A nG;clear B;have fZ:seen.length<E.length:=by
      have:=BA (n:=E.length) (seen:=seen++[a]) (List.nodup_append.2 ⟨hsn1,by simp,λx hx y hy e=>by rw[List.mem_singleton]at hy;subst hy;exact Fl (e ▸ hx)⟩) λx hx=>by
       rcases List.mem_append.1 hx with hx | hx
       ·exact Ou x hx
       ·rw[List.mem_singleton.1 hx];exact I
      rw[List.length_append,List.length_singleton]at this;omega
     have zF:(seen++[a]).Nodup:=List.nodup_append.2 ⟨hsn1,by simp,λx hx y hy e=>by rw[List.mem_singleton]at hy;subst hy;exact Fl (e ▸ hx)⟩;have KF:∀ x∈seen++[a],x<E.length:=λx hx=>by
      rcases List.mem_append.1 hx with hx | hx
      ·exact Ou x hx
      ·rw[List.mem_singleton.1 hx];exact I
     have SY:=Bx.mk (And.intro zF (And.intro KF (And.intro fZ (And.intro G6 XL))));have OL:=eL bS hrq (k:=3) (v:=.aI rp.2.2) rfl rf;have Eu:=eL bS Y (k:=1) (v:=.int .i64 g.par) rfl rf;rw[hq]at Eu;have hmp:=XD.gs.ms hrqm;rw[I5]at hmp;have YI:=XD.mp.ms q om;simp only[hq,if_true]at YI;have SO:=XD.tk;have x8:(bw l.length (dG Z (i+1)))[q]? = some (.aI (Z q)):=by rw[cN om];simp[dG,show q<i+1 by omega]
     rw[hl]at SO x8;have d:=Bx.mk (And.intro XD Pk);clear XD Pk zF KF;repeat' (first | refine gN trivial ?_ | (refine gB trivial ?_;rintro (_|_) b<;>try simp only[aG,reduceCtorEq]at b<;>try first | (exfalso;omega) | exact b.elim) | fail)
     refine DC (M:=M) (i:=a) (last:=(mG cV E).length) ef G6 XL rfl (by rw[eS];exact I) ?_;rw[gL];clear G6 XL gL;generalize (E.getD a default).1=x at *;unfold cV;repeat' (first | refine gN (And.intro @cG (And.intro @Eu (And.intro @OL @X))) ?_ | (refine gB (And.intro @cG (And.intro @Eu (And.intro @OL @X))) ?_;rintro (_|_) b<;>try simp only[aG,reduceCtorEq]at b<;>try first | (exfalso;omega) | exact b.elim) | fail)
     refine kR hmp wN ef ef (λb1 eE=>?_);cases b1
     ·have pZ:c x=false:=by rw[Fv,eE];rfl
      rw[pZ,if_neg (by simp),List.append_nil]at U;have XA:=d.out;rw[<- U]at XA;have d:=Bx.mk XA;clear XA Fv U;repeat' (first | refine gN trivial ?_ | (refine gB trivial ?_;rintro (_|_) b<;>try simp only[aG,reduceCtorEq]at b<;>try first | (exfalso;omega) | exact b.elim) | fail)
      clear OL Eu;obtain⟨oN,B9,Ov,A0,SZ⟩:=SY.out;refine⟨E.length - (seen++[a]).length,by rw[List.length_append,List.length_singleton];omega,seen++[a],rfl,oN,B9,qv,d.out.1,d.out.2,A0,SZ,rf,?_⟩;simp only[lk,dJ,Nat.reduceEqDiff,if_false,H,O,e4,e5,P,T,vV,Ma,and_self]
     ·repeat' (first | refine gN (And.intro @cG (And.intro @Eu (And.intro @SO @x8))) ?_ | (refine gB (And.intro @cG (And.intro @Eu (And.intro @SO @x8))) ?_;rintro (_|_) b<;>try simp only[aG,reduceCtorEq]at b<;>try first | (exfalso;omega) | exact b.elim) | fail)
      refine kR YI (wG ef) ef ef (λb2 kT=>?_);cases b2
      ·have jY:=of_decide_eq_false kT;have pZ:c x=true:=by
        rw[Fv,eE,decide_eq_false λh=>jY (List.mem_append_left _ h)];rfl
       rw[pZ,if_pos rfl]at U;clear eE kT Fv;repeat' (first | refine gN trivial ?_ | (refine gB trivial ?_;rintro (_|_) b<;>try simp only[aG,reduceCtorEq]at b<;>try first | (exfalso;omega) | exact b.elim) | fail)
       have Pk:=d.out.2;refine n7 Pk ef ef ef (λs5 Fo hm5 gT=>?_);rw[<- U]at hm5;obtain⟨oN,B9,Ov,A0,SZ⟩:=SY.out;have wW:=d.out.1.frame (s':=s5) om λid aO=>gT id om;have Tj:s5.get J=some (.cells .mut (eG grow R++rest)):=by rw[gT J om];exact rf
       have hIt5:=(gT (p.n+1) om).trans A0;have hEs5:=(gT M om).trans SZ;clear A0 SZ OL Eu YI SO;have Td:=eL bS Y (k:=1) (v:=.int .i64 g.par) rfl Tj;rw[hq]at Td;have SM:=wW.tk;rw[hl]at SM;have S9:=wW.mp.ms q om;simp only[hq,if_true]at S9;have hqF:=wW.low.2.2.1 q om;have d:=Bx.mk (And.intro wW hm5);clear wW hm5 gT rf Pk SY hmp;repeat' (first | refine gN (And.intro @cG (And.intro @Td (And.intro @SM @x8))) ?_ | (refine gB (And.intro @cG (And.intro @Td (And.intro @SM @x8))) ?_;rintro (_|_) b<;>try simp only[aG,reduceCtorEq]at b<;>try first | (exfalso;omega) | exact b.elim) | fail)
       refine n7 S9 ef ef ef (λs6 hn6 hm6 L4=>?_);have Fx:=d.out.1.up (q:=q) (T7:=λj=>gC D (j:Int)++if g.par=(j:Int) then pL c E (seen++[a]) else []) om hn6 (by
        simp only[hq,if_true];rw[U,<- List.append_assoc];exact hm6) L4 λj _ hj=>by
        have:¬ g.par=(j:Int):=by omega
        simp only[if_neg this]
       have hgJ6:s6.get J=some (.cells .mut (eG grow R++rest)):=by rw[L4 J (eX S9 Tj).symm];exact Tj
       have hMF:Z q≠M:=Fx.ap q om _ A1;have V:=Bx.mk (And.intro Fx (And.intro (d.out.2.keep (L4 _ om)) (And.intro ((L4 (p.n+1) om).trans hIt5) ((L4 M (Ne.symm hMF)).trans hEs5))));clear Fx hm6 L4 d hIt5 hEs5 Tj S9 SM Td;repeat' (first | refine gN trivial ?_ | (refine gB trivial ?_;rintro (_|_) b<;>try simp only[aG,reduceCtorEq]at b<;>try first | (exfalso;omega) | exact b.elim) | fail)
       refine⟨E.length - (seen++[a]).length,by rw[List.length_append,List.length_singleton];omega,seen++[a],rfl,oN,B9,by omega,V.out.1,V.out.2.1,V.out.2.2.1,V.out.2.2.2,hgJ6,?_⟩;simp only[lk,dJ,Nat.reduceEqDiff,if_false,H,O,e4,e5,P,T,vV,Ma,and_self]
      ·have jY:=of_decide_eq_true kT;have hxT:x∈gC D (q:Int):=(List.mem_append.1 jY).resolve_right λh=>Ei (List.mem_filter.1 h).1;have pZ:c x=false:=by rw[Fv,decide_eq_true hxT];simp
       rw[pZ,if_neg (by simp),List.append_nil]at U;have XA:=d.out;rw[<- U]at XA;have d:=Bx.mk XA;clear XA Fv U eE kT;repeat' (first | refine gN trivial ?_ | (refine gB trivial ?_;rintro (_|_) b<;>try simp only[aG,reduceCtorEq]at b<;>try first | (exfalso;omega) | exact b.elim) | fail)
       clear OL Eu;obtain⟨oN,B9,Ov,A0,SZ⟩:=SY.out;refine⟨E.length - (seen++[a]).length,by rw[List.length_append,List.length_singleton];omega,seen++[a],rfl,oN,B9,qv,d.out.1,d.out.2,A0,SZ,rf,?_⟩;simp only[lk,dJ,Nat.reduceEqDiff,if_false,H,O,e4,e5,P,T,vV,Ma,and_self]
    ·repeat' (first | refine gN trivial ?_ | (refine gB trivial ?_;rintro (_|_) b<;>try simp only[aG,reduceCtorEq]at b<;>try first | (exfalso;omega) | exact b.elim) | fail)
     refine gb bS (i:=i) (k:=3) (c:=(g,sv,M)) (c':=({ g with kept:=fe D g },sv,p.n)) (rest:=rest) ef rfl ef rfl A Y (by decide) rfl (λs4 qv ri gQ=>?_);have Pf:∀ a,a<E.length->a∈seen:=λa I=>bY a (by rw[eS];exact I) (by rw[eS];exact I);have tO:∀ x,x∈pL c E seen↔x∈fe D g:=λx=>by rw[hdk];exact Ah hE4 Ou Pf x
     have K:=d.out.2.mem tO;have Jb:=d.out.1.ext (T7:=λj=>gC D (j:Int)++if g.par=(j:Int) then fe D g else []) λj _ x=>by
      by_cases e:g.par=(j:Int)
      ·simp only[if_pos e,List.mem_append,tO]
      ·simp only[if_neg e]
     have wW:=Jb.store (b':=p.n+1) (i0:=i) (r':=({ g with kept:=fe D g },sv,p.n)) OQ G5 (Jb.gs.lJ (g,sv,M) A1) ri qv gQ (.inr ⟨K,Nat.le_refl _,Nat.lt_succ_self _⟩) om om;clear K Jb d ri gQ tO bY Y8 XM A;have hX5B:=Bx.mk wW;clear wW;repeat' (first | refine gN trivial ?_ | (refine gB trivial ?_;rintro (_|_) b<;>try simp only[aG,reduceCtorEq]at b<;>try first | (exfalso;omega) | exact b.elim) | fail)
     exact⟨⟨_,_,hX5B.out,rfl,rfl,by omega⟩,ef,ef,ef,ef,ef,ef⟩
  ·clear H O P T vV d o8 Fp OV ez lS;clear e;rintro e B ⟨⟨r',b',w,hr1',hsv',zF⟩,H,O,P,T,vV,e4⟩;obtain⟨g',G,C⟩:=r';simp only at hr1' hsv';subst hr1' hsv';obtain⟨j3,MY,hv3,-,A⟩:=w.gs.sg.pos (by rw[List.length_set];omega);have hJ3:J=j3:=aC.1 (hv3 ▸ (aC.2 rfl:aP (.aD J 0 t.length 7) J));subst hJ3;have KG:(R.set i ({ g with kept:=fe D g },G,C))[i]? = some ({ g with kept:=fe D g },G,C):=by rw[List.getElem?_set_self OQ]
   have Fp:=eL bS KG (k:=3) (v:=.aI C) rfl A;have rM:=w.gs.ms (r:=({ g with kept:=fe D g },G,C)) (List.mem_of_getElem? KG);have W7:(fe D g).Nodup:=by
    unfold fe;split
    ·exact Ti.sublist List.filter_sublist
    ·exact Ti
   have d:=Bx.mk w;clear w;repeat' (first | refine gN @Fp ?_ | (refine gB @Fp ?_;rintro (_|_) b<;>try simp only[aG,reduceCtorEq]at b<;>try first | (exfalso;omega) | exact b.elim) | fail)
   refine tc rM W7 wN ef ?_;simp only;have iD:∀ s',s'.n=B.n->s'.get J=some (.cells .mut (eG grow ((R.set i ({ g with kept:=fe D g },G,C)).set i (gI D g,G,C))++MY))->(∀ id,id≠J->s'.get id=B.get id)->DV u s' lo (.aD J 0 t.length 7) l u.n Z (i+1) (R.set i (gI D g,G,C)):=λs' h1 h2 h3=>by
    have Fx:=d.out.store (b':=b') (i0:=i) (r':=(gI D g,G,C)) (by rw[List.length_set];exact OQ) (by rw[List.length_set];exact G5) (d.out.gs.lJ ({ g with kept:=fe D g },G,C) (List.mem_of_getElem? KG)) h2 h1 h3 (.inl (by rw[gD,KG];exact⟨rfl,rfl⟩)) (Nat.le_refl _) d.out.low.2.2.2.2.2.2.2;rw[List.set_set]at Fx;subst hDE;exact Fx.done (by rw[mN,gD,gE cM];rfl) zh rfl
   have V:=Bx.mk iD;clear iD d rM Fp;repeat' (first | refine gN trivial ?_ | (refine gB trivial ?_;intro bb b;cases bb<;>(try simp only[aG]at b)<;>(try first | omega | exact b.elim)) | fail)
   ·have hd:decide ((fe D g).length=0)=false:=decide_eq_false om;refine gb bS (i:=i) (k:=6) (c:=({ g with kept:=fe D g },G,C)) (c':=(gI D g,G,C)) (rest:=MY) (v:=.bool false) ef rfl ef rfl A KG (by decide) (by unfold gI;rw[hd];rfl) (λs4 qv ri gQ=>?_);have hDV:=Bx.mk (V.out s4 qv ri gQ);clear V ri gQ A;repeat' (first | refine gN @X ?_ | (refine gB @X ?_;rintro (_|_) b<;>try simp only[aG,reduceCtorEq]at b<;>try first | (exfalso;omega) | exact b.elim) | fail)
    refine⟨l.length - (i+1),by omega,i+1,Z,_,rfl,by omega,by omega,hDV.out,?_⟩;simp only[lk,Nat.reduceEqDiff,if_false,if_true,X,H,O,P,T,and_self]
   ·have hd:decide ((fe D g).length=0)=true:=decide_eq_true om;refine gb bS (i:=i) (k:=6) (c:=({ g with kept:=fe D g },G,C)) (c':=(gI D g,G,C)) (rest:=MY) (v:=.bool true) ef rfl ef rfl A KG (by decide) (by unfold gI;rw[hd];rfl) (λs4 qv ri gQ=>?_);have hDV:=Bx.mk (V.out s4 qv ri gQ);clear V ri gQ A;repeat' (first | refine gN @X ?_ | (refine gB @X ?_;rintro (_|_) b<;>try simp only[aG,reduceCtorEq]at b<;>try first | (exfalso;omega) | exact b.elim) | fail)
    refine⟨l.length - (i+1),by omega,i+1,Z,_,rfl,by omega,by omega,hDV.out,?_⟩;simp only[lk,Nat.reduceEqDiff,if_false,if_true,X,H,O,P,T,and_self]
 ·have dc:i=l.length:=by omega
  subst dc;have zh:=hD.eq;rw[List.take_length,List.drop_length,List.append_nil]at zh;have N:=Bx.mk hD;clear hD;repeat' (first | refine gN trivial ?_ | (refine gB trivial ?_;intro bb b;cases bb<;>(try simp only[aG]at b)<;>(try first | omega | exact b.elim)) | fail)
  exact⟨.inl trivial,R,N.out.gs,zh,gH,N.out.fr⟩
theorem Mw (l:List Gn) (j:Int) (h:∀ n∈l,n.kept.length<=3000):under l j<=l.length*3000:=by
 induction l with
 | nil=>simp[under]
 | cons n l ih=>
   have h1:=ih λm hm=>h m (by simp[hm]);have h2:=h n (by simp);have e:under (n::l) j=under [n] j+under l j:=by rw[<- sR];rfl
   rw[e,z7,List.length_cons,Nat.add_mul];split<;>omega
theorem Lj (L l:List Gn):(cg (oD L) l).map (·.par)=l.map (·.par):=by
 have h:∀ (l d:List Gn),(l.foldl (λd n=>d++[oD L d n]) d).map (·.par)=d.map (·.par)++l.map (·.par):=by
  intro l;induction l with
  | nil=>intro d;simp
  | cons x l ih=>intro d;rw[List.foldl_cons,ih];simp[oD]
 simpa[cg] using h l []
theorem GS.flag {s s':St}{lo J n i:Nat}{R:List GR}{g':Gn}{r:GR}{rest:List LV}(h:GS s lo (.aD J 0 n 7) R) (b:R.length=n) (hi:R[i]? = some r) (c:g'.kept=r.1.kept) (hs:g'.set=r.1.set) (d:s'.get J=some (.cells .mut (eG grow (R.set i (g',r.2))++rest))) (k:s'.n=s.n) (ho:∀ id,id≠J->s'.get id=s.get id):GS s' lo (.aD J 0 n 7) (R.set i (g',r.2)):=by
 have e:=(List.getElem?_eq_some_iff.1 hi).1;have a:R.getD i default=r:=by rw[gD,hi];rfl
 obtain⟨j,l,h1,h2,h3⟩:=h.sg.pos om;have f:J=j:=aC.1 (h1 ▸ (aC.2 rfl:aP (.aD J 0 n 7) J));subst f;refine h.set e (by rw[hs];exact h.lJ _ (List.mem_of_getElem? hi)) ⟨by rw[nY bS,List.length_set], .inr ⟨J,rest,by rw[b],by omega,d⟩⟩ om (λr g=>ho _ (eX (h.ms g) h3)) (.inl ⟨by rw[a],by rw[a];exact c⟩)
theorem EY {v:LV}{b:List GR}{lo:Nat}{d:St}(ez:GS d lo v b) (hp:jo (b.map (·.1))) (hlen:b.length<=6000) (pW:lo<=d.n) (gK:∀ n∈b.map (·.1),n.kept.Nodup/\n.kept.length<=3000) :
 aJ Try.prog GL (.fn (.func 64) [] []) [v] d (λr s'=>∃ R,GS s' lo v R/\R.map (·.1)=aL (b.map (·.1))/\d.n<=s'.n/\∀ id,id<lo->s'.get id=d.get id):=by
 have lS:=ez.sg.len;refine bL (first:=[]) (caps:=[]) Try.func64 (by decide +kernel) c64 (Nat.le_of_ble_eq_true rfl) (aQ.mono (Q:=λo e s'=>(o = .normal∨o = .jmp .ret)/\∃ R,GS s' lo v R/\R.map (·.1)=aL (b.map (·.1))/\d.n<=s'.n/\∀ id,id<lo->s'.get id=d.get id) ?_ λo e s' hh=>by
  obtain⟨h1,h2⟩:=hh;exact⟨h1, .cy [],by simp[l64,br],h2⟩)
 refine Cd.out (sJ λe C=>?_);unfold l64;dsimp only[jA,jB,jC,jD,jE,jG,jH,qM,qL,qN,qF,qS,qI,qA,qB,qC,qP,qm,ql];repeat' (first | refine gN @lS ?_ | (refine gB @lS ?_;rintro (_|_) a<;>try simp only[aG,reduceCtorEq]at a<;>try first | (exfalso;omega) | exact a.elim) | fail)
 refine xk (n:=b.length) (k:=d.n) (z:=.int .i64 0) wN rfl ef ef om (by decide) ?_;repeat' (first | refine gN @lS ?_ | (refine gB @lS ?_;rintro (_|_) a<;>try simp only[aG,reduceCtorEq]at a<;>try first | (exfalso;omega) | exact a.elim) | fail)
 have hl:(b.map (·.1)).length=b.length:=List.length_map ..;generalize U9:b.map (·.1)=l at *;refine aS (λm e s=>∃ k:Nat,m=b.length - k/\k<=b.length/\d.n<s.n/\GS s lo v b/\s.get d.n=some (.cells .mut (bw b.length λj=>.int .i64 (under (l.take k) (j:Int):Int)))/\(∀ id,id<lo->s.get id=d.get id)/\e.at 0=v/\e.at 2 = .aD d.n 0 b.length 1/\e.at 10=v/\e.at 11 = .int .i64 (b.length:Int)/\e.at 12 = .int .i64 (k:Int)) _
  ⟨0,rfl,by omega,by simp,ez.mono (by simp) λid U=>by rw[St.az,if_neg om],by simp[under],λid U=>by rw[St.az,if_neg om],ef,ef,ef,ef,by simp only[lk,Nat.reduceEqDiff,if_false,if_true];rfl⟩ ?_
 clear C;clear e;rintro m e s ⟨k,rfl,hk,gH,y,F,ho,C,G,fX,nW,vV⟩;by_cases fB:k<b.length
 ·have uB:(k:Int)<(b.length:Int):=by omega
  have fJ:IntKind.i64.wrap ((k:Int)+1)=((k+1:Nat):Int):=by rw[wrap_i64 _ om om];rfl
  obtain⟨J,rest,Fg,hJ,w⟩:=y.sg.pos om;subst Fg;have E:b[k]? = some (b.getD k default):=by rw[gD,gE fB];rfl
  have Ft:l.getD k default=(b.getD k default).1:=by
   rw[<- U9,gD,List.getElem?_map,E];rfl
  have fO:=take_one l default (k:=k) om;have zf:=hp k om;have V:=gK _ (bE (l:=l) (i:=k) om);rw[Ft]at fO zf V;have A1:b.getD k default∈b:=bE fB;have QE:=y.lJ _ A1;have rM:=y.ms A1;generalize b.getD k default=r at *;obtain⟨g,H,M⟩:=r;simp only at Ft zf V QE rM fO;have tK:=QE.sl.cell;have dS:cU (some 7) (.aH J (k*7)) s=some (.agg [.int .i64 g.name, .int .i64 g.par,H, .aI M, .bool g.old, .bool g.bX, .bool g.gone]):=nB bS E w;have B7:=λj:Int=>Mw (l.take k) j λn hn=>(gK n (List.mem_of_mem_take hn)).2;have hunl:(l.take k).length<=6000:=by rw[List.length_take];omega
  have X:∀ j:Int,under (l.take (k+1)) j=under (l.take k) j+if g.par=j then g.kept.length else 0:=λj=>by rw[fO,sR,z7]
  have Pp:=y.mono (s':=(s.new (.cells .mut [.int .i64 0, .int .i64 0, .aj, .bN, .bool false, .bool false, .bool false])).put s.n (.cells .mut [.int .i64 g.name, .int .i64 g.par,H, .aI M, .bool g.old, .bool g.bX, .bool g.gone])) (by simp) λid U=>by rw[St.ah,if_neg om,St.az,if_neg om]
  have Y:((s.new (.cells .mut [.int .i64 0, .int .i64 0, .aj, .bN, .bool false, .bool false, .bool false])).put s.n (.cells .mut [.int .i64 g.name, .int .i64 g.par,H, .aI M, .bool g.old, .bool g.bX, .bool g.gone])).get d.n=some (.cells .mut (bw b.length λj=>.int .i64 (under (l.take k) (j:Int):Int))):=by rw[St.ah,if_neg om,St.az,if_neg om];exact F
  have eE:((s.new (.cells .mut [.int .i64 0, .int .i64 0, .aj, .bN, .bool false, .bool false, .bool false])).put s.n (.cells .mut [.int .i64 g.name, .int .i64 g.par,H, .aI M, .bool g.old, .bool g.bX, .bool g.gone])).get s.n=some (.cells .mut [.int .i64 g.name, .int .i64 g.par,H, .aI M, .bool g.old, .bool g.bX, .bool g.gone]):=by rw[St.ah,if_pos rfl]
  have eY:∀ id,id<lo->((s.new (.cells .mut [.int .i64 0, .int .i64 0, .aj, .bN, .bool false, .bool false, .bool false])).put s.n (.cells .mut [.int .i64 g.name, .int .i64 g.par,H, .aI M, .bool g.old, .bool g.bX, .bool g.gone])).get id=d.get id:=λid U=>by rw[St.ah,if_neg om,St.az,if_neg om];exact ho id U
  have jY:((s.new (.cells .mut [.int .i64 0, .int .i64 0, .aj, .bN, .bool false, .bool false, .bool false])).put s.n (.cells .mut [.int .i64 g.name, .int .i64 g.par,H, .aI M, .bool g.old, .bool g.bX, .bool g.gone])).n=s.n+1:=rfl;have p:=Bx.mk (And.intro Pp eY);have Jc:=Bx.mk (And.intro B7 X);clear y F ho B7 X fO Ft rM w Pp eY;by_cases Fj:0<=g.par
  ·skip;repeat' (first | refine gN (And.intro @cG @dS) ?_ | (refine gB (And.intro @cG @dS) ?_;intro u a;cases u<;>(try simp only[aG]at a)<;>(try first | omega | exact a.elim)) | fail)
   generalize (s.new (.cells .mut [.int .i64 0, .int .i64 0, .aj, .bN, .bool false, .bool false, .bool false])).put s.n (.cells .mut [.int .i64 g.name, .int .i64 g.par,H, .aI M, .bool g.old, .bool g.bX, .bool g.gone])=s1 at *;obtain⟨q,hq⟩:∃ q:Nat,g.par=(q:Int):=⟨g.par.toNat,by omega⟩;have hqR:q<b.length:=by omega
   have YF:(q:Int)<(b.length:Int):=by omega
   have I:(bw b.length λj=>.int .i64 (under (l.take k) (j:Int):Int))[q]? = some (.int .i64 (under (l.take k) (q:Int):Int)):=cN hqR;rw[hq]at eE;rw[hq];repeat' (first | refine gN (And.intro @cG (And.intro @eE (And.intro @Y @I))) ?_ | (refine gB (And.intro @cG (And.intro @eE (And.intro @Y @I))) ?_;rintro (_|_) a<;>try simp only[aG,reduceCtorEq]at a<;>try first | (exfalso;omega) | exact a.elim) | fail)
   have Z:=p.out.1.ms A1;refine tc Z V.1 wN ef ?_;simp only;have wU:=Jc.out.1 (q:Int);have hgn2:=V.2;have hwu:IntKind.i64.wrap ((under (l.take k) (q:Int):Int)+(g.kept.length:Int))=((under (l.take k) (q:Int)+g.kept.length:Nat):Int):=by rw[wrap_i64 _ om om];rfl
   repeat' (first | refine gN (And.intro @cG (And.intro @eE (And.intro @Y (And.intro @I @hwu)))) ?_ | (refine gB (And.intro @cG (And.intro @eE (And.intro @Y (And.intro @I @hwu)))) ?_;rintro (_|_) a<;>try simp only[aG,reduceCtorEq]at a<;>try first | (exfalso;omega) | exact a.elim) | fail)
   refine kX (q:=q) (f:=λj=>.int .i64 (under (l.take k) (j:Int):Int)) (f':=λj=>.int .i64 (under (l.take (k+1)) (j:Int):Int)) ef ef rfl Y hqR (λj=>?_) (λs3 nG wz iw=>?_)
   ·rw[Jc.out.2];by_cases e:j=q
    ·subst e;simp only[hq,if_true];rw[hwu]
    ·have:¬ g.par=(j:Int):=by omega
     simp only[if_neg this,if_neg e,Nat.add_zero]
   have K:d.n≠J:=λe=>by
    have:=p.out.1.sg;obtain⟨j,r,h1,h2,h3⟩:=this.pos om;have hJ:J=j:=aC.1 (h1 ▸ (aC.2 rfl:aP (.aD J 0 b.length 7) J));subst hJ;have h4:=ez.sg.lt (aC.2 rfl:aP (.aD J 0 b.length 7) J);omega
   have La:=p.out.1.frame (s':=s3) om (λid hu=>iw id λe=>K (e ▸ (aC.1 hu))) λr hr=>iw _ (eX (p.out.1.ms hr) Y);have A:∀ id,id<lo->s3.get id=d.get id:=λid U=>(iw id om).trans (p.out.2 id U);have t:=Bx.mk (And.intro La (And.intro wz A));clear La wz iw A Y eE Z p;repeat' (first | refine gN @fJ ?_ | (refine gB @fJ ?_;rintro (_|_) a<;>try simp only[aG,reduceCtorEq]at a<;>try first | (exfalso;omega) | exact a.elim) | fail)
   refine⟨b.length - (k+1),by omega,k+1,rfl,by omega,by omega,t.out.1,t.out.2.1,t.out.2.2,?_⟩;simp only[lk,Nat.reduceEqDiff,if_false,if_true,fJ,C,G,fX,nW,and_self]
  ·repeat' (first | refine gN (And.intro @cG (And.intro @dS @fJ)) ?_ | (refine gB (And.intro @cG (And.intro @dS @fJ)) ?_;intro u a;cases u<;>(try simp only[aG]at a)<;>(try first | omega | exact a.elim)) | fail)
   ·generalize (s.new (.cells .mut [.int .i64 0, .int .i64 0, .aj, .bN, .bool false, .bool false, .bool false])).put s.n (.cells .mut [.int .i64 g.name, .int .i64 g.par,H, .aI M, .bool g.old, .bool g.bX, .bool g.gone])=s1 at *;refine⟨b.length - (k+1),by omega,k+1,rfl,by omega,by omega,p.out.1,?_,p.out.2,?_⟩
    ·rw[Y];congr 3;funext j;have:¬ g.par=(j:Int):=by omega
     rw[Jc.out.2,if_neg this,Nat.add_zero]
    ·simp only[lk,Nat.reduceEqDiff,if_false,if_true,fJ,C,G,fX,nW,and_self]
   all_goals (exfalso;omega)
 ·have lU:k=b.length:=by omega
  subst lU;rw[<- hl,List.take_length]at F;have p:=Bx.mk (And.intro y (And.intro F ho));clear y F ho;repeat' (first | refine gN @lS ?_ | (refine gB @lS ?_;intro u a;cases u<;>(try simp only[aG]at a)<;>(try first | omega | exact a.elim)) | fail)
  refine aS (λm e s=>∃ (i:Nat) (R:List GR),m=b.length - i/\i<=b.length/\d.n<s.n/\GS s lo v R/\R.map (·.1)=cg (oD l) (l.take i)++l.drop i/\s.get d.n=some (.cells .mut (bw b.length λj=>.int .i64 (under l (j:Int):Int)))/\(∀ id,id<lo->s.get id=d.get id)/\e.at 0=v/\e.at 2 = .aD d.n 0 b.length 1/\e.at 32=v/\e.at 33 = .int .i64 (b.length:Int)/\e.at 34 = .int .i64 (i:Int)) _
   ⟨0,b,rfl,by omega,gH,p.out.1,by rw[U9];simp[cg],by rw[p.out.2.1,hl],p.out.2.2,ef,ef,ef,ef,by simp only[lk,Nat.reduceEqDiff,if_false,if_true];rfl⟩ ?_
  clear C G fX nW vV p gH fB a;clear e s;rintro m e s ⟨i,R,rfl,hi,gH,y,zh,F,ho,C,G,Mb,Ma,e34⟩;by_cases cM:i<b.length
  ·have tP:(i:Int)<(b.length:Int):=by omega
   have N:IntKind.i64.wrap ((i:Int)+1)=((i+1:Nat):Int):=by rw[wrap_i64 _ om om];rfl
   have Za:(cg (oD l) (l.take i)).length=i:=by rw[cv,List.length_take];omega
   have G5:R.length=b.length:=by
    have:=congrArg List.length zh;rw[List.length_map,List.length_append,Za,List.length_drop]at this;omega
   have OQ:i<R.length:=by omega
   have OO:i<l.length:=by omega
   obtain⟨J,rest,Fg,hJ,w⟩:=y.sg.pos om;rw[G5]at Fg;subst Fg;have E:R[i]? = some (R.getD i default):=by rw[gD,gE OQ];rfl
   have KU:l[i]? = some (l.getD i default):=by rw[gD,gE OO];rfl
   have mN:(R.getD i default).1=l.getD i default:=by
    have h1:=congrArg (λL=>L[i]?) zh;simp only[List.getElem?_map]at h1;rw[E,List.getElem?_append_right om,Za,Nat.sub_self,List.getElem?_drop,Nat.add_zero,KU]at h1;exact Option.some.inj h1
   have V:=gK _ (bE OO);have zf:=hp i OO;have A1:R.getD i default∈R:=bE OQ;have hD1:∀ q,q<i->(R.getD q default).1=(cg (oD l) (l.take i)).getD q default:=λq hq=>by
    have h1:=congrArg (λL=>L[q]?) zh;simp only[List.getElem?_map]at h1;rw[gE om,List.getElem?_append_left om]at h1;rw[gD,gD,<- h1,gE om];rfl
   rw[<- mN]at V zf KU;have hvi:(bw b.length λj=>.int .i64 (under l (j:Int):Int))[i]? = some (.int .i64 (under l (i:Int):Int)):=cN cM;have K:d.n≠J:=λe=>by
    have h4:=ez.sg.lt (aC.2 rfl:aP (.aD J 0 b.length 7) J);omega
   have B:=eL bS E (k:=1) (v:=.int .i64 (R.getD i default).1.par) rfl w;clear mN;generalize R.getD i default=r at *;obtain⟨g,h⟩:=r;simp only at V zf KU B;generalize hDE:cg (oD l) (l.take i)=D at *;have p:=Bx.mk (And.intro y (And.intro F ho));clear y F ho;repeat' (first | refine gN (And.intro @cG @B) ?_ | (refine gB (And.intro @cG @B) ?_;intro u a;cases u<;>(try simp only[aG]at a)<;>(try first | omega | exact a.elim)) | fail)
   refine kj (λe' s'=>(s'.n=s.n/\s'.get J=some (.cells .mut (eG grow (R.set i ({ g with gone:=iQ D g },h))++rest))/\∀ id,id≠J->s'.get id=s.get id)/\e'.at 0 = .aD J 0 b.length 7/\e'.at 2 = .aD d.n 0 b.length 1/\e'.at 32 = .aD J 0 b.length 7/\e'.at 33 = .int .i64 (b.length:Int)/\e'.at 34 = .int .i64 (i:Int)/\e'.at 5 = .int .i64 (i:Int)/\e'.at 6 = .aH J (i*7)) ?_ ?_
   ·by_cases Fj:0<=g.par
    ·obtain⟨q,hq⟩:∃ q:Nat,g.par=(q:Int):=⟨g.par.toNat,by omega⟩;have YF:(q:Int)<(b.length:Int):=by omega
     have hrq:R[q]? = some (R.getD q default):=by rw[gD,gE om];rfl
     have K1:iQ D g=(g.gone || ((R.getD q default).1.bX || (R.getD q default).1.gone)):=by
      unfold iQ;rw[hD1 q om,hq,Int.toNat_natCast];simp
     have KS:=eL bS hrq (k:=5) (v:=.bool (R.getD q default).1.bX) rfl w;have KR:=eL bS hrq (k:=6) (v:=.bool (R.getD q default).1.gone) rfl w;rw[hq]at B;clear hD1;generalize (R.getD q default).1.bX=bg at *;generalize (R.getD q default).1.gone=bn at *;cases bg with
     | true=>
       repeat' (first | refine gN (And.intro @cG (And.intro @B (And.intro @KS @KR))) ?_ | (refine gB (And.intro @cG (And.intro @B (And.intro @KS @KR))) ?_;intro u a;cases u<;>(try simp only[aG]at a)<;>(try first | omega | exact a.elim)) | fail)
       refine gb bS (i:=i) (k:=6) (c:=(g,h)) (c':=({ g with gone:=iQ D g },h)) (rest:=rest) (v:=.bool true) ef rfl ef rfl w E (by decide) (by rw[K1];simp[grow]) (λs4 qv ri A=>?_);have t:=Bx.mk (And.intro qv (And.intro ri A));clear qv ri A w;repeat' (first | refine gN trivial ?_ | (refine gB trivial ?_;rintro (_|_) a<;>try simp only[aG,reduceCtorEq]at a<;>try first | (exfalso;omega) | exact a.elim) | fail)
       exact⟨t.out,ef,ef,ef,ef,ef,ef,ef⟩
     | false=>
       cases bn with
       | true=>
         repeat' (first | refine gN (And.intro @cG (And.intro @B (And.intro @KS @KR))) ?_ | (refine gB (And.intro @cG (And.intro @B (And.intro @KS @KR))) ?_;intro u a;cases u<;>(try simp only[aG]at a)<;>(try first | omega | exact a.elim)) | fail)
         refine gb bS (i:=i) (k:=6) (c:=(g,h)) (c':=({ g with gone:=iQ D g },h)) (rest:=rest) (v:=.bool true) ef rfl ef rfl w E (by decide) (by rw[K1];simp[grow]) (λs4 qv ri A=>?_);have t:=Bx.mk (And.intro qv (And.intro ri A));clear qv ri A w;repeat' (first | refine gN trivial ?_ | (refine gB trivial ?_;rintro (_|_) a<;>try simp only[aG,reduceCtorEq]at a<;>try first | (exfalso;omega) | exact a.elim) | fail)
         exact⟨t.out,ef,ef,ef,ef,ef,ef,ef⟩
       | false=>
         have fK:R.set i ({ g with gone:=iQ D g },h)=R:=by
          rw[K1,Bool.or_false,Bool.or_false];exact xw E
         have t:Bx (s.get J=some (.cells .mut (eG grow (R.set i ({ g with gone:=iQ D g },h))++rest))):=⟨by rw[fK];exact w⟩;clear w;repeat' (first | refine gN (And.intro @cG (And.intro @B (And.intro @KS @KR))) ?_ | (refine gB (And.intro @cG (And.intro @B (And.intro @KS @KR))) ?_;intro u a;cases u<;>(try simp only[aG]at a)<;>(try first | omega | exact a.elim)) | fail)
         exact⟨⟨trivial,t.out,λ_ _=>trivial⟩,ef,ef,ef,ef,ef,ef,ef⟩
    ·have fK:R.set i ({ g with gone:=iQ D g },h)=R:=by
      have:iQ D g=g.gone:=by
       unfold iQ;rw[decide_eq_false Fj];simp
      rw[this];exact xw E
     have t:Bx (s.get J=some (.cells .mut (eG grow (R.set i ({ g with gone:=iQ D g },h))++rest))):=⟨by rw[fK];exact w⟩;clear w hD1;repeat' (first | refine gN (And.intro @cG @B) ?_ | (refine gB (And.intro @cG @B) ?_;intro u a;cases u<;>(try simp only[aG]at a)<;>(try first | omega | exact a.elim)) | fail)
     exact⟨⟨trivial,t.out,λ_ _=>trivial⟩,ef,ef,ef,ef,ef,ef,ef⟩
   ·clear C G Mb Ma e34 B;clear e;rintro e s1 ⟨⟨qv,O,A⟩,C,G,Mb,Ma,e34,e5,e6⟩;have XJ:=p.out.1.flag G5 E (g':={ g with gone:=iQ D g }) rfl rfl O qv A;have Y2:=(A _ K).trans p.out.2.1;have GH:(R.set i ({ g with gone:=iQ D g },h))[i]? = some ({ g with gone:=iQ D g },h):=by rw[List.getElem?_set_self OQ]
    have Fp:=eL bS GH (k:=3) (v:=.aI h.2) rfl O;have P:=eL bS GH (k:=6) (v:=.bool (iQ D g)) rfl O;have rM:=XJ.ms (r:=({ g with gone:=iQ D g },h)) (List.mem_of_getElem? GH);have iD:∀ s',s'.n=s1.n->s'.get J=some (.cells .mut (eG grow ((R.set i ({ g with gone:=iQ D g },h)).set i (oD l D g,h))++rest))->(∀ id,id≠J->s'.get id=s1.get id)->GS s' lo (.aD J 0 b.length 7) (R.set i (oD l D g,h))/\(R.set i (oD l D g,h)).map (·.1)=cg (oD l) (l.take (i+1))++l.drop (i+1)/\s'.get d.n=some (.cells .mut (bw b.length λj=>.int .i64 (under l (j:Int):Int)))/\∀ id,id<lo->s'.get id=d.get id:=λs' h1 h2 h3=>by
     have TB:=XJ.flag (by rw[List.length_set];exact G5) GH (g':=oD l D g) rfl rfl h2 h1 h3;rw[List.set_set]at TB;refine⟨TB,?_,(h3 _ K).trans Y2,λid U=>?_⟩
     ·subst hDE;rw[List.map_set,zh,drop_set _ _ i _ g Za KU,List.take_add_one,KU,Option.toList_some,sI]
     ·have hJl:=TB.low.1 J (aC.2 rfl);rw[h3 id om,A id om];exact p.out.2.2 id U
    have hcN:oD l D g = { g with gone:=iQ D g,bX:=!iQ D g && decide (under l (i:Int)=g.kept.length) } := by unfold oD;rw[Za]
    have t:=Bx.mk (And.intro iD hcN);clear iD hcN p XJ A w;cases Vg:iQ D g with
    | true=>
      rw[Vg]at P;have T:=Bx.mk Vg;clear Vg;repeat' (first | refine gN @P ?_ | (refine gB @P ?_;rintro (_|_) a<;>try simp only[aG,reduceCtorEq]at a<;>try first | (exfalso;omega) | exact a.elim) | fail)
      refine gb bS (i:=i) (k:=5) (c:=({ g with gone:=iQ D g },h)) (c':=(oD l D g,h)) (rest:=rest) (v:=.bool false) ef rfl ef rfl O GH (by decide) (by rw[t.out.2,T.out];simp[grow]) (λs5 Fo yo gT=>?_);have x:=Bx.mk (t.out.1 s5 Fo yo gT);clear yo gT t O Fp P Y2 rM;repeat' (first | refine gN @N ?_ | (refine gB @N ?_;rintro (_|_) a<;>try simp only[aG,reduceCtorEq]at a<;>try first | (exfalso;omega) | exact a.elim) | fail)
      refine⟨b.length - (i+1),by omega,i+1,_,rfl,by omega,by omega,x.out.1,x.out.2.1,x.out.2.2.1,x.out.2.2.2,?_⟩;simp only[lk,dJ,Nat.reduceEqDiff,if_false,if_true,N,C,G,Mb,Ma,and_self]
    | false=>
      rw[Vg]at P;have T:=Bx.mk Vg;clear Vg;repeat' (first | refine gN (And.intro @cG (And.intro @Fp (And.intro @P (And.intro @Y2 @hvi)))) ?_ | (refine gB (And.intro @cG (And.intro @Fp (And.intro @P (And.intro @Y2 @hvi)))) ?_;rintro (_|_) a<;>try simp only[aG,reduceCtorEq]at a<;>try first | (exfalso;omega) | exact a.elim) | fail)
      refine tc rM V.1 (wG ef) ef ?_;simp only;repeat' (first | refine gN trivial ?_ | (refine gB trivial ?_;intro u a;cases u<;>(try simp only[aG]at a)<;>(try first | omega | exact a.elim)) | fail)
      ·refine gb bS (i:=i) (k:=5) (c:=({ g with gone:=iQ D g },h)) (c':=(oD l D g,h)) (rest:=rest) (v:=.bool false) ef rfl ef rfl O GH (by decide) (by rw[t.out.2,T.out,decide_eq_false om];simp[grow]) (λs5 Fo yo gT=>?_);have x:=Bx.mk (t.out.1 s5 Fo yo gT);clear yo gT t O Fp P Y2 rM;repeat' (first | refine gN @N ?_ | (refine gB @N ?_;rintro (_|_) a<;>try simp only[aG,reduceCtorEq]at a<;>try first | (exfalso;omega) | exact a.elim) | fail)
       refine⟨b.length - (i+1),by omega,i+1,_,rfl,by omega,by omega,x.out.1,x.out.2.1,x.out.2.2.1,x.out.2.2.2,?_⟩;simp only[lk,dJ,Nat.reduceEqDiff,if_false,if_true,N,C,G,Mb,Ma,and_self]
      ·refine gb bS (i:=i) (k:=5) (c:=({ g with gone:=iQ D g },h)) (c':=(oD l D g,h)) (rest:=rest) (v:=.bool true) ef rfl ef rfl O GH (by decide) (by rw[t.out.2,T.out,decide_eq_true om];simp[grow]) (λs5 Fo yo gT=>?_);have x:=Bx.mk (t.out.1 s5 Fo yo gT);clear yo gT t O Fp P Y2 rM;repeat' (first | refine gN @N ?_ | (refine gB @N ?_;rintro (_|_) a<;>try simp only[aG,reduceCtorEq]at a<;>try first | (exfalso;omega) | exact a.elim) | fail)
       refine⟨b.length - (i+1),by omega,i+1,_,rfl,by omega,by omega,x.out.1,x.out.2.1,x.out.2.2.1,x.out.2.2.2,?_⟩;simp only[lk,dJ,Nat.reduceEqDiff,if_false,if_true,N,C,G,Mb,Ma,and_self]
  ·have dc:i=b.length:=by omega
   subst dc;rw[<- hl,List.take_length,List.drop_length,List.append_nil]at zh;have p:=Bx.mk (And.intro y ho);clear y ho F;repeat' (first | refine gN trivial ?_ | (refine gB trivial ?_;intro u a;cases u<;>(try simp only[aG]at a)<;>(try first | omega | exact a.elim)) | fail)
   exact⟨.inl trivial,R,p.out.1,zh,by omega,p.out.2⟩
end Go.Proofs.Ytkbiecjdcjfhaaa
end
