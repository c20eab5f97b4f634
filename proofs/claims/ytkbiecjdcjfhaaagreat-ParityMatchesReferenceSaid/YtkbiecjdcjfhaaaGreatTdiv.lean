/- tree.divide. -/
import Derived.Test.YtkbiecjdcjfhaaaGreatTval
set_option linter.unusedSimpArgs false
set_option linter.unusedVariables false
set_option maxRecDepth 100000
set_option maxHeartbeats 16000000
section
namespace Go.Proofs.YtkbiecjdcjfhaaaGreat
open Go Go.Pv Go.pR
open Classical
theorem GS.frame {s s':St}{a:Nat}{v:LV}{R:List GR}(h:GS s a v R) (b:s.n<=s'.n) (c:∀ id,aQ v id->s'.get id=s.get id) (hm:∀ r∈R,s'.get r.2.2=s.get r.2.2):GS s' a v R:=
 ⟨h.sg.mono b c,h.kS,h.mp.keep b λj d=>hm _ (by rw[gD,gE d];simp),h.low⟩
theorem cn {α:Type} [Inhabited α] {l:List α}{i:Nat}(h:i<l.length):l.getD i default∈l:=by
 rw[gD,gE h];simp
theorem GS.ms {s:St}{b:Nat}{v:LV}{R:List GR}(h:GS s b v R) {r:GR}(c:r∈R):ey s r.2.2 r.1.kept:=by
 obtain⟨i,a,rfl⟩:=List.getElem_of_mem c;have:=h.mp.ms i a;simpa[gD,a] using this
theorem GS.set {s s':St}{m:Nat}{v:LV}{R:List GR}(h:GS s m v R) {i:Nat}(p:i<R.length) {r':GR}(q:aP r'.2.1 r'.1.set) (t:Sg s' v 7 (dm grow (R.set i r')) R.length) (u:s.n<=s'.n) (hm:∀ r∈R,s'.get r.2.2=s.get r.2.2)
 (g:(r'.2.2=(R.getD i default).2.2/\r'.1.kept=(R.getD i default).1.kept)∨(ey s' r'.2.2 r'.1.kept/\(∀ r∈R,r.2.2≠r'.2.2)/\m<=r'.2.2/\r'.2.2<s'.n)):GS s' m v (R.set i r'):=by
 have k:(R.set i r').getD i default=r':=by simp[gD,p]
 have d:∀ j,j≠i->(R.set i r').getD j default=R.getD j default:=λj a=>by simp[gD,List.getElem?_set_ne (Ne.symm a)]
 refine⟨by rw[List.length_set];exact t,λr b=>?_,?_,h.low.1,λr b=>?_⟩
 ·rcases List.mem_or_eq_of_mem_set b with b | b
  ·exact h.kS r b
  ·rw[b];exact q
 ·rw[List.length_set];refine⟨λj a=>?_,λj a=>?_,λj f a l c=>?_⟩
  ·by_cases e:j=i
   ·subst e;simp only[k];rcases g with⟨h1,h2⟩ | h1
    ·rw[h1,h2];exact (h.mp.ms j a).keep (hm _ (cn a))
    ·exact h1.1
   ·simp only[d j e];exact (h.mp.ms j a).keep (hm _ (cn a))
  ·by_cases e:j=i
   ·subst e;simp only[k];rcases g with⟨h1,h2⟩ | h1
    ·rw[h1];have:=h.mp.lt j a;omega
    ·exact h1.2.2.2
   ·simp only[d j e];have:=h.mp.lt j a;omega
  ·by_cases e:j=i<;>by_cases o:f=i
   ·omega
   ·subst e;simp only[k,d f o]at c;rcases g with⟨h1,h2⟩ | h1
    ·rw[h1]at c;exact h.mp.inj j f a l c
    ·exact absurd c.symm (h1.2.1 _ (cn l))
   ·subst o;simp only[k,d j e]at c;rcases g with⟨h1,h2⟩ | h1
    ·rw[h1]at c;exact h.mp.inj j f a l c
    ·exact absurd c (h1.2.1 _ (cn a))
   ·simp only[d j e,d f o]at c;exact h.mp.inj j f a l c
 ·rcases List.mem_or_eq_of_mem_set b with b | b
  ·exact h.low.2 r b
  ·rw[b];rcases g with⟨h1,h2⟩ | h1
   ·rw[h1];exact h.low.2 _ (cn p)
   ·exact h1.2.2.1
def jI (l:List Gn):Prop:=∀ i,i<l.length->(l.getD i default).par<(i:Int)
theorem Lc {l:List Gn}(h:∀ i,i<l.length->(l.getD i default).par<(i:Int)) {j:Nat}(c:l.length<=j):fZ l (j:Int)=[]:=by
 unfold fZ;have:(l.filter λn=>decide (n.par=(j:Int)))=[]:=by
  refine List.filter_eq_nil_iff.2 λn b=>?_;obtain⟨k,a,rfl⟩:=List.getElem_of_mem b;have h1:=h k a;rw[gD,gE a]at h1;simp only[Option.getD_some]at h1;simp only[decide_eq_true_iff];omega
 rw[this];rfl
theorem B2 (l:List Gn):(cw gX l).map (·.par)=l.map (·.par):=by
 have h:∀ (l d:List Gn),(l.foldl (λd n=>d++[gX d n]) d).map (·.par)=d.map (·.par)++l.map (·.par):=by
  intro l;induction l with
  | nil=>intro d;simp
  | cons x l ih=>intro d;rw[List.foldl_cons,ih];simp[gX]
 simpa[cw] using h l []
theorem VM {l:List Gn}(h:jI l) (k:Nat):∀ i,i<(cw gX (l.take k)).length->((cw gX (l.take k)).getD i default).par<(i:Int):=by
 intro i a;have h1:=congrArg (λL=>L[i]?) (B2 (l.take k));simp only[List.getElem?_map]at h1;have b:i<(l.take k).length:=by rw[cI]at a;exact a
 rw[gE a,gE b]at h1;simp only[Option.map_some,Option.some.injEq]at h1;rw[gD,gE a];simp only[Option.getD_some];rw[h1,List.getElem_take];rw[List.length_take]at b;have:=h i om;rw[gD,gE om]at this;exact this
structure DV (s0 s:St) (lo:Nat) (v:LV) (l:List Gn) (T:Nat) (F:Nat->Nat) (i:Nat) (R:List GR):Prop where
  gs:GS s lo v R
  tk:s.get T=some (.cells .mut (bz l.length (dU F i)))
  mp:xe s i F λj=>fZ (cw gX (l.take i)) (j:Int)
  ap:∀ j,j<i->∀ r∈R,F j≠r.2.2
  eq:R.map (·.1)=cw gX (l.take i)++l.drop i
  low:lo<=T/\T<s.n/\(∀ j,j<i->lo<=F j)/\¬ aQ v T
  fr:∀ id,id<lo->s.get id=s0.get id
structure DX (s0 s:St) (lo:Nat) (v:LV) (len T:Nat) (F:Nat->Nat) (i:Nat) (R:List GR) (TK:Nat->List Int) (b:Nat):Prop where
  gs:GS s lo v R
  tk:s.get T=some (.cells .mut (bz len (dU F (i+1))))
  mp:xe s (i+1) F TK
  ap:∀ j,j<i+1->∀ r∈R,F j≠r.2.2
  low:lo<=T/\T<b/\(∀ j,j<i+1->lo<=F j/\F j<b)/\(∀ r∈R,r.2.2<b)/\(∀ id,aQ v id->id<b)/\¬ aQ v T/\lo<=b/\b<=s.n
  fr:∀ id,id<lo->s.get id=s0.get id
theorem DX.frame {c s s':St}{d:Nat}{v:LV}{len T:Nat}{F:Nat->Nat}{i:Nat}{R:List GR}{e:Nat->List Int}{b:Nat}(h:DX c s d v len T F i R e b) (f:s.n<=s'.n) (a:∀ id,id<b->s'.get id=s.get id):DX c s' d v len T F i R e b:=
 have hl:=h.low
 ⟨h.gs.frame f (λid g=>a id (hl.2.2.2.2.1 id g)) λr k=>a _ (hl.2.2.2.1 r k),(a T hl.2.1).trans h.tk,h.mp.keep f λj l=>a _ (hl.2.2.1 j l).2,h.ap,⟨hl.1,hl.2.1,hl.2.2.1,hl.2.2.2.1,hl.2.2.2.2.1,hl.2.2.2.2.2.1,hl.2.2.2.2.2.2.1,by omega⟩,λid m=>(a id om).trans (h.fr id m)⟩
theorem fF {s:St}{M:Nat}{K:List Int}{m:Md}{cs:List LV}{j:Nat}(h:ey s M K) (a:s.get j=some (.cells m cs)):M≠j:=by
 rintro rfl;obtain⟨E,h1,_⟩:=h;rw[h1]at a;cases a
theorem DX.up {c s s':St}{d:Nat}{v:LV}{len T:Nat}{F:Nat->Nat}{i q:Nat}{R:List GR}{f VT:Nat->List Int}{b:Nat}(h:DX c s d v len T F i R f b) (a:q<i+1) (k:s'.n=s.n) (hm:ey s' (F q) (VT q)) (hs:∀ id,id≠F q->s'.get id=s.get id) (l:∀ j,j<i+1->j≠q->VT j=f j):DX c s' d v len T F i R VT b:=
 have hl:=h.low;have g:=h.mp.ms q a
 ⟨h.gs.frame om (λid m=>hs id λe=>vt h.gs.sg g (e ▸ m)) λr o=>hs _ (h.ap q a r o).symm,(hs T (fF g h.tk).symm).trans h.tk,h.mp.up a k hm hs l,h.ap,⟨hl.1,hl.2.1,hl.2.2.1,hl.2.2.2.1,hl.2.2.2.2.1,hl.2.2.2.2.2.1,hl.2.2.2.2.2.2.1,by omega⟩,λid p=>(hs id (by have:=(hl.2.2.1 q a).1;omega)).trans (h.fr id p)⟩
theorem DX.ext {a s:St}{c:Nat}{v:LV}{len T:Nat}{F:Nat->Nat}{i:Nat}{R:List GR}{d VT:Nat->List Int}{b:Nat}(h:DX a s c v len T F i R d b) (e:∀ j,j<i+1->∀ x,x∈d j↔x∈VT j):DX a s c v len T F i R VT b:=⟨h.gs,h.tk,h.mp.ext e,h.ap,h.low,h.fr⟩
theorem DV.begin {f s s':St}{g:Nat}{v:LV}{l:List Gn}{T:Nat}{F:Nat->Nat}{i:Nat}{R:List GR}(h:DV f s g v l T F i R) (k:jI l) (q:i<l.length) (t:s'.n=s.n+1) (m:s'.get T=some (.cells .mut (bz l.length (dU (λj=>if j=i then s.n else F j) (i+1))))) (hm:s'.get s.n=some (.map [])) (hs:∀ id,id<s.n->id≠T->s'.get id=s.get id):DX f s' g v l.length T (λj=>if j=i then s.n else F j) i R (λj=>fZ (cw gX (l.take i)) (j:Int)) (s.n+1):=by
 have hl:=h.low;have d:=h.gs.Cb;have u:(cw gX (l.take i)).length=i:=by rw[cI,List.length_take];omega
 have o:fZ (cw gX (l.take i)) (i:Int)=[]:=Lc (VM k i) om;refine⟨h.gs.frame om (λid c=>hs id (h.gs.sg.lt c) λe=>hl.2.2.2 (e ▸ c)) λr a=>hs _ (d r a) (fF (h.gs.ms a) h.tk),m,h.mp.snoc (M:=s.n) om (λj b=>hs _ (h.mp.lt j b) (fF (h.mp.ms j b) h.tk)) (λj b=>by have:=h.mp.lt j b;omega) om ?_ (λj=>rfl) (λj b=>rfl),λj b r a=>?_,⟨hl.1,by omega,λj b=>?_,λr a=>by have:=d r a;omega,λid c=>by have:=h.gs.sg.lt c;omega,hl.2.2.2,by omega,by omega⟩,λid p=>(hs id om om).trans (h.fr id p)⟩
 ·show ey s' s.n (fZ (cw gX (l.take i)) ((i:Nat):Int));rw[o];exact ey.nil hm
 ·by_cases e:j=i
  ·rw[if_pos e];have:=d r a;omega
  ·rw[if_neg e];exact h.ap j om r a
 ·by_cases e:j=i
  ·rw[if_pos e];omega
  ·rw[if_neg e];have:=hl.2.2.1 j (by omega);have:=h.mp.lt j (by omega);omega
theorem DX.store {m s s':St}{o:Nat}{J n:Nat}{len T:Nat}{F:Nat->Nat}{i i0:Nat}{R:List GR}{p:Nat->List Int}{b b':Nat}{r':GR}{rest:List LV}(h:DX m s o (.aE J 0 n 7) len T F i R p b) (g:i0<R.length) (q:R.length=n) (t:aP r'.2.1 r'.1.set) (u:s'.get J=some (.cells .mut (dm grow (R.set i0 r')++rest))) (z:s'.n=s.n) (hs:∀ id,id≠J->s'.get id=s.get id)
 (k:(r'.2.2=(R.getD i0 default).2.2/\r'.1.kept=(R.getD i0 default).1.kept)∨(ey s r'.2.2 r'.1.kept/\b<=r'.2.2/\r'.2.2<b')) (A:b<=b') (B:b'<=s.n):DX m s' o (.aE J 0 n 7) len T F i (R.set i0 r') p b':=by
 have hl:=h.low;have c:aQ (.aE J 0 n 7) J:=aI.2 rfl;have v:=hl.2.2.2.2.1 J c;have w:=h.gs.low.1 J c;obtain⟨C,d⟩:∃ cs,s.get J=some (.cells .mut cs):=by
  obtain⟨j,r,h1,h2,h3⟩:=h.gs.sg.pos om;cases h1;exact⟨_,h3⟩
 have l:∀ r∈R,s'.get r.2.2=s.get r.2.2:=λr a=>hs _ (fF (h.gs.ms a) d);refine⟨h.gs.set g t ⟨by rw[eN bY,List.length_set], .inr ⟨J,rest,by rw[q],by omega,u⟩⟩ om l ?_,(hs T λe=>hl.2.2.2.2.2.1 (e ▸ c)).trans h.tk,h.mp.keep om λj f=>hs _ (fF (h.mp.ms j f) d),λj f r a=>?_,⟨hl.1,by omega,λj f=>?_,λr a=>?_,λid x=>?_,hl.2.2.2.2.2.1,by omega,by omega⟩,λid y=>(hs id om).trans (h.fr id y)⟩
 ·rcases k with h1 | ⟨h1,h2,h3⟩
  ·exact .inl h1
  ·exact .inr ⟨h1.keep (hs _ (fF h1 d)),λr a=>by have:=hl.2.2.2.1 r a;omega,by omega,by omega⟩
 ·rcases List.mem_or_eq_of_mem_set a with a | rfl
  ·exact h.ap j f r a
  ·rcases k with⟨h1,_⟩ | ⟨h1,h2,h3⟩
   ·rw[h1];exact h.ap j f _ (cn g)
   ·have:=(hl.2.2.1 j f).2;omega
 ·have:=hl.2.2.1 j f;omega
 ·rcases List.mem_or_eq_of_mem_set a with a | rfl
  ·have:=hl.2.2.2.1 r a;omega
  ·rcases k with⟨h1,_⟩ | ⟨h1,h2,h3⟩
   ·rw[h1];have:=hl.2.2.2.1 _ (cn g);omega
   ·exact h3
 ·have:=hl.2.2.2.2.1 id x;omega
def pY (c:Int->Bool) (E:List (Int × LV)) (seen:List Nat):List Int:=(seen.map λa=>(E.getD a default).1).filter c
theorem Hg (c:Int->Bool) (E:List (Int × LV)) (seen:List Nat) (a:Nat):pY c E (seen++[a])=pY c E seen++if c (E.getD a default).1 then [(E.getD a default).1] else []:=by
 unfold pY;rw[List.map_append,List.filter_append];congr 1;rw[List.map_singleton];generalize (E.getD a default).1=x;by_cases h:c x<;>simp[h]
theorem Ea {E:List (Int × LV)}(g:(E.map (·.1)).Nodup) {seen:List Nat}(hs:∀ a∈seen,a<E.length) {a:Nat}(c:a<E.length) (i:a ∉ seen):(E.getD a default).1 ∉ seen.map λa=>(E.getD a default).1:=by
 intro h;obtain⟨b,e,j⟩:=List.mem_map.1 h;have d:=hs b e;have h1:(E.map (·.1))[b]'(by rw[List.length_map];exact d)=(E.map (·.1))[a]'(by rw[List.length_map];exact c):=by
  simpa[gD,d,c] using j
 have f:=List.pairwise_iff_getElem.1 g;rcases Nat.lt_trichotomy b a with h | h | h
 ·exact f b a (by rw[List.length_map];exact d) (by rw[List.length_map];exact c) h h1
 ·subst h;exact i e
 ·exact f a b (by rw[List.length_map];exact c) (by rw[List.length_map];exact d) h h1.symm
theorem Be {c:Int->Bool}{E:List (Int × LV)}{seen:List Nat}{K:List Int}(d:∀ k,k∈E.map (·.1)↔k∈K) (hs:∀ a∈seen,a<E.length) (e:∀ a,a<E.length->a∈seen) (x:Int):x∈pY c E seen↔x∈K.filter c:=by
 unfold pY;rw[List.mem_filter,List.mem_filter,<- d];refine and_congr_left λ_=>⟨λh=>?_,λh=>?_⟩
 ·obtain⟨a,b,rfl⟩:=List.mem_map.1 h;have:=hs a b;rw[gD,gE this];exact List.mem_map.2 ⟨_,List.getElem_mem this,rfl⟩
 ·obtain⟨p,f,rfl⟩:=List.mem_map.1 h;obtain⟨a,b,rfl⟩:=List.getElem_of_mem f;exact List.mem_map.2 ⟨a,e a b,by rw[gD,gE b];rfl⟩
theorem x6 {α:Type}{l:List α}{i:Nat}{x:α}(h:l[i]? = some x):l.set i x=l:=by
 apply List.ext_getElem?;intro j;by_cases e:j=i
 ·subst e;rw[List.getElem?_set_self (List.getElem?_eq_some_iff.1 h).1,h]
 ·rw[List.getElem?_set_ne (Ne.symm e)]
theorem drop_set {α:Type}(D l:List α) (i:Nat) (x y:α) (a:D.length=i) (h:l[i]? = some y):(D++l.drop i).set i x=D++[x]++l.drop (i+1):=by
 obtain⟨b,c⟩:=List.getElem?_eq_some_iff.1 h;rw[List.set_append_right _ _ om,a,Nat.sub_self,List.drop_eq_getElem_cons b,List.set_cons_zero,List.append_assoc];rfl
theorem DX.done {c s:St}{d:Nat}{v:LV}{l:List Gn}{T:Nat}{F:Nat->Nat}{i:Nat}{R:List GR}{b:Nat}{g:Gn}{r:GR}(a:l[i]? = some g) (f:R.map (·.1)=cw gX (l.take i)++l.drop i) (h:DX c s d v l.length T F i (R.set i r) (λj=>fZ (cw gX (l.take i)) (j:Int)++if g.par=(j:Int) then eW (cw gX (l.take i)) g else []) b) (k:r.1=gX (cw gX (l.take i)) g):DV c s d v l T F (i+1) (R.set i r):=by
 obtain⟨o,p⟩:=List.getElem?_eq_some_iff.1 a;have m:(cw gX (l.take i)).length=i:=by rw[cI,List.length_take];omega
 have e:cw gX (l.take (i+1))=cw gX (l.take i)++[gX (cw gX (l.take i)) g]:=by
  rw[List.take_add_one,a,Option.toList_some,tM]
 have hl:=h.low;refine⟨h.gs,h.tk,h.mp.ext λj _ x=>?_,h.ap,?_,⟨hl.1,by omega,λj n=>(hl.2.2.1 j n).1,hl.2.2.2.2.2.1⟩,h.fr⟩
 ·rw[e,vQ,D6];exact Iff.rfl
 ·rw[List.map_set,f,k,drop_set _ _ i _ g m a,e]
theorem M3 {v:LV}{d:List GR}{O:Nat}{p:St}(ff:GS p O v d) (hp:jI (d.map (·.1))) (hlen:d.length<=6000) (sH:O<=p.n) (fM:∀ n∈d.map (·.1),n.kept.Nodup) :
 aM Tryz.prog GL (.fn (.func 93) [] []) [v] p (λr s'=>∃ R,GS s' O v R/\R.map (·.1)=aD (d.map (·.1))/\p.n<=s'.n/\∀ id,id<O->s'.get id=p.get id):=by
 have jQ:=ff.sg.len;refine bM (first:=[]) (caps:=[]) Tryz.func93 br c93 bw (aX.mono (Q:=λo e s'=>(o = .normal∨o = .jmp .ret)/\∃ R,GS s' O v R/\R.map (·.1)=aD (d.map (·.1))/\p.n<=s'.n/\∀ id,id<O->s'.get id=p.get id) ?_ λo e s' hh=>by
  obtain⟨h1,h2⟩:=hh;exact⟨h1, .cE [],by simp[l93,aW],h2⟩)
 refine Cd.out (pg λe H=>?_);unfold l93;dsimp only[jA,jD,jG,qM,qL,qF,qS,qI,qA,qB,qC,qV,qH,qT,qD,qY,qm,ql,qR];repeat' (first|refine aG @jQ ?_|(first|apply ah|apply af)<;>intro t)
 refine vP (n:=d.length) (k:=p.n) (z:=.cm) wN rfl ef ef om (by decide) ?_;repeat' (first|refine aG @jQ ?_|(first|apply ah|apply af)<;>intro t)
 have hl:(d.map (·.1)).length=d.length:=List.length_map ..;generalize W8:d.map (·.1)=l at *;refine aN (λm e s=>∃ (i:Nat) (F:Nat->Nat) (R:List GR),m=l.length - i/\i<=l.length/\p.n<=s.n/\DV p s O v l p.n F i R/\e.at 0=v/\e.at 2 = .aE p.n 0 d.length 1/\e.at 10=v/\e.at 11 = .int .i64 (d.length:Int)/\e.at 12 = .int .i64 (i:Int)) _
  ⟨0,λ_=>0,d,rfl,by omega,by simp,?_,ef,ef,ef,ef,by simp only[lk,Nat.reduceEqDiff,if_false,if_true];rfl⟩ ?_
 ·have hz:bz l.length (dU (λ_=>0) 0)=bz d.length λ_=>.cm:=by rw[hl];exact kR λj _=>by simp[dU]
  exact⟨ff.mono (by simp) λid aS=>by rw[St.aA,if_neg om],by rw[hz];simp,xe.zero _ _ _,λj hj=>absurd hj om,by rw[W8];simp[cw],⟨sH,by simp,λj hj=>absurd hj om,λhu=>by have:=ff.sg.lt hu;omega⟩,λid aS=>by rw[St.aA,if_neg om]⟩
 clear H;clear e;rintro m e s ⟨i,F,R,rfl,hi,eu,hD,H,S,T,U,AW⟩;by_cases cy:i<l.length
 ·have iQ : (i : Int) < (d.length : Int) := by omega
  have dO:=@bQ i om;have Ak:R.length=d.length:=by
   have:=congrArg List.length hD.eq;rw[List.length_map,List.length_append,cI,List.length_take,List.length_drop]at this;omega
  obtain⟨J,rest,GC,hJ,tJ⟩:=hD.gs.sg.pos om;rw[Ak]at GC;subst GC;have P:=Bx.mk hD;clear hD;repeat' (first|refine aG @eF ?_|(first|apply ah|apply af)<;>intro t)
  refine jM wN rfl ?_;repeat' (first|refine aG @eF ?_|(first|apply ah|apply af)<;>intro t)
  refine jZ (q:=i) (f:=dU F i) (f':=dU (λj=>if j=i then s.n else F j) (i+1)) (n:=l.length) ef ef rfl (by rw[St.aA,if_neg (by have:=P.out.low;omega)];exact P.out.tk) cy yC (λs2 jk Ag iM=>?_);rw[St.fW]at jk;have u:=P.out.begin (s':=s2) hp cy jk Ag (by rw[iM _ (by have:=P.out.low;omega),St.aA,if_pos rfl]) λid h1 h2=>by rw[iM id h2,St.aA,if_neg om]
  have Q5:s2.get J=some (.cells .mut (dm grow R++rest)):=by
   rw[iM J (λe=>P.out.low.2.2.2 (e ▸ aI.2 rfl)),St.aA,if_neg om];exact tJ
  have pP:=P.out.eq;have MC:i<R.length:=by omega
  have Z:R[i]? = some (R.getD i default):=by rw[gD,gE MC];rfl
  have hDl:(cw gX (l.take i)).length=i:=by rw[cI,List.length_take];omega
  have nT:(R.getD i default).1=l.getD i default:=by
   have h1:=congrArg (λL=>L[i]?) pP;simp only[List.getElem?_map]at h1;rw[Z,List.getElem?_append_right om,hDl,Nat.sub_self,List.getElem?_drop,Nat.add_zero,gE cy]at h1;have FD:l.getD i default=l[i]:=by rw[gD,gE cy];rfl
   rw[FD];exact Option.some.inj h1
  have hgm:l.getD i default∈l:=cn cy;have U7:=fM _ hgm;have DL:=hp i cy;rw[<- nT]at U7 DL;have yR:R.getD i default∈R:=cn MC;have hD1:∀ q,q<i->(R.getD q default).1=(cw gX (l.take i)).getD q default:=λq hq=>by
   have h1:=congrArg (λL=>L[q]?) pP;simp only[List.getElem?_map]at h1;rw[gE om,List.getElem?_append_left om]at h1;rw[gD,gD,<- h1,gE om];rfl
  generalize hrE:R.getD i default=r at *;obtain⟨g,sv,M⟩:=r;simp only at nT U7 DL;generalize hDE:cw gX (l.take i)=D at *;generalize (λj=>if j=i then s.n else F j)=F' at *;have tS:p.n<=s2.n:=by omega
  have hb:s.n+1=s2.n:=by omega
  rw[hb]at u;clear P Ag iM jk hJ tJ eu hb;clear F;have pe:=eY bY Z (k:=1) (v:=.int .i64 g.par) rfl Q5;have KH:=eY bY Z (k:=3) (v:=.aR M) rfl Q5;have b:=Bx.mk u;clear u;repeat' (first|refine aG @pe ?_|(first|apply ah|apply af)<;>intro t)
  refine lQ (λe' s'=>(∃ r' b',DX p s' O (.aE J 0 d.length 7) l.length p.n F' i (R.set i r') (λj=>fZ D (j:Int)++if g.par=(j:Int) then eW D g else []) b'/\r'.1 = { g with kept:=eW D g } /\ r'.2.1=sv/\p.n<=s'.n)/\e'.at 0 = .aE J 0 d.length 7/\e'.at 2 = .aE p.n 0 d.length 1/\e'.at 10 = .aE J 0 d.length 7/\e'.at 11 = .int .i64 (d.length:Int)/\e'.at 12 = .int .i64 (i:Int)/\e'.at 4 = .aO J (i*7)) ?_ ?_
  ·repeat' (first|refine aG @pe ?_|(first|apply ah|apply af)<;>intro t)
   ·have hdk:eW D g=g.kept:=by unfold eW;rw[if_neg om]
    have u:=b.out.ext (VT:=λj=>fZ D (j:Int)++if g.par=(j:Int) then eW D g else []) λj _ x=>by
     have:¬ g.par=(j:Int):=by omega
     simp only[if_neg this,List.append_nil]
    rw[<- x6 Z]at u;exact⟨⟨_,_,u,by rw[hdk],rfl,tS⟩,ef,ef,ef,ef,ef,ef⟩
   ·obtain⟨q,hq⟩:∃ q:Nat,g.par=(q:Int):=⟨g.par.toNat,by omega⟩;have hqi:q<i:=by omega
    have hqR:q<R.length:=by omega
    have SF:(q:Int)<(d.length:Int):=by omega
    have hrq:R[q]? = some (R.getD q default):=by rw[gD,gE hqR];rfl
    have hrqm:R.getD q default∈R:=cn hqR;have Zb:=hD1 q hqi;have ct:∃ kp,(R.getD q default).1.kept=kp/\eW D g=g.kept.filter (λx=>decide (x∈kp) && !decide (x∈fZ D (q:Int))):=⟨_,rfl,by
     unfold eW;rw[if_pos om,hq,Int.toNat_natCast,Zb]⟩
    obtain⟨kp,FH,hdk⟩:=ct;generalize R.getD q default=rp at *;refine jM wN rfl ?_;have KQ:=b.out.frame (s':=s2.new (.map [])) (by simp) λid aS=>by rw[St.aA,if_neg om]
    have w:(s2.new (.map [])).get J=some (.cells .mut (dm grow R++rest)):=by
     rw[St.aA,if_neg (by have:=b.out.low.2.2.2.2.1 J (aI.2 rfl);omega)];exact Q5
    have W7:(s2.new (.map [])).get s2.n=some (.map []):=by rw[St.aA,if_pos rfl]
    have o9:(s2.new (.map [])).n=s2.n+1:=rfl;have hl3':=eY bY Z (k:=3) (v:=.aR M) rfl w;clear pe KH;have b:=Bx.mk KQ;clear KQ;generalize s2.new (.map [])=A at *;repeat' (first|refine aG @hl3' ?_|(first|apply ah|apply af)<;>intro t)
    obtain⟨E,hE1,hE2,hE3,hE4⟩:=b.out.gs.ms yR;refine EF (n:=s2.n+1) (M:=M) o9 ef hE1 ?_;repeat' (first|refine aG trivial ?_|(first|apply ah|apply af)<;>intro t)
    have hMb:M<s2.n:=b.out.low.2.2.2.1 _ yR;have hJb:J<s2.n:=b.out.low.2.2.2.2.1 J (aI.2 rfl);generalize hcE:(λx=>decide (x∈kp) && !decide (x∈fZ D (q:Int)))=c at *;refine aN (λm e s=>∃ seen:List Nat,m=E.length - seen.length/\seen.Nodup/\(∀ a∈seen,a<E.length)/\s.n=s2.n+2/\DX p s O (.aE J 0 d.length 7) l.length p.n F' i R (λj=>fZ D (j:Int)++if g.par=(j:Int) then pY c E seen else []) s2.n/\ey s s2.n (pY c E seen)/\s.get (s2.n+1)=some (.iter (some M) (mG di E).length seen (mG di E).length)/\s.get M=some (.map (mG di E))/\s.get J=some (.cells .mut (dm grow R++rest))/\e.at 0 = .aE J 0 d.length 7/\e.at 2 = .aE p.n 0 d.length 1/\e.at 4 = .aO J (i*7)/\e.at 5 = .aR s2.n/\e.at 10 = .aE J 0 d.length 7/\e.at 11 = .int .i64 (d.length:Int)/\e.at 12 = .int .i64 (i:Int)/\e.at 33 = .aO (s2.n+1) 0) _
     ⟨[],rfl,List.nodup_nil,λa I=>absurd I (by simp),by simp[o9],?_,ey.nil (by rw[St.aA,if_neg om];exact W7),by rw[St.aA,if_pos o9.symm],by rw[St.aA,if_neg om];exact hE1,by rw[St.aA,if_neg om];exact w,ef,ef,ef,ef,ef,ef,ef,ef⟩ ?_
    ·refine (b.out.frame (by simp) λid aS=>by rw[St.aA,if_neg om]).ext λj hj x=>?_;simp[pY]
    clear H S T U AW b W7 w hl3' hE1 Q5 o9;clear e A;rintro m e A ⟨seen,rfl,Mq,Qz,o9,u,K,hIt,V,w,H,S,e4,e5,T,U,AW,NV⟩;have b:=Bx.mk (And.intro u K);clear u K;refine mN ?_;refine iC hm ?_;refine JR (M:=M) (it:=s2.n+1) (seen:=seen) ef hIt V (by
     cases seen with
     | nil=>exact .inl rfl
     | cons a l=>right;have:=Qz a (by simp);rw[fc];omega) (λa I BQ=>?_) (λdD=>?_)
    ·rw[fc]at I;have hEa:E[a]? = some (E.getD a default):=by rw[gD,gE I];rfl
     have kW:=Kk di hEa;have BK:=Ea hE2 Qz I BQ;have X:=Hg c E seen a;have GQ:c (E.getD a default).1=(decide ((E.getD a default).1∈kp) && !decide ((E.getD a default).1∈fZ D (q:Int))):=by rw[<- hcE]
     have IJ:(A.put (s2.n+1) (.iter (some M) (mG di E).length (seen++[a]) (mG di E).length)).get (s2.n+1)=some (.iter (some M) (mG di E).length (seen++[a]) (mG di E).length):=by rw[St.az,if_pos rfl]
     have Z8:=b.out.1.frame (s':=A.put (s2.n+1) (.iter (some M) (mG di E).length (seen++[a]) (mG di E).length)) (by simp) λid aS=>by rw[St.az,if_neg om]
     have Rx:=b.out.2.keep (s':=A.put (s2.n+1) (.iter (some M) (mG di E).length (seen++[a]) (mG di E).length)) (by rw[St.az,if_neg om]);have N:(A.put (s2.n+1) (.iter (some M) (mG di E).length (seen++[a]) (mG di E).length)).get M=some (.map (mG di E)):=by rw[St.az,if_neg om];exact V
     have sJ:(A.put (s2.n+1) (.iter (some M) (mG di E).length (seen++[a]) (mG di E).length)).get J=some (.cells .mut (dm grow R++rest)):=by rw[St.az,if_neg om];exact w
     have od:(A.put (s2.n+1) (.iter (some M) (mG di E).length (seen++[a]) (mG di E).length)).n=s2.n+2:=o9;generalize A.put (s2.n+1) (.iter (some M) (mG di E).length (seen++[a]) (mG di E).length)=s4 at *;clear b hIt V w o9;clear A;have iK:seen.length<E.length:=by
      have:=tX (n:=E.length) (seen:=seen++[a]) (List.nodup_append.2 ⟨Mq,by simp,λx hx y hy e=>by rw[List.mem_singleton]at hy;subst hy;exact BQ (e ▸ hx)⟩) λx hx=>by
       rcases List.mem_append.1 hx with hx | hx
       ·exact Qz x hx
       ·rw[List.mem_singleton.1 hx];exact I
      rw[List.length_append,List.length_singleton]at this;omega
     have sx:(seen++[a]).Nodup:=List.nodup_append.2 ⟨Mq,by simp,λx hx y hy e=>by rw[List.mem_singleton]at hy;subst hy;exact BQ (e ▸ hx)⟩;have Mp:∀ x∈seen++[a],x<E.length:=λx hx=>by
      rcases List.mem_append.1 hx with hx | hx
      ·exact Qz x hx
      ·rw[List.mem_singleton.1 hx];exact I
     have GF:=Bx.mk (And.intro sx (And.intro Mp (And.intro iK (And.intro IJ N))));have UY:=eY bY hrq (k:=3) (v:=.aR rp.2.2) rfl sJ;have MA:=eY bY Z (k:=1) (v:=.int .i64 g.par) rfl sJ;rw[hq]at MA;have hmp:=Z8.gs.ms hrqm;rw[FH]at hmp;have hmq:=Z8.mp.ms q om;simp only[hq,if_true]at hmq;have YV:=Z8.tk;have Ft:(bz l.length (dU F' (i+1)))[q]? = some (.aR (F' q)):=by rw[cQ om];simp[dU,show q<i+1 by omega]
     rw[hl]at YV Ft;have b:=Bx.mk (And.intro Z8 Rx);clear Z8 Rx sx Mp;repeat' (first|refine aG trivial ?_|(first|apply ah|apply af)<;>intro t)
     refine EG (M:=M) (i:=a) (last:=(mG di E).length) ef IJ N rfl (by rw[fc];exact I) ?_;rw[kW];clear IJ N kW;generalize (E.getD a default).1=x at *;unfold di;repeat' (first|refine aG (aj @eF (aj @MA (aj @UY @dO))) ?_|(first|apply ah|apply af)<;>intro t)
     refine lF hmp wN ef ef (λb1 fy=>?_);cases b1
     ·have pH:c x=false:=by rw[GQ,fy];rfl
      rw[pH,if_neg (by simp),List.append_nil]at X;have Z6:=b.out;rw[<- X]at Z6;have b:=Bx.mk Z6;clear Z6 GQ X;repeat' (first|refine aG trivial ?_|(first|apply ah|apply af)<;>intro t)
      clear UY MA;obtain⟨kU,tF,WS,B,UL⟩:=GF.out;refine⟨E.length - (seen++[a]).length,by rw[List.length_append,List.length_singleton];omega,seen++[a],rfl,kU,tF,od,b.out.1,b.out.2,B,UL,sJ,?_⟩;simp only[lk,dM,Nat.reduceEqDiff,if_false,H,S,e4,e5,T,U,AW,NV,and_self]
     ·repeat' (first|refine aG (aj @eF (aj @MA (aj @YV @Ft))) ?_|(first|apply ah|apply af)<;>intro t)
      refine lF hmq (wG ef) ef ef (λb2 lJ=>?_);cases b2
      ·have jk:=of_decide_eq_false lJ;have pH:c x=true:=by
        rw[GQ,fy,decide_eq_false λh=>jk (List.mem_append_left _ h)];rfl
       rw[pH,if_pos rfl]at X;clear fy lJ GQ;repeat' (first|refine aG trivial ?_|(first|apply ah|apply af)<;>intro t)
       have Rx:=b.out.2;refine ov Rx ef ef ef (λs5 vI hm5 eL=>?_);rw[<- X]at hm5;obtain⟨kU,tF,WS,B,UL⟩:=GF.out;have zl:=b.out.1.frame (s':=s5) om λid aS=>eL id om;have U9:s5.get J=some (.cells .mut (dm grow R++rest)):=by rw[eL J om];exact sJ
       have hIt5:=(eL (s2.n+1) om).trans B;have hEs5:=(eL M om).trans UL;clear B UL UY MA hmq YV;have Zx:=eY bY Z (k:=1) (v:=.int .i64 g.par) rfl U9;rw[hq]at Zx;have YU:=zl.tk;rw[hl]at YU;have UT:=zl.mp.ms q om;simp only[hq,if_true]at UT;have hqF:=zl.low.2.2.1 q om;have b:=Bx.mk (And.intro zl hm5);clear zl hm5 eL sJ Rx GF hmp;repeat' (first|refine aG (aj @eF (aj @Zx (aj @YU @Ft))) ?_|(first|apply ah|apply af)<;>intro t)
       refine ov UT ef ef ef (λs6 W0 hm6 Fz=>?_);have IE:=b.out.1.up (q:=q) (VT:=λj=>fZ D (j:Int)++if g.par=(j:Int) then pY c E (seen++[a]) else []) om W0 (by
        simp only[hq,if_true];rw[X,<- List.append_assoc];exact hm6) Fz λj _ hj=>by
        have:¬ g.par=(j:Int):=by omega
        simp only[if_neg this]
       have hgJ6:s6.get J=some (.cells .mut (dm grow R++rest)):=by rw[Fz J (fF UT U9).symm];exact U9
       have hMF:F' q≠M:=IE.ap q om _ yR;have Y:=Bx.mk (And.intro IE (And.intro (b.out.2.keep (Fz _ om)) (And.intro ((Fz (s2.n+1) om).trans hIt5) ((Fz M (Ne.symm hMF)).trans hEs5))));clear IE hm6 Fz b hIt5 hEs5 U9 UT YU Zx;repeat' (first|refine aG trivial ?_|(first|apply ah|apply af)<;>intro t)
       refine⟨E.length - (seen++[a]).length,by rw[List.length_append,List.length_singleton];omega,seen++[a],rfl,kU,tF,by omega,Y.out.1,Y.out.2.1,Y.out.2.2.1,Y.out.2.2.2,hgJ6,?_⟩;simp only[lk,dM,Nat.reduceEqDiff,if_false,H,S,e4,e5,T,U,AW,NV,and_self]
      ·have jk:=of_decide_eq_true lJ;have hxT:x∈fZ D (q:Int):=(List.mem_append.1 jk).resolve_right λh=>BK (List.mem_filter.1 h).1;have pH:c x=false:=by rw[GQ,decide_eq_true hxT];simp
       rw[pH,if_neg (by simp),List.append_nil]at X;have Z6:=b.out;rw[<- X]at Z6;have b:=Bx.mk Z6;clear Z6 GQ X fy lJ;repeat' (first|refine aG trivial ?_|(first|apply ah|apply af)<;>intro t)
       clear UY MA;obtain⟨kU,tF,WS,B,UL⟩:=GF.out;refine⟨E.length - (seen++[a]).length,by rw[List.length_append,List.length_singleton];omega,seen++[a],rfl,kU,tF,od,b.out.1,b.out.2,B,UL,sJ,?_⟩;simp only[lk,dM,Nat.reduceEqDiff,if_false,H,S,e4,e5,T,U,AW,NV,and_self]
    ·repeat' (first|refine aG trivial ?_|(first|apply ah|apply af)<;>intro t)
     refine dJ bY (i:=i) (k:=3) (c:=(g,sv,M)) (c':=({ g with kept:=eW D g },sv,s2.n)) (rest:=rest) ef rfl ef rfl w Z (by decide) rfl (λs4 od nY fD=>?_);have Rt:∀ a,a<E.length->a∈seen:=λa I=>dD a (by rw[fc];exact I) (by rw[fc];exact I);have NJ:∀ x,x∈pY c E seen↔x∈eW D g:=λx=>by rw[hdk];exact Be hE4 Qz Rt x
     have K:=b.out.2.mem NJ;have KQ:=b.out.1.ext (VT:=λj=>fZ D (j:Int)++if g.par=(j:Int) then eW D g else []) λj _ x=>by
      by_cases e:g.par=(j:Int)
      ·simp only[if_pos e,List.mem_append,NJ]
      ·simp only[if_neg e]
     have zl:=KQ.store (b':=s2.n+1) (i0:=i) (r':=({ g with kept:=eW D g },sv,s2.n)) MC Ak (KQ.gs.kS (g,sv,M) yR) nY od fD (.inr ⟨K,Nat.le_refl _,Nat.lt_succ_self _⟩) om om;clear K KQ b nY fD NJ dD hIt V w;have hX5B:=Bx.mk zl;clear zl;repeat' (first|refine aG trivial ?_|(first|apply ah|apply af)<;>intro t)
     exact⟨⟨_,_,hX5B.out,rfl,rfl,by omega⟩,ef,ef,ef,ef,ef,ef⟩
  ·clear H S T U AW b pe KH Q5 ff jQ;clear e;rintro e A ⟨⟨r',b',u,hr1',hsv',sx⟩,H,S,T,U,AW,e4⟩;obtain⟨g',G,C⟩:=r';simp only at hr1' hsv';subst hr1' hsv';obtain⟨j3,OO,hv3,-,w⟩:=u.gs.sg.pos (by rw[List.length_set];omega);have hJ3:J=j3:=aI.1 (hv3 ▸ (aI.2 rfl:aQ (.aE J 0 d.length 7) J));subst hJ3;have Ms:(R.set i ({ g with kept:=eW D g },G,C))[i]? = some ({ g with kept:=eW D g },G,C):=by rw[List.getElem?_set_self MC]
   have KH:=eY bY Ms (k:=3) (v:=.aR C) rfl w;have wq:=u.gs.ms (r:=({ g with kept:=eW D g },G,C)) (List.mem_of_getElem? Ms);have Zm:(eW D g).Nodup:=by
    unfold eW;split
    ·exact U7.sublist List.filter_sublist
    ·exact U7
   have b:=Bx.mk u;clear u;repeat' (first|refine aG @KH ?_|(first|apply ah|apply af)<;>intro t)
   refine ud wq Zm wN ef ?_;simp only;have iO:∀ s',s'.n=A.n->s'.get J=some (.cells .mut (dm grow ((R.set i ({ g with kept:=eW D g },G,C)).set i (gX D g,G,C))++OO))->(∀ id,id≠J->s'.get id=A.get id)->DV p s' O (.aE J 0 d.length 7) l p.n F' (i+1) (R.set i (gX D g,G,C)):=λs' h1 h2 h3=>by
    have IE:=b.out.store (b':=b') (i0:=i) (r':=(gX D g,G,C)) (by rw[List.length_set];exact MC) (by rw[List.length_set];exact Ak) (b.out.gs.kS ({ g with kept:=eW D g },G,C) (List.mem_of_getElem? Ms)) h2 h1 h3 (.inl (by rw[gD,Ms];exact⟨rfl,rfl⟩)) (Nat.le_refl _) b.out.low.2.2.2.2.2.2.2;rw[List.set_set]at IE;subst hDE;exact IE.done (by rw[nT,gD,gE cy];rfl) pP rfl
   have Y:=Bx.mk iO;clear iO b wq KH;repeat' (first|refine aG trivial ?_|(first|apply ah|apply af)<;>intro t)
   ·have hd:decide ((eW D g).length=0)=false:=decide_eq_false om;refine dJ bY (i:=i) (k:=6) (c:=({ g with kept:=eW D g },G,C)) (c':=(gX D g,G,C)) (rest:=OO) (v:=.bool false) ef rfl ef rfl w Ms (by decide) (by unfold gX;rw[hd];rfl) (λs4 od nY fD=>?_);have hDV:=Bx.mk (Y.out s4 od nY fD);clear Y nY fD w;repeat' (first|refine aG @dO ?_|(first|apply ah|apply af)<;>intro t)
    refine⟨l.length - (i+1),by omega,i+1,F',_,rfl,by omega,by omega,hDV.out,?_⟩;simp only[lk,Nat.reduceEqDiff,if_false,if_true,dO,H,S,T,U,and_self]
   ·have hd:decide ((eW D g).length=0)=true:=decide_eq_true om;refine dJ bY (i:=i) (k:=6) (c:=({ g with kept:=eW D g },G,C)) (c':=(gX D g,G,C)) (rest:=OO) (v:=.bool true) ef rfl ef rfl w Ms (by decide) (by unfold gX;rw[hd];rfl) (λs4 od nY fD=>?_);have hDV:=Bx.mk (Y.out s4 od nY fD);clear Y nY fD w;repeat' (first|refine aG @dO ?_|(first|apply ah|apply af)<;>intro t)
    refine⟨l.length - (i+1),by omega,i+1,F',_,rfl,by omega,by omega,hDV.out,?_⟩;simp only[lk,Nat.reduceEqDiff,if_false,if_true,dO,H,S,T,U,and_self]
 ·have eU:i=l.length:=by omega
  subst eU;have pP:=hD.eq;rw[List.take_length,List.drop_length,List.append_nil]at pP;have P:=Bx.mk hD;clear hD;repeat' (first|refine aG trivial ?_|(first|apply ah|apply af)<;>intro t)
  exact⟨.inl trivial,R,P.out.gs,pP,eu,P.out.fr⟩
theorem xX (l:List Gn) (j:Int) (h:∀ n∈l,n.kept.length<=3000):under l j<=l.length*3000:=by
 induction l with
 | nil=>simp[under]
 | cons n l ih=>
   have h1:=ih λm hm=>h m (by simp[hm]);have h2:=h n (by simp);have e:under (n::l) j=under [n] j+under l j:=by rw[<- tW];rfl
   rw[e,A7,List.length_cons,Nat.add_mul];split<;>omega
theorem MX (L l:List Gn):(cw (oT L) l).map (·.par)=l.map (·.par):=by
 have h:∀ (l d:List Gn),(l.foldl (λd n=>d++[oT L d n]) d).map (·.par)=d.map (·.par)++l.map (·.par):=by
  intro l;induction l with
  | nil=>intro d;simp
  | cons x l ih=>intro d;rw[List.foldl_cons,ih];simp[oT]
 simpa[cw] using h l []
theorem GS.flag {s s':St}{b J n i:Nat}{R:List GR}{g':Gn}{r:GR}{rest:List LV}(h:GS s b (.aE J 0 n 7) R) (d:R.length=n) (a:R[i]? = some r) (e:g'.kept=r.1.kept) (hs:g'.set=r.1.set) (f:s'.get J=some (.cells .mut (dm grow (R.set i (g',r.2))++rest))) (m:s'.n=s.n) (ho:∀ id,id≠J->s'.get id=s.get id):GS s' b (.aE J 0 n 7) (R.set i (g',r.2)):=by
 have g:=(List.getElem?_eq_some_iff.1 a).1;have c:R.getD i default=r:=by rw[gD,a];rfl
 obtain⟨j,o,h1,h2,h3⟩:=h.sg.pos om;have k:J=j:=aI.1 (h1 ▸ (aI.2 rfl:aQ (.aE J 0 n 7) J));subst k;refine h.set g (by rw[hs];exact h.kS _ (List.mem_of_getElem? a)) ⟨by rw[eN bY,List.length_set], .inr ⟨J,rest,by rw[d],by omega,f⟩⟩ om (λr l=>ho _ (fF (h.ms l) h3)) (.inl ⟨by rw[c],by rw[c];exact e⟩)
theorem Ge {v:LV}{a:List GR}{w:Nat}{b:St}(ff:GS b w v a) (hp:jI (a.map (·.1))) (hlen:a.length<=6000) (sH:w<=b.n) (fM:∀ n∈a.map (·.1),n.kept.Nodup/\n.kept.length<=3000) :
 aM Tryz.prog GL (.fn (.func 94) [] []) [v] b (λr s'=>∃ R,GS s' w v R/\R.map (·.1)=aJ (a.map (·.1))/\b.n<=s'.n/\∀ id,id<w->s'.get id=b.get id):=by
 have jQ:=ff.sg.len;refine bM (first:=[]) (caps:=[]) Tryz.func94 br c94 bw (aX.mono (Q:=λo e s'=>(o = .normal∨o = .jmp .ret)/\∃ R,GS s' w v R/\R.map (·.1)=aJ (a.map (·.1))/\b.n<=s'.n/\∀ id,id<w->s'.get id=b.get id) ?_ λo e s' hh=>by
  obtain⟨h1,h2⟩:=hh;exact⟨h1, .cE [],by simp[l94,aW],h2⟩)
 refine Cd.out (pg λe B=>?_);unfold l94;dsimp only[jA,jB,jC,jD,jE,jG,jH,qM,qL,qN,qF,qS,qI,qA,qB,qC,qP,qV,qT,qY,qm,ql,qR];repeat' (first|refine aG @jQ ?_|(first|apply ah|apply af)<;>intro h)
 refine vP (n:=a.length) (k:=b.n) (z:=.int .i64 0) wN rfl ef ef om (by decide) ?_;repeat' (first|refine aG @jQ ?_|(first|apply ah|apply af)<;>intro h)
 have hl:(a.map (·.1)).length=a.length:=List.length_map ..;generalize W8:a.map (·.1)=l at *;refine aN (λm e s=>∃ k:Nat,m=a.length - k/\k<=a.length/\b.n<s.n/\GS s w v a/\s.get b.n=some (.cells .mut (bz a.length λj=>.int .i64 (under (l.take k) (j:Int):Int)))/\(∀ id,id<w->s.get id=b.get id)/\e.at 0=v/\e.at 2 = .aE b.n 0 a.length 1/\e.at 10=v/\e.at 11 = .int .i64 (a.length:Int)/\e.at 12 = .int .i64 (k:Int)) _
  ⟨0,rfl,by omega,by simp,ff.mono (by simp) λid N=>by rw[St.aA,if_neg om],by simp[under],λid N=>by rw[St.aA,if_neg om],ef,ef,ef,ef,by simp only[lk,Nat.reduceEqDiff,if_false,if_true];rfl⟩ ?_
 clear B;clear e;rintro m e s ⟨k,rfl,hk,eu,y,E,ho,B,F,gW,n6,AW⟩;by_cases cG:k<a.length
 ·have iN:(k:Int)<(a.length:Int):=by omega
  have cD:=@bQ k om;obtain⟨J,rest,GC,hJ,u⟩:=y.sg.pos om;subst GC;have C:a[k]? = some (a.getD k default):=by rw[gD,gE cG];rfl
  have DM:l.getD k default=(a.getD k default).1:=by
   rw[<- W8,gD,List.getElem?_map,C];rfl
  have ep:=take_one l default (k:=k) om;have DL:=hp k om;have O:=fM _ (cn (l:=l) (i:=k) om);rw[DM]at ep DL O;have yR:a.getD k default∈a:=cn cG;have Mn:=y.kS _ yR;have X:=y.ms yR;generalize a.getD k default=r at *;obtain⟨g,G,M⟩:=r;simp only at DM DL O Mn X ep;have uA:=Mn.sl.cell;have kG:cz (some 7) (.aO J (k*7)) s=some (.agg [.int .i64 g.name, .int .i64 g.par,G, .aR M, .bool g.old, .bool g.bO, .bool g.gone]):=lV bY C u;have GD:=λj:Int=>xX (l.take k) j λn hn=>(fM n (List.mem_of_mem_take hn)).2;have hunl:(l.take k).length<=6000:=by rw[List.length_take];omega
  have P:∀ j:Int,under (l.take (k+1)) j=under (l.take k) j+if g.par=j then g.kept.length else 0:=λj=>by rw[ep,tW,A7]
  have Rz:=y.mono (s':=(s.new (.cells .mut [.int .i64 0, .int .i64 0, .aq, .cm, .bool false, .bool false, .bool false])).put s.n (.cells .mut [.int .i64 g.name, .int .i64 g.par,G, .aR M, .bool g.old, .bool g.bO, .bool g.gone])) (by simp) λid N=>by rw[St.az,if_neg om,St.aA,if_neg om]
  have wF:((s.new (.cells .mut [.int .i64 0, .int .i64 0, .aq, .cm, .bool false, .bool false, .bool false])).put s.n (.cells .mut [.int .i64 g.name, .int .i64 g.par,G, .aR M, .bool g.old, .bool g.bO, .bool g.gone])).get b.n=some (.cells .mut (bz a.length λj=>.int .i64 (under (l.take k) (j:Int):Int))):=by rw[St.az,if_neg om,St.aA,if_neg om];exact E
  have fy:((s.new (.cells .mut [.int .i64 0, .int .i64 0, .aq, .cm, .bool false, .bool false, .bool false])).put s.n (.cells .mut [.int .i64 g.name, .int .i64 g.par,G, .aR M, .bool g.old, .bool g.bO, .bool g.gone])).get s.n=some (.cells .mut [.int .i64 g.name, .int .i64 g.par,G, .aR M, .bool g.old, .bool g.bO, .bool g.gone]):=by rw[St.az,if_pos rfl]
  have fG:∀ id,id<w->((s.new (.cells .mut [.int .i64 0, .int .i64 0, .aq, .cm, .bool false, .bool false, .bool false])).put s.n (.cells .mut [.int .i64 g.name, .int .i64 g.par,G, .aR M, .bool g.old, .bool g.bO, .bool g.gone])).get id=b.get id:=λid N=>by rw[St.az,if_neg om,St.aA,if_neg om];exact ho id N
  have jk:((s.new (.cells .mut [.int .i64 0, .int .i64 0, .aq, .cm, .bool false, .bool false, .bool false])).put s.n (.cells .mut [.int .i64 g.name, .int .i64 g.par,G, .aR M, .bool g.old, .bool g.bO, .bool g.gone])).n=s.n+1:=rfl;have p:=Bx.mk (And.intro Rz fG);have wI:=Bx.mk (And.intro GD P);clear y E ho GD P ep DM X u Rz fG;by_cases vm:0<=g.par
  ·skip;repeat' (first|refine aG (aj @eF @kG) ?_|(first|apply ah|apply af)<;>intro h)
   generalize (s.new (.cells .mut [.int .i64 0, .int .i64 0, .aq, .cm, .bool false, .bool false, .bool false])).put s.n (.cells .mut [.int .i64 g.name, .int .i64 g.par,G, .aR M, .bool g.old, .bool g.bO, .bool g.gone])=s1 at *;obtain⟨q,Y⟩:∃ q:Nat,g.par=(q:Int):=⟨g.par.toNat,by omega⟩;have hqR:q<a.length:=by omega
   have SF:(q:Int)<(a.length:Int):=by omega
   have hvq:(bz a.length λj=>.int .i64 (under (l.take k) (j:Int):Int))[q]? = some (.int .i64 (under (l.take k) (q:Int):Int)):=cQ hqR;rw[Y]at fy;rw[Y];repeat' (first|refine aG (aj @eF (aj @fy (aj @wF @hvq))) ?_|(first|apply ah|apply af)<;>intro h)
   have S:=p.out.1.ms yR;refine ud S O.1 wN ef ?_;simp only;have vh:=wI.out.1 (q:Int);have hgn2:=O.2;have YO:IntKind.i64.wrap ((under (l.take k) (q:Int):Int)+(g.kept.length:Int))=((under (l.take k) (q:Int)+g.kept.length:Nat):Int):=by rw[wrap_i64 _ om om];rfl
   repeat' (first|refine aG (aj @eF (aj @fy (aj @wF (aj @hvq @YO)))) ?_|(first|apply ah|apply af)<;>intro h)
   refine jZ (q:=q) (f:=λj=>.int .i64 (under (l.take k) (j:Int):Int)) (f':=λj=>.int .i64 (under (l.take (k+1)) (j:Int):Int)) ef ef rfl wF hqR (λj=>?_) (λs3 o9 wA fR=>?_)
   ·rw[wI.out.2];by_cases e:j=q
    ·subst e;simp only[Y,if_true];rw[YO]
    ·have:¬ g.par=(j:Int):=by omega
     simp only[if_neg this,if_neg e,Nat.add_zero]
   have H:b.n≠J:=λe=>by
    have:=p.out.1.sg;obtain⟨j,r,h1,h2,h3⟩:=this.pos om;have hJ:J=j:=aI.1 (h1 ▸ (aI.2 rfl:aQ (.aE J 0 a.length 7) J));subst hJ;have h4:=ff.sg.lt (aI.2 rfl:aQ (.aE J 0 a.length 7) J);omega
   have MP:=p.out.1.frame (s':=s3) om (λid hu=>fR id λe=>H (e ▸ (aI.1 hu))) λr hr=>fR _ (fF (p.out.1.ms hr) wF);have A:∀ id,id<w->s3.get id=b.get id:=λid N=>(fR id om).trans (p.out.2 id N);have t:=Bx.mk (And.intro MP (And.intro wA A));clear MP wA fR A wF fy S p;repeat' (first|refine aG @cD ?_|(first|apply ah|apply af)<;>intro h)
   refine⟨a.length - (k+1),by omega,k+1,rfl,by omega,by omega,t.out.1,t.out.2.1,t.out.2.2,?_⟩;simp only[lk,Nat.reduceEqDiff,if_false,if_true,cD,B,F,gW,n6,and_self]
  ·repeat' (first|refine aG (aj @eF (aj @kG @cD)) ?_|(first|apply ah|apply af)<;>intro h)
   ·generalize (s.new (.cells .mut [.int .i64 0, .int .i64 0, .aq, .cm, .bool false, .bool false, .bool false])).put s.n (.cells .mut [.int .i64 g.name, .int .i64 g.par,G, .aR M, .bool g.old, .bool g.bO, .bool g.gone])=s1 at *;refine⟨a.length - (k+1),by omega,k+1,rfl,by omega,by omega,p.out.1,?_,p.out.2,?_⟩
    ·rw[wF];congr 3;funext j;have:¬ g.par=(j:Int):=by omega
     rw[wI.out.2,if_neg this,Nat.add_zero]
    ·simp only[lk,Nat.reduceEqDiff,if_false,if_true,cD,B,F,gW,n6,and_self]
   all_goals (exfalso;omega)
 ·have rO:k=a.length:=by omega
  subst rO;rw[<- hl,List.take_length]at E;have p:=Bx.mk (And.intro y (And.intro E ho));clear y E ho;repeat' (first|refine aG @jQ ?_|(first|apply ah|apply af)<;>intro h)
  refine aN (λm e s=>∃ (i:Nat) (R:List GR),m=a.length - i/\i<=a.length/\b.n<s.n/\GS s w v R/\R.map (·.1)=cw (oT l) (l.take i)++l.drop i/\s.get b.n=some (.cells .mut (bz a.length λj=>.int .i64 (under l (j:Int):Int)))/\(∀ id,id<w->s.get id=b.get id)/\e.at 0=v/\e.at 2 = .aE b.n 0 a.length 1/\e.at 32=v/\e.at 33 = .int .i64 (a.length:Int)/\e.at 34 = .int .i64 (i:Int)) _
   ⟨0,a,rfl,by omega,eu,p.out.1,by rw[W8];simp[cw],by rw[p.out.2.1,hl],p.out.2.2,ef,ef,ef,ef,by simp only[lk,Nat.reduceEqDiff,if_false,if_true];rfl⟩ ?_
  clear B F gW n6 AW p eu cG h;clear e s;rintro m e s ⟨i,R,rfl,hi,eu,y,pP,E,ho,B,F,NW,NV,e34⟩;by_cases cy:i<a.length
  ·have iQ:(i:Int)<(a.length:Int):=by omega
   have dO:=@bQ i om;have I:(cw (oT l) (l.take i)).length=i:=by rw[cI,List.length_take];omega
   have Ak:R.length=a.length:=by
    have:=congrArg List.length pP;rw[List.length_map,List.length_append,I,List.length_drop]at this;omega
   have MC:i<R.length:=by omega
   have QY:i<l.length:=by omega
   obtain⟨J,rest,GC,hJ,u⟩:=y.sg.pos om;rw[Ak]at GC;subst GC;have C:R[i]? = some (R.getD i default):=by rw[gD,gE MC];rfl
   have FD:l[i]? = some (l.getD i default):=by rw[gD,gE QY];rfl
   have nT:(R.getD i default).1=l.getD i default:=by
    have h1:=congrArg (λL=>L[i]?) pP;simp only[List.getElem?_map]at h1;rw[C,List.getElem?_append_right om,I,Nat.sub_self,List.getElem?_drop,Nat.add_zero,FD]at h1;exact Option.some.inj h1
   have O:=fM _ (cn QY);have DL:=hp i QY;have yR:R.getD i default∈R:=cn MC;have Z:∀ q,q<i->(R.getD q default).1=(cw (oT l) (l.take i)).getD q default:=λq Y=>by
    have h1:=congrArg (λL=>L[q]?) pP;simp only[List.getElem?_map]at h1;rw[gE om,List.getElem?_append_left om]at h1;rw[gD,gD,<- h1,gE om];rfl
   rw[<- nT]at O DL FD;have hvi:(bz a.length λj=>.int .i64 (under l (j:Int):Int))[i]? = some (.int .i64 (under l (i:Int):Int)):=cQ cy;have H:b.n≠J:=λe=>by
    have h4:=ff.sg.lt (aI.2 rfl:aQ (.aE J 0 a.length 7) J);omega
   have T:=eY bY C (k:=1) (v:=.int .i64 (R.getD i default).1.par) rfl u;clear nT;generalize R.getD i default=r at *;obtain⟨g,d⟩:=r;simp only at O DL FD T;generalize hDE:cw (oT l) (l.take i)=D at *;have p:=Bx.mk (And.intro y (And.intro E ho));clear y E ho;repeat' (first|refine aG (aj @eF @T) ?_|(first|apply ah|apply af)<;>intro h)
   refine lQ (λe' s'=>(s'.n=s.n/\s'.get J=some (.cells .mut (dm grow (R.set i ({ g with gone:=jb D g },d))++rest))/\∀ id,id≠J->s'.get id=s.get id)/\e'.at 0 = .aE J 0 a.length 7/\e'.at 2 = .aE b.n 0 a.length 1/\e'.at 32 = .aE J 0 a.length 7/\e'.at 33 = .int .i64 (a.length:Int)/\e'.at 34 = .int .i64 (i:Int)/\e'.at 5 = .int .i64 (i:Int)/\e'.at 6 = .aO J (i*7)) ?_ ?_
   ·by_cases vm:0<=g.par
    ·obtain⟨q,Y⟩:∃ q:Nat,g.par=(q:Int):=⟨g.par.toNat,by omega⟩;have SF:(q:Int)<(a.length:Int):=by omega
     have hrq:R[q]? = some (R.getD q default):=by rw[gD,gE om];rfl
     have MF:jb D g=(g.gone || ((R.getD q default).1.bO || (R.getD q default).1.gone)):=by
      unfold jb;rw[Z q om,Y,Int.toNat_natCast];simp
     have Zt:=eY bY hrq (k:=5) (v:=.bool (R.getD q default).1.bO) rfl u;have Zr:=eY bY hrq (k:=6) (v:=.bool (R.getD q default).1.gone) rfl u;rw[Y]at T;clear Z;generalize (R.getD q default).1.bO=bg at *;generalize (R.getD q default).1.gone=bn at *;cases bg with
     | true=>
       repeat' (first|refine aG (aj @eF (aj @T (aj @Zt @Zr))) ?_|(first|apply ah|apply af)<;>intro h)
       refine dJ bY (i:=i) (k:=6) (c:=(g,d)) (c':=({ g with gone:=jb D g },d)) (rest:=rest) (v:=.bool true) ef rfl ef rfl u C (by decide) (by rw[MF];simp[grow]) (λs4 od nY A=>?_);have t:=Bx.mk (And.intro od (And.intro nY A));clear od nY A u;repeat' (first|refine aG trivial ?_|(first|apply ah|apply af)<;>intro h)
       exact⟨t.out,ef,ef,ef,ef,ef,ef,ef⟩
     | false=>
       cases bn with
       | true=>
         repeat' (first|refine aG (aj @eF (aj @T (aj @Zt @Zr))) ?_|(first|apply ah|apply af)<;>intro h)
         refine dJ bY (i:=i) (k:=6) (c:=(g,d)) (c':=({ g with gone:=jb D g },d)) (rest:=rest) (v:=.bool true) ef rfl ef rfl u C (by decide) (by rw[MF];simp[grow]) (λs4 od nY A=>?_);have t:=Bx.mk (And.intro od (And.intro nY A));clear od nY A u;repeat' (first|refine aG trivial ?_|(first|apply ah|apply af)<;>intro h)
         exact⟨t.out,ef,ef,ef,ef,ef,ef,ef⟩
       | false=>
         have g9:R.set i ({ g with gone:=jb D g },d)=R:=by
          rw[MF,Bool.or_false,Bool.or_false];exact x6 C
         have t:Bx (s.get J=some (.cells .mut (dm grow (R.set i ({ g with gone:=jb D g },d))++rest))):=⟨by rw[g9];exact u⟩;clear u;repeat' (first|refine aG (aj @eF (aj @T (aj @Zt @Zr))) ?_|(first|apply ah|apply af)<;>intro h)
         exact⟨⟨trivial,t.out,λ_ _=>trivial⟩,ef,ef,ef,ef,ef,ef,ef⟩
    ·have g9:R.set i ({ g with gone:=jb D g },d)=R:=by
      have:jb D g=g.gone:=by
       unfold jb;rw[decide_eq_false vm];simp
      rw[this];exact x6 C
     have t:Bx (s.get J=some (.cells .mut (dm grow (R.set i ({ g with gone:=jb D g },d))++rest))):=⟨by rw[g9];exact u⟩;clear u Z;repeat' (first|refine aG (aj @eF @T) ?_|(first|apply ah|apply af)<;>intro h)
     exact⟨⟨trivial,t.out,λ_ _=>trivial⟩,ef,ef,ef,ef,ef,ef,ef⟩
   ·clear B F NW NV e34 T;clear e;rintro e s1 ⟨⟨od,K,A⟩,B,F,NW,NV,e34,e5,e6⟩;have hG4:=p.out.1.flag Ak C (g':={ g with gone:=jb D g }) rfl rfl K od A;have Ai:=(A _ H).trans p.out.2.1;have Im:(R.set i ({ g with gone:=jb D g },d))[i]? = some ({ g with gone:=jb D g },d):=by rw[List.getElem?_set_self MC]
    have KH:=eY bY Im (k:=3) (v:=.aR d.2) rfl K;have BS:=eY bY Im (k:=6) (v:=.bool (jb D g)) rfl K;have X:=hG4.ms (r:=({ g with gone:=jb D g },d)) (List.mem_of_getElem? Im);have iO:∀ s',s'.n=s1.n->s'.get J=some (.cells .mut (dm grow ((R.set i ({ g with gone:=jb D g },d)).set i (oT l D g,d))++rest))->(∀ id,id≠J->s'.get id=s1.get id)->GS s' w (.aE J 0 a.length 7) (R.set i (oT l D g,d))/\(R.set i (oT l D g,d)).map (·.1)=cw (oT l) (l.take (i+1))++l.drop (i+1)/\s'.get b.n=some (.cells .mut (bz a.length λj=>.int .i64 (under l (j:Int):Int)))/\∀ id,id<w->s'.get id=b.get id:=λs' h1 h2 h3=>by
     have Vz:=hG4.flag (by rw[List.length_set];exact Ak) Im (g':=oT l D g) rfl rfl h2 h1 h3;rw[List.set_set]at Vz;refine⟨Vz,?_,(h3 _ H).trans Ai,λid N=>?_⟩
     ·subst hDE;rw[List.map_set,pP,drop_set _ _ i _ g I FD,List.take_add_one,FD,Option.toList_some,tM]
     ·have hJl:=Vz.low.1 J (aI.2 rfl);rw[h3 id om,A id om];exact p.out.2.2 id N
    have hcN:oT l D g = { g with gone:=jb D g,bO:=!jb D g && decide (under l (i:Int)=g.kept.length) } := by unfold oT;rw[I]
    have t:=Bx.mk (And.intro iO hcN);clear iO hcN p hG4 A u;cases SQ:jb D g with
    | true=>
      rw[SQ]at BS;have SZ:=Bx.mk SQ;clear SQ;repeat' (first|refine aG @BS ?_|(first|apply ah|apply af)<;>intro h)
      refine dJ bY (i:=i) (k:=5) (c:=({ g with gone:=jb D g },d)) (c':=(oT l D g,d)) (rest:=rest) (v:=.bool false) ef rfl ef rfl K Im (by decide) (by rw[t.out.2,SZ.out];simp[grow]) (λs5 vI U V=>?_);have x:=Bx.mk (t.out.1 s5 vI U V);clear U V t K KH BS Ai X;repeat' (first|refine aG @dO ?_|(first|apply ah|apply af)<;>intro h)
      refine⟨a.length - (i+1),by omega,i+1,_,rfl,by omega,by omega,x.out.1,x.out.2.1,x.out.2.2.1,x.out.2.2.2,?_⟩;simp only[lk,dM,Nat.reduceEqDiff,if_false,if_true,dO,B,F,NW,NV,and_self]
    | false=>
      rw[SQ]at BS;have SZ:=Bx.mk SQ;clear SQ;repeat' (first|refine aG (aj @eF (aj @KH (aj @BS (aj @Ai @hvi)))) ?_|(first|apply ah|apply af)<;>intro h)
      refine ud X O.1 (wG ef) ef ?_;simp only;repeat' (first|refine aG trivial ?_|(first|apply ah|apply af)<;>intro h)
      ·refine dJ bY (i:=i) (k:=5) (c:=({ g with gone:=jb D g },d)) (c':=(oT l D g,d)) (rest:=rest) (v:=.bool false) ef rfl ef rfl K Im (by decide) (by rw[t.out.2,SZ.out,decide_eq_false om];simp[grow]) (λs5 vI U V=>?_);have x:=Bx.mk (t.out.1 s5 vI U V);clear U V t K KH BS Ai X;repeat' (first|refine aG @dO ?_|(first|apply ah|apply af)<;>intro h)
       refine⟨a.length - (i+1),by omega,i+1,_,rfl,by omega,by omega,x.out.1,x.out.2.1,x.out.2.2.1,x.out.2.2.2,?_⟩;simp only[lk,dM,Nat.reduceEqDiff,if_false,if_true,dO,B,F,NW,NV,and_self]
      ·refine dJ bY (i:=i) (k:=5) (c:=({ g with gone:=jb D g },d)) (c':=(oT l D g,d)) (rest:=rest) (v:=.bool true) ef rfl ef rfl K Im (by decide) (by rw[t.out.2,SZ.out,decide_eq_true om];simp[grow]) (λs5 vI U V=>?_);have x:=Bx.mk (t.out.1 s5 vI U V);clear U V t K KH BS Ai X;repeat' (first|refine aG @dO ?_|(first|apply ah|apply af)<;>intro h)
       refine⟨a.length - (i+1),by omega,i+1,_,rfl,by omega,by omega,x.out.1,x.out.2.1,x.out.2.2.1,x.out.2.2.2,?_⟩;simp only[lk,dM,Nat.reduceEqDiff,if_false,if_true,dO,B,F,NW,NV,and_self]
  ·have eU:i=a.length:=by omega
   subst eU;rw[<- hl,List.take_length,List.drop_length,List.append_nil]at pP;have p:=Bx.mk (And.intro y ho);clear y ho E;repeat' (first|refine aG trivial ?_|(first|apply ah|apply af)<;>intro h)
   exact⟨.inl trivial,R,p.out.1,pP,by omega,p.out.2⟩
end Go.Proofs.YtkbiecjdcjfhaaaGreat
end
