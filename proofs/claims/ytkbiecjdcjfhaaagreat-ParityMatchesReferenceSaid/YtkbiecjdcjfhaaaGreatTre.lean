/- Trees of sets of states, and how a letter turns them: what package tree computes, in plain lists. -/
import Derived.Test.YtkbiecjdcjfhaaaGreatOm
set_option linter.unusedSimpArgs false
set_option linter.unusedVariables false
set_option maxRecDepth 100000
set_option maxHeartbeats 16000000
section
namespace Go.pR
structure Nd where
  name:Int
  par:Int
  set:List Int
deriving DecidableEq,Inhabited
def below (t:List Nd) (j:Int):List Int:=(t.filter λn=>decide (n.par=j)).flatMap (·.set)
theorem gT (a b:List Nd) (j:Int):below (a++b) j=below a j++below b j:=by simp[below]
theorem jy (n:Nd) (j:Int):below [n] j=if n.par=j then n.set else []:=by
 by_cases h:n.par=j<;>simp[below,h]
structure NdOk (N:Nat) (d:List Nd) (n:Nd):Prop where
  root:d.length=0->n.par = -1
  par:0<d.length->0<=n.par/\n.par<d.length
  name:1<=n.name/\n.name<=2*N/\n.name ∉ d.map (·.name)
  ne:n.set≠[]
  tQ:∀ x∈n.set,0<=x/\x<N
  inc:n.set.Pairwise (· < ·)
  sub:0<d.length->∀ x∈n.set,x∈(d.getD n.par.toNat default).set/\x ∉ below d n.par
def Ok (N:Nat) (t:List Nd):Prop:=∀ i,i<t.length->NdOk N (t.take i) (t.getD i default)
def Tr (N:Nat) (t:List Nd):Prop:=Ok N t/\∀ i,i<t.length->(below t (i:Int)).length≠(t.getD i default).set.length
theorem getD_take {α:Type}{l:List α}{d:α}{i j:Nat}(h:i<j):(l.take j).getD i d=l.getD i d:=by
 simp[gD,h]
theorem take_one {α:Type}(l:List α) (d:α) {k:Nat}(h:k<l.length):l.take (k+1)=l.take k++[l.getD k d]:=by
 rw[List.take_add_one,gD,gE h];rfl
theorem Ok.snoc {N:Nat}{d:List Nd}{n:Nd}(h:Ok N d) (k:NdOk N d n):Ok N (d++[n]):=by
 intro i a;rw[List.length_append,List.length_singleton]at a;by_cases e:i<d.length
 ·have h1:=h i e;rw[List.take_append_of_le_length om];have:(d++[n]).getD i default=d.getD i default:=by simp[gD,List.getElem?_append_left e]
  rw[this];exact h1
 ·have e:i=d.length:=by omega
  subst e;have:(d++[n]).getD d.length default=n:=by simp[gD]
  rw[this,List.take_append_of_le_length (Nat.le_refl _),List.take_length];exact k
theorem Ok.nodup {N:Nat}{t:List Nd}(h:Ok N t) (j:Int) (c:0<=j):(below t j).Nodup:=by
 have key:∀ k,k<=t.length->(below (t.take k) j).Nodup:=by
  intro k;induction k with
  | zero=>intro _;simp[below]
  | succ k ih=>
    intro d;rw[take_one t default om,gT,jy];have h1:=h k om;split
    ·rename_i a;have hl:(t.take k).length=k:=by rw[List.length_take];omega
     have h0:0<(t.take k).length:=by
      rcases Nat.eq_zero_or_pos (t.take k).length with e | e
      ·have:=h1.root e;omega
      ·exact e
     refine List.nodup_append.2 ⟨ih om,h1.inc.imp λh=>by omega,λx hx y b e=>?_⟩;subst e;have:=(h1.sub h0 x b).2;rw[a]at this;exact this hx
    ·rw[List.append_nil];exact ih om
 have:=key t.length (Nat.le_refl _);rwa[List.take_length]at this
theorem Ok.B9 {N:Nat}{t:List Nd}(h:Ok N t) {i:Nat}(f:i<t.length) {x:Int}(hx:x∈below t (i:Int)):x∈(t.getD i default).set:=by
 unfold below at hx;obtain⟨n,a,hx⟩:=List.mem_flatMap.1 hx;obtain⟨a,d⟩:=List.mem_filter.1 a;obtain⟨k,c,rfl⟩:=List.getElem_of_mem a;have h1:=h k c;have e:t.getD k default=t[k]:=by simp[gD,c]
 rw[e]at h1;have hl:(t.take k).length=k:=by rw[List.length_take];omega
 have b:t[k].par=(i:Int):=by simpa using d
 have h0:0<(t.take k).length:=by
  rcases Nat.eq_zero_or_pos (t.take k).length with e | e
  ·have:=h1.root e;omega
  ·exact e
 have h2:=(h1.par h0).2;have:=(h1.sub h0 x hx).1;rw[b,hl] at *;rwa[getD_take om,Int.toNat_natCast]at this
structure Gn where
  name:Int
  par:Int
  set:List Int
  kept:List Int
  old:Bool
  bO:Bool
  gone:Bool
deriving Inhabited
def canon (N:Nat) (K:List Int):List Int:=((List.range N).map λ(n:Nat)=>(n:Int)).filter λx=>decide (x∈K)
theorem nO {N:Nat}{K:List Int}{x:Int} : x∈canon N K↔x∈K/\0<=x/\x<N:=by
 unfold canon;rw[List.mem_filter,List.mem_map];constructor
 ·rintro⟨⟨n,a,rfl⟩,h⟩;have:=List.mem_range.1 a;exact⟨by simpa using h,by omega,by omega⟩
 ·rintro⟨h1,h2,h3⟩;exact⟨⟨x.toNat,List.mem_range.2 om,by omega⟩,by simpa using h1⟩
theorem LG (N:Nat):((List.range N).map λ(n:Nat)=>(n:Int)).Pairwise (· < ·):=by
 rw[List.pairwise_map];exact List.pairwise_lt_range.imp λh=>by omega
theorem rX (N:Nat) (K:List Int):(canon N K).Pairwise (· < ·):=(LG N).filter _
theorem lq (N:Nat) (K:List Int):(canon N K).length<=N:=by
 have h:=List.length_filter_le (λx=>decide (x∈K)) ((List.range N).map λ(n:Nat)=>(n:Int));simpa[canon] using h
theorem Ku:∀ {a b:List Int},a.Pairwise (· < ·)->b.Pairwise (· < ·)->(∀ x,x∈a↔x∈b)->a=b
 | [],[],_,_,_=>rfl
 | [],y::b,_,_,h=>absurd ((h y).2 (by simp)) (by simp)
 | x::a,[],_,_,h=>absurd ((h x).1 (by simp)) (by simp)
 | x :: a, y :: b, c, d, h => by
   rw[List.pairwise_cons]at c d;have e:x=y:=by
    have h1:=(h x).1 (by simp);have h2:=(h y).2 (by simp);rcases List.mem_cons.1 h1 with e | h1
    ·exact e
    ·rcases List.mem_cons.1 h2 with e | h2
     ·exact e.symm
     ·have:=c.1 y h2;have:=d.1 x h1;omega
   subst e;congr 1;refine Ku c.2 d.2 λz=>?_;have f:=h z;simp only[List.mem_cons]at f;constructor
   ·intro hm;rcases f.1 (.inr hm) with e | e
    ·have:=c.1 z hm;omega
    ·exact e
   ·intro hm;rcases f.2 (.inr hm) with e | e
    ·have:=d.1 z hm;omega
    ·exact e
abbrev Mv:=List (Int × Bool)
def vz (mv:Nat->Mv) (set:List Int) (p:Int × Bool->Bool):List Int:=set.flatMap λx=>((mv x.toNat).filter p).map (·.1)
def uI (N:Nat) (mv:Nat->Mv) (n:Nd):Gn:=⟨n.name,n.par,n.set,canon N (vz mv n.set λ_=>true),true,false,false⟩
def rf (N:Nat) (mv:Nat->Mv) (i:Nat) (n:Nd):Gn:=⟨0,i,[],canon N (vz mv n.set λm=>m.2),false,false,false⟩
def grown (N:Nat) (mv:Nat->Mv) (t:List Nd):List Gn:=t.map (uI N mv)++t.mapIdx λk n=>rf N mv k n
def fZ (d:List Gn) (j:Int):List Int:=(d.filter λn=>decide (n.par=j)).flatMap (·.kept)
theorem vQ (a b:List Gn) (j:Int):fZ (a++b) j=fZ a j++fZ b j:=by simp[fZ]
theorem D6 (n:Gn) (j:Int):fZ [n] j=if n.par=j then n.kept else []:=by
 by_cases h:n.par=j<;>simp[fZ,h]
def eW (d:List Gn) (n:Gn):List Int:=if 0<=n.par then n.kept.filter λx=>decide (x∈(d.getD n.par.toNat default).kept) && !decide (x∈fZ d n.par) else n.kept
def gX (d:List Gn) (n:Gn):Gn:={ n with kept:=eW d n,gone:=decide ((eW d n).length=0) }
def cw {α a:Type}(f:List a->α->a) (l:List α):List a:=l.foldl (λd n=>d++[f d n]) []
theorem tM {α a:Type}(f:List a->α->a) (l:List α) (x:α):cw f (l++[x])=cw f l++[f (cw f l) x]:=by simp[cw]
theorem cI {α a:Type}(f:List a->α->a) (l:List α):(cw f l).length=l.length:=by
 have h:∀ (l:List α) (d:List a),(l.foldl (λd n=>d++[f d n]) d).length=d.length+l.length:=by
  intro l;induction l with
  | nil=>intro d;simp
  | cons x l ih=>intro d;rw[List.foldl_cons,ih];simp;omega
 simpa[cw] using h l []
theorem MW {α a:Type}(f:List a->α->a) (l m:List α):∃ r,cw f (l++m)=cw f l++r/\r.length=m.length:=by
 have h:∀ (l:List α) (d:List a),∃ r,l.foldl (λd n=>d++[f d n]) d=d++r/\r.length=l.length:=by
  intro l;induction l with
  | nil=>intro d;exact⟨[],by simp,rfl⟩
  | cons x l ih=>
    intro d;obtain⟨r,h1,h2⟩:=ih (d++[f d x]);exact⟨f d x::r,by rw[List.foldl_cons,h1];simp,by simp[h2]⟩
 obtain⟨r,h1,h2⟩:=h m (cw f l);exact⟨r,by rw[<- h1];simp[cw,List.foldl_append],h2⟩
def aD (l:List Gn):List Gn:=cw gX l
def under (l:List Gn) (j:Int):Nat:=((l.filter λn=>decide (n.par=j)).map (·.kept.length)).sum
theorem tW (a b:List Gn) (j:Int):under (a++b) j=under a j+under b j:=by simp[under]
theorem A7 (n:Gn) (j:Int):under [n] j=if n.par=j then n.kept.length else 0:=by
 by_cases h:n.par=j<;>simp[under,h]
def jb (d:List Gn) (n:Gn):Bool:=n.gone || (decide (0<=n.par) && ((d.getD n.par.toNat default).bO || (d.getD n.par.toNat default).gone))
def oT (l:List Gn) (d:List Gn) (n:Gn):Gn:={ n with gone:=jb d n,bO:=!jb d n && decide (under l (d.length:Int)=n.kept.length) }
def aJ (l:List Gn):List Gn:=cw (oT l) l
def dV (used:List Int):Nat->Int->Int
 | 0,n=>n+1
 | f+1,n=>if n+1∈used then dV used f (n+1) else n+1
def dX (used:List Int) (f:Nat):Int->List Gn->List Gn
 | _,[]=>[]
 | n,x::l=>if x.old || x.gone then x::dX used f n l else { x with name:=dV used (f - n.toNat) n } :: dX used f (dV used (f - n.toNat) n) l
def dW (l:List Gn):List Int:=(l.filter (·.old)).map (·.name)
def named (f:Nat) (l:List Gn):List Gn:=dX (dW l) f 0 l
def place (l:List Gn) (i:Int):Int:=if 0<=i then (if (l.getD i.toNat default).gone then 0 else (((l.take i.toNat).filter λn=>!n.gone).length:Int)) else i
def leave (l:List Gn):List Nd:=(l.filter λn=>!n.gone).map λn=>⟨n.name,place l n.par,n.kept⟩
def cR (l:List Gn):List Int:=(l.filter λn=>!n.gone && n.bO).map (·.name)
def gd (l:List Gn):List Int:=(l.filter λn=>n.gone && n.old).map (·.name)
def cW (N:Nat) (mv:Nat->Mv) (t:List Nd):List Gn:=named (2*N) (aJ (aD (grown N mv t)))
def step (N:Nat) (mv:Nat->Mv) (t:List Nd):List Nd:=leave (cW N mv t)
def evG (N:Nat) (mv:Nat->Mv) (t:List Nd):List Int:=(cR (cW N mv t)).mergeSort λa b=>decide (a<=b)
def evB (N:Nat) (mv:Nat->Mv) (t:List Nd):List Int:=(gd (cW N mv t)).mergeSort λa b=>decide (a<=b)
theorem dz {α:Type}{a b:List α}{d:α}{i:Nat}(h:i<a.length):(a++b).getD i d=a.getD i d:=by
 simp[gD,List.getElem?_append_left h]
theorem bZ {α:Type}{a b:List α}{d:α}{i:Nat}(h:a.length<=i):(a++b).getD i d=b.getD (i - a.length) d:=by
 simp[gD,List.getElem?_append_right h]
theorem getD_map {α a:Type} [Inhabited α] [Inhabited a] {f:α->a}{l:List α}{i:Nat}(h:i<l.length):(l.map f).getD i default=f (l.getD i default):=by
 simp[gD,h]
theorem cF {α:Type} [Inhabited α] {l:List α}{x:α}(h:x∈l):∃ i,i<l.length/\l.getD i default=x:=by
 obtain⟨i,a,rfl⟩:=List.getElem_of_mem h;exact⟨i,a,by simp[gD,a]⟩
theorem fK {α:Type} [Inhabited α] {l:List α}{i:Nat}(h:i<l.length):l.getD i default∈l:=by
 rw[gD,gE h];exact List.getElem_mem h
theorem B3 {α a:Type} [Inhabited α] [Inhabited a] (f:List a->α->a) (l:List α) {i:Nat}(h:i<l.length):(cw f l).getD i default=f ((cw f l).take i) (l.getD i default):=by
 have e:l=l.take i++([l.getD i default]++l.drop (i+1)):=by
  rw[<- List.append_assoc,<- take_one l default h,List.take_append_drop]
 have hl:(l.take i).length=i:=by rw[List.length_take];omega
 obtain⟨r,h1,h2⟩:=MW f (l.take i++[l.getD i default]) (l.drop (i+1));rw[tM]at h1;have b:cw f l=cw f (l.take i)++[f (cw f (l.take i)) (l.getD i default)]++r:=by
  rw[<- h1,List.append_assoc,<- e]
 have c:(cw f (l.take i)).length=i:=by rw[cI,hl]
 have d:(cw f l).take i=cw f (l.take i):=by
  rw[b,List.append_assoc,List.take_append_of_le_length om,List.take_of_length_le om]
 rw[d,b,List.append_assoc,bZ om,c,Nat.sub_self];rfl
def Pw (l:List Gn):Prop:=∀ i,i<l.length->(i=0->(l.getD i default).par = -1)/\(0<i->0<=(l.getD i default).par/\(l.getD i default).par<i)
theorem qj {d:List Gn}{j x:Int} : x∈fZ d j↔∃ k,k<d.length/\(d.getD k default).par=j/\x∈(d.getD k default).kept:=by
 unfold fZ;rw[List.mem_flatMap];constructor
 ·rintro⟨n,a,hx⟩;obtain⟨a,b⟩:=List.mem_filter.1 a;obtain⟨k,c,rfl⟩:=cF a;exact⟨k,c,by simpa using b,hx⟩
 ·rintro⟨k,c,b,hx⟩;exact⟨_,List.mem_filter.2 ⟨fK c,by simpa using b⟩,hx⟩
section
variable {l:List Gn}
theorem bR:(aD l).length=l.length:=cI _ _
theorem kZ {i:Nat}(h:i<l.length):(aD l).getD i default=gX ((aD l).take i) (l.getD i default):=B3 _ _ h
theorem fY {i:Nat}(h:i<l.length):((aD l).getD i default).par=(l.getD i default).par:=by rw[kZ h];rfl
theorem rA {i:Nat}(h:i<l.length):((aD l).getD i default).name=(l.getD i default).name:=by rw[kZ h];rfl
theorem oO {i:Nat}(h:i<l.length):((aD l).getD i default).old=(l.getD i default).old:=by rw[kZ h];rfl
theorem div_pw (h:Pw l):Pw (aD l):=λi a=>by
 rw[bR]at a;rw[fY a];exact h i a
theorem R6 {i:Nat}(h:i<l.length):((aD l).getD i default).gone=true↔((aD l).getD i default).kept=[]:=by
 rw[kZ h];show decide ((eW _ _).length=0)=true↔eW _ _=[];rw[decide_eq_true_iff];exact List.length_eq_zero_iff
theorem R5 {i:Nat}(h:i<l.length) (a:(l.getD i default).par<0):((aD l).getD i default).kept=(l.getD i default).kept:=by
 rw[kZ h];show eW _ _=_;unfold eW;rw[if_neg om]
theorem oP {i:Nat}(h:i<l.length) (d:0<=(l.getD i default).par) (f:(l.getD i default).par<i) {x:Int} : x∈((aD l).getD i default).kept↔x∈(l.getD i default).kept/\x∈((aD l).getD (l.getD i default).par.toNat default).kept/\∀ k,k<i->(l.getD k default).par=(l.getD i default).par->x ∉ ((aD l).getD k default).kept:=by
 have e:((aD l).getD i default).kept=eW ((aD l).take i) (l.getD i default):=by rw[kZ h];rfl
 rw[e];unfold eW;rw[if_pos d,List.mem_filter,getD_take om];simp only[Bool.and_eq_true,Bool.not_eq_true',decide_eq_true_eq,decide_eq_false_iff_not];refine and_congr Iff.rfl (and_congr Iff.rfl ?_);rw[qj];constructor
 ·intro c k a b hx;refine c ⟨k,by rw[List.length_take,bR];omega,?_,?_⟩
  ·rw[getD_take a,fY om];exact b
  ·rw[getD_take a];exact hx
 ·rintro c ⟨k,a,b,hx⟩;rw[List.length_take,bR]at a;rw[getD_take om,fY om]at b;rw[getD_take om]at hx;exact c k om b hx
theorem KX (a:Pw l) {i:Nat}(h:i<l.length) {x:Int}(hx:x∈((aD l).getD i default).kept):x∈(l.getD i default).kept:=by
 have h1:=a i h;rcases Nat.eq_zero_or_pos i with e | e
 ·rw[R5 h (by have:=h1.1 e;omega)]at hx;exact hx
 ·exact ((oP h (h1.2 e).1 (h1.2 e).2).1 hx).1
theorem F9 (a:Pw l) {i k:Nat}(h:i<l.length) (b:k<l.length) (dB:i≠k) (h0:0<i) (c:(l.getD i default).par=(l.getD k default).par) {x:Int}(hx:x∈((aD l).getD i default).kept):x ∉ ((aD l).getD k default).kept:=by
 intro d;have h1:=a i h;have h2:=a k b;rcases Nat.lt_or_ge k i with e | e
 ·exact ((oP h (h1.2 h0).1 (h1.2 h0).2).1 hx).2.2 k e c.symm d
 ·exact ((oP b (h2.2 om).1 (h2.2 om).2).1 d).2.2 i om c hx
end
section
variable {l:List Gn}
theorem K1:(aJ l).length=l.length:=cI _ _
theorem rW {i:Nat}(h:i<l.length):(aJ l).getD i default=oT l ((aJ l).take i) (l.getD i default):=B3 _ _ h
theorem KZ {i:Nat}(h:i<l.length):((aJ l).getD i default).par=(l.getD i default).par:=by rw[rW h];rfl
theorem n7 {i:Nat}(h:i<l.length):((aJ l).getD i default).name=(l.getD i default).name:=by rw[rW h];rfl
theorem Gf {i:Nat}(h:i<l.length):((aJ l).getD i default).kept=(l.getD i default).kept:=by rw[rW h];rfl
theorem oS {i:Nat}(h:i<l.length):((aJ l).getD i default).old=(l.getD i default).old:=by rw[rW h];rfl
theorem Sb {i:Nat}(a:Pw l) (h:i<l.length):((aJ l).getD i default).gone=true↔(l.getD i default).gone=true∨(0<i/\(((aJ l).getD (l.getD i default).par.toNat default).bO=true∨((aJ l).getD (l.getD i default).par.toNat default).gone=true)):=by
 have h1:=a i h;rw[rW h];show jb _ _=true↔_;unfold jb;rw[Bool.or_eq_true,Bool.and_eq_true,Bool.or_eq_true,decide_eq_true_iff];refine or_congr Iff.rfl ?_;rcases Nat.eq_zero_or_pos i with e | e
 ·have:=h1.1 e;constructor
  ·rintro⟨h2,_⟩;omega
  ·rintro⟨h2,_⟩;omega
 ·have h2:=h1.2 e;rw[getD_take om];exact⟨λh=>⟨e,h.2⟩,λh=>⟨h2.1,h.2⟩⟩
theorem zI {i:Nat}(h:i<l.length):((aJ l).getD i default).bO=true↔((aJ l).getD i default).gone=false/\under l (i:Int)=(l.getD i default).kept.length:=by
 have hl:((aJ l).take i).length=i:=by rw[List.length_take,K1];omega
 rw[rW h];show (!jb _ _ && decide (under l (((aJ l).take i).length:Int)=_))=true↔jb _ _=false/\_;rw[hl,Bool.and_eq_true,decide_eq_true_iff,Bool.not_eq_true']
end
theorem vp (l:List Gn) (j:Int):under l j=(fZ l j).length:=by
 unfold under fZ;rw[List.length_flatMap]
theorem gn {α:Type} [DecidableEq α]:∀ {a b:List α},a.Nodup->(∀ x∈a,x∈b)->a.length<=b.length
 | [],b,_,_=>Nat.zero_le _
 | x::a,b,h,hs=>by
   rw[List.nodup_cons]at h;have hx:=hs x (by simp);have h1:=gn (a:=a) (b:=b.erase x) h.2 λy c=>(List.mem_erase_of_ne (λ(e:y=x)=>h.1 (by rw[<- e];exact c))).2 (hs y (by simp[c]));rw[List.length_erase_of_mem hx]at h1;have:=List.length_pos_of_mem hx;simp only[List.length_cons];omega
theorem BB {α:Type} [DecidableEq α] {a b:List α}(h:a.Nodup) (hs:∀ x∈a,x∈b) (hl:b.length<=a.length) {x:α}(hx:x∈b):x∈a:=by
 refine Decidable.byContradiction λd=>?_;have:=gn (a:=x::a) (b:=b) (List.nodup_cons.2 ⟨d,h⟩) λy c=>by
  rcases List.mem_cons.1 c with rfl | c
  ·exact hx
  ·exact hs y c
 simp only[List.length_cons]at this;omega
section
variable {l:List Gn}
theorem IV {d:List Gn}{n:Gn}(h:n.kept.Nodup):(eW d n).Nodup:=by
 unfold eW;split
 ·exact h.filter _
 ·exact h
theorem B7 (a:∀ i,i<l.length->(l.getD i default).kept.Nodup) {i:Nat}(h:i<l.length):((aD l).getD i default).kept.Nodup:=by
 rw[kZ h];exact IV (a i h)
theorem xZ (b:Pw l) (d:∀ i,i<l.length->(l.getD i default).kept.Nodup) {j:Nat} : (fZ (aD l) (j:Int)).Nodup:=by
 have key:∀ k,k<=(aD l).length->(fZ ((aD l).take k) (j:Int)).Nodup:=by
  intro k;induction k with
  | zero=>intro _;simp[fZ]
  | succ k ih=>
    intro f;rw[bR]at f;rw[take_one (aD l) default (by rw[bR];omega),vQ,D6];split
    ·rename_i c;rw[fY om]at c;refine List.nodup_append.2 ⟨ih (by rw[bR];omega),B7 d om,λx hx y g e=>?_⟩;subst e;obtain⟨a,h1,h2,h3⟩:=qj.1 hx;rw[List.length_take,bR]at h1;rw[getD_take om,fY om]at h2;rw[getD_take om]at h3;have h0:0<k:=by
      rcases Nat.eq_zero_or_pos k with e | e
      ·have:=(b k om).1 e;omega
      ·exact e
     exact F9 b om om (show k≠a by omega) h0 (by rw[c,h2]) g h3
    ·rw[List.append_nil];exact ih (by rw[bR];omega)
 have:=key (aD l).length (Nat.le_refl _);rwa[List.take_length]at this
theorem D5 (c:Pw l) {j:Nat}(d:j<l.length) {x:Int}(hx:x∈fZ (aD l) (j:Int)):x∈((aD l).getD j default).kept:=by
 obtain⟨k,h1,h2,h3⟩:=qj.1 hx;rw[bR]at h1;rw[fY h1]at h2;have a:=c k h1;have h0:0<k:=by
  rcases Nat.eq_zero_or_pos k with e | e
  ·have:=a.1 e;omega
  ·exact e
 have b:=((oP h1 (a.2 h0).1 (a.2 h0).2).1 h3).2.1;rw[h2]at b;exact b
theorem RL (d:Pw l) (f:∀ i,i<l.length->(l.getD i default).kept.Nodup) {i:Nat}(h:i<l.length):under (aD l) (i:Int)=((aD l).getD i default).kept.length↔∀ x∈((aD l).getD i default).kept,∃ k,k<l.length/\(l.getD k default).par=(i:Int)/\x∈((aD l).getD k default).kept:=by
 rw[vp];have h1:=xZ d f (j:=i);have h2:∀ x∈fZ (aD l) (i:Int),x∈((aD l).getD i default).kept:=λx=>D5 d h;have h3:∀ x,x∈fZ (aD l) (i:Int)↔∃ k,k<l.length/\(l.getD k default).par=(i:Int)/\x∈((aD l).getD k default).kept:=λx=>by
  rw[qj];constructor
  ·rintro⟨k,a,b,c⟩;rw[bR]at a;rw[fY a]at b;exact⟨k,a,b,c⟩
  ·rintro⟨k,a,b,c⟩;exact⟨k,by rw[bR];exact a,by rw[fY a];exact b,c⟩
 constructor
 ·intro e x hx;exact (h3 x).1 (BB h1 h2 om hx)
 ·intro g;refine Nat.le_antisymm (gn h1 h2) (gn (B7 f h) λx hx=>(h3 x).2 (g x hx))
end
structure Gr (N:Nat) (l:List Gn):Prop where
  pw:Pw l
  inc:∀ i,i<l.length->(l.getD i default).kept.Pairwise (· < ·)
  tQ:∀ i,i<l.length->∀ x∈(l.getD i default).kept,0<=x/\x<N
section
variable {N:Nat}{l:List Gn}
theorem Gr.nd (h:Gr N l):∀ i,i<l.length->(l.getD i default).kept.Nodup:=λi a=>(h.inc i a).imp λh=>by omega
def Al (l:List Gn) (i:Nat):Prop:=i<l.length/\((aJ (aD l)).getD i default).gone=false
theorem gJ:(aJ (aD l)).length=l.length:=by rw[K1,bR]
theorem cd_par {i:Nat}(h:i<l.length):((aJ (aD l)).getD i default).par=(l.getD i default).par:=by rw[KZ (by rw[bR];exact h),fY h]
theorem VP {i:Nat}(h:i<l.length):((aJ (aD l)).getD i default).kept=((aD l).getD i default).kept:=Gf (by rw[bR];exact h)
theorem xO (a:Gr N l) {i:Nat}(h:i<l.length):((aJ (aD l)).getD i default).gone=true↔((aD l).getD i default).kept=[]∨(0<i/\(((aJ (aD l)).getD (l.getD i default).par.toNat default).bO=true∨((aJ (aD l)).getD (l.getD i default).par.toNat default).gone=true)):=by
 rw[Sb (div_pw a.pw) (by rw[bR];exact h),R6 h,fY h]
theorem Dq (a:Gr N l) {i:Nat}(h:i<l.length):((aJ (aD l)).getD i default).bO=true↔((aJ (aD l)).getD i default).gone=false/\∀ x∈((aD l).getD i default).kept,∃ k,k<l.length/\(l.getD k default).par=(i:Int)/\x∈((aD l).getD k default).kept:=by
 rw[zI (by rw[bR];exact h),RL a.pw a.nd h]
theorem Al.ne (a:Gr N l) {i:Nat}(h:Al l i):((aD l).getD i default).kept≠[]:=λe=>by
 have:=(xO a h.1).2 (.inl e);rw[h.2]at this;cases this
theorem Al.par (a:Gr N l) {i:Nat}(h:Al l i) (h0:0<i):Al l (l.getD i default).par.toNat/\((aJ (aD l)).getD (l.getD i default).par.toNat default).bO=false/\(l.getD i default).par.toNat<i/\((l.getD i default).par.toNat:Int)=(l.getD i default).par:=by
 have h1:=(a.pw i h.1).2 h0;have b:¬ (((aJ (aD l)).getD (l.getD i default).par.toNat default).bO=true∨((aJ (aD l)).getD (l.getD i default).par.toNat default).gone=true):=λe=>by
  have:=(xO a h.1).2 (.inr ⟨h0,e⟩);rw[h.2]at this;cases this
 have c:=h.1;refine⟨⟨by omega,?_⟩,?_,by omega,by omega⟩
 ·cases e:((aJ (aD l)).getD (l.getD i default).par.toNat default).gone with
  | false=>rfl
  | true=>exact absurd (.inr e) b
 ·cases e:((aJ (aD l)).getD (l.getD i default).par.toNat default).bO with
  | false=>rfl
  | true=>exact absurd (.inl e) b
theorem lam (e:Gr N l) {x:Int} : ∀ n i j,j<=n->i<j->Al l i->Al l j->x∈((aD l).getD i default).kept->x∈((aD l).getD j default).kept->∃ c,c<=j/\0<c/\Al l c/\(l.getD c default).par=(i:Int)/\x∈((aD l).getD c default).kept:=by
 intro n;induction n with
 | zero=>intro i j h1 h2;omega
 | succ n ih=>
   intro i j s p f a g b;obtain⟨k,q,r,d⟩:=a.par e om;have m:=(e.pw j a.1).2 om;have o:=((oP a.1 m.1 m.2).1 b).2.1;rcases Nat.lt_trichotomy (l.getD j default).par.toNat i with h | h | h
   ·obtain⟨c,c1,c2,c3,c4,c5⟩:=ih _ i om h k f o g;exact absurd c5 (F9 e.pw a.1 c3.1 om om (by rw[c4,d]) b)
   ·exact⟨j,Nat.le_refl _,by omega,a,by rw[<- d,h],b⟩
   ·obtain⟨c,c1,c2⟩:=ih i _ om h f k g o;exact⟨c,by omega,c2⟩
theorem own (a:Gr N l) {i:Nat}(h:Al l i):∃ x∈((aD l).getD i default).kept,∀ c,Al l c->(l.getD c default).par=(i:Int)->x ∉ ((aD l).getD c default).kept:=by
 cases e:((aJ (aD l)).getD i default).bO with
 | true=>
   obtain⟨x,hx⟩:=List.exists_mem_of_ne_nil _ (h.ne a);refine⟨x,hx,λc b d=>?_⟩;have h0:0<c:=by
    rcases Nat.eq_zero_or_pos c with e | e
    ·have:=(a.pw c b.1).1 e;omega
    ·exact e
   have:=(b.par a h0).2.1;rw[d,Int.toNat_natCast,e]at this;cases this
 | false=>
   refine Classical.byContradiction λf=>?_;have:((aJ (aD l)).getD i default).bO=true:=(Dq a h.1).2 ⟨h.2,λx hx=>Classical.byContradiction λg=>f ⟨x,hx,λc b d j=>g ⟨c,b.1,d,j⟩⟩⟩;rw[e]at this;cases this
theorem Gt (g:Gr N l):((List.range l.length).filter λi=>!((aJ (aD l)).getD i default).gone).length<=N:=by
 have hm:∀ i∈(List.range l.length).filter (λi=>!((aJ (aD l)).getD i default).gone),Al l i:=λi d=>by
  obtain⟨h1,h2⟩:=List.mem_filter.1 d;exact⟨List.mem_range.1 h1,by simpa using h2⟩
 have p:((List.range l.length).filter λi=>!((aJ (aD l)).getD i default).gone).Nodup:=List.nodup_range.filter _;generalize (List.range l.length).filter (λi=>!((aJ (aD l)).getD i default).gone)=j at *;have q:∃ f:Nat->Int,∀ i∈j,f i∈((aD l).getD i default).kept/\∀ c,Al l c->(l.getD c default).par=(i:Int)->f i ∉ ((aD l).getD c default).kept:=by
  have h1:∀ i,∃ x:Int,i∈j->x∈((aD l).getD i default).kept/\∀ c,Al l c->(l.getD c default).par=(i:Int)->x ∉ ((aD l).getD c default).kept:=λi=>by
   by_cases d:i∈j
   ·obtain⟨x,hx⟩:=own g (hm i d);exact⟨x,λ_=>hx⟩
   ·exact⟨0,λh=>absurd h d⟩
  exact⟨λi=>(h1 i).choose,λi d=>(h1 i).choose_spec d⟩
 obtain⟨f,k⟩:=q;have r:(j.map f).Nodup:=by
  rw[List.nodup_iff_pairwise_ne,List.pairwise_map];refine (List.nodup_iff_pairwise_ne.1 p).imp_of_mem fun {a b} m o dB e=>?_;have h1:=k a m;have h2:=k b o;rcases Nat.lt_or_ge a b with h | h
  ·obtain⟨c,c1,c2,c3,c4,c5⟩:=lam g b a b (Nat.le_refl _) h (hm a m) (hm b o) h1.1 (e ▸ h2.1);exact h1.2 c c3 c4 c5
  ·obtain⟨c,c1,c2,c3,c4,c5⟩:=lam g a b a (Nat.le_refl _) om (hm b o) (hm a m) h2.1 (e ▸ h1.1);exact h2.2 c c3 c4 c5
 have:=gn (b:=(List.range N).map λ(n:Nat)=>(n:Int)) r λx hx=>by
  obtain⟨i,d,rfl⟩:=List.mem_map.1 hx;have h1:=hm i d;have h2:=g.tQ i h1.1 _ (KX g.pw h1.1 (k i d).1);exact List.mem_map.2 ⟨(f i).toNat,List.mem_range.2 om,by omega⟩
 simpa using this
end
def fr (U:List Int):Nat->Int->Nat
 | 0,_=>0
 | k+1,n=>(if n+1∈U then 0 else 1)+fr U k (n+1)
theorem RN (U : List Int) : ∀ (k : Nat) (n : Int), k <= fr U k n + (U.filter λx => decide (n < x)).length
 | 0,n=>Nat.zero_le _
 | k + 1, n => by
   have ih:=RN U k (n+1);unfold fr;by_cases h:n+1∈U
   ·rw[if_pos h];have h1 : ((U.filter λx => decide (n + 1 < x)).length) + 1 <= (U.filter λx => decide (n < x)).length := by
     have : ∀ (l : List Int), n + 1 ∈ l -> (l.filter λx => decide (n + 1 < x)).length + 1 <= (l.filter λx => decide (n < x)).length := by
      intro l;induction l with
      | nil=>intro h;cases h
      | cons y l c=>
        intro h;have d:∀ (l:List Int),(l.filter λx=>decide (n+1<x)).length<=(l.filter λx=>decide (n<x)).length:=by
         intro l;induction l with
         | nil=>simp
         | cons y l b=>
           rw[List.filter_cons,List.filter_cons];by_cases a:n+1<y
           ·rw[if_pos (by simpa using a),if_pos (by simp;omega)];simp;omega
           ·rw[if_neg (by simpa using a)];split
            ·simp;omega
            ·exact b
        rw[List.filter_cons,List.filter_cons];by_cases e:y=n+1
        ·subst e;rw[if_neg (by simp),if_pos (by simp;omega)];have:=d l;simp only[List.length_cons];omega
        ·have h2:n+1∈l:=by
          rcases List.mem_cons.1 h with f | h2
          ·exact absurd f.symm e
          ·exact h2
         have h3:=c h2;by_cases a:n+1<y
         ·rw[if_pos (by simpa using a),if_pos (by simp;omega)];simp only[List.length_cons];omega
         ·rw[if_neg (by simpa using a),if_neg (by simp;omega)];exact h3
     exact this U h
    omega
   ·rw[if_neg h];have h1 : (U.filter λx => decide (n + 1 < x)).length <= (U.filter λx => decide (n < x)).length := by
     have:∀ (l:List Int),(l.filter λx=>decide (n+1<x)).length<=(l.filter λx=>decide (n<x)).length:=by
      intro l;induction l with
      | nil=>simp
      | cons y l b=>
        rw[List.filter_cons,List.filter_cons];by_cases a:n+1<y
        ·rw[if_pos (by simpa using a),if_pos (by simp;omega)];simp;omega
        ·rw[if_neg (by simpa using a)];split
         ·simp;omega
         ·exact b
     exact this U
    omega
theorem PA (U:List Int):∀ (k:Nat) (n:Int),1<=fr U k n->dV U k n ∉ U/\n<dV U k n/\dV U k n<=n+k/\fr U (k - (dV U k n - n).toNat) (dV U k n)+1=fr U k n
 | 0,n,h=>by simp[fr]at h
 | k + 1, n, h => by
   unfold fr at h;unfold dV;by_cases a:n+1∈U
   ·rw[if_pos a]at h ⊢;obtain⟨h1,h2,h3,b⟩:=PA U k (n+1) om;refine⟨h1,by omega,by omega,?_⟩;have e:fr U (k+1) n=fr U k (n+1):=by
     show (if n+1∈U then 0 else 1)+fr U k (n+1)=_;rw[if_pos a];omega
    rw[e,<- b];congr 2;omega
   ·rw[if_neg a]at h ⊢;refine⟨a,by omega,by omega,?_⟩;have e:fr U (k+1) n=1+fr U k (n+1):=by
     show (if n+1∈U then 0 else 1)+fr U k (n+1)=_;rw[if_neg a]
    rw[e];have:k+1 - (n+1 - n).toNat=k:=by omega
    rw[this];omega
theorem uj (U:List Int) (f:Nat):∀ (l:List Gn) (n:Int),(dX U f n l).length=l.length
 | [],_=>rfl
 | x::l,n=>by
   unfold dX;split
   ·simp[uj U f l]
   ·simp[uj U f l]
theorem nM (U:List Int) (f:Nat):∀ (l:List Gn) (n:Int) (i:Nat),((dX U f n l).getD i default).par=(l.getD i default).par/\((dX U f n l).getD i default).kept=(l.getD i default).kept/\((dX U f n l).getD i default).old=(l.getD i default).old/\((dX U f n l).getD i default).gone=(l.getD i default).gone/\((dX U f n l).getD i default).bO=(l.getD i default).bO/\(((l.getD i default).old || (l.getD i default).gone)=true->((dX U f n l).getD i default).name=(l.getD i default).name)
 | [],_,_=>by simp[dX]
 | x :: l, n, i => by
   unfold dX;split
   ·cases i with
    | zero=>simp
    | succ i=>simpa using nM U f l n i
   ·rename_i h;cases i with
    | zero=>simp;intro h2;simp at h;rcases h2 with h2 | h2<;>simp[h2]at h
    | succ i=>simpa using nM U f l _ i
def Gg (l:List Gn):Nat:=(l.filter λn=>!(n.old || n.gone)).length
theorem tC (U:List Int) (f:Nat):∀ (l:List Gn) (n:Int),0<=n->n<=f->Gg l<=fr U (f - n.toNat) n->∀ i,i<l.length->((l.getD i default).old || (l.getD i default).gone)=false->n<((dX U f n l).getD i default).name/\((dX U f n l).getD i default).name<=f/\((dX U f n l).getD i default).name ∉ U/\∀ j,j<i->((l.getD j default).old || (l.getD j default).gone)=false->((dX U f n l).getD j default).name<((dX U f n l).getD i default).name
 | [],_,_,_,_=>λi c=>absurd c (by simp)
 | x :: l, n, h0, h, d => by
   intro i c e;unfold dX;by_cases hx:(x.old || x.gone)=true
   ·rw[if_pos hx];have k:Gg l<=fr U (f - n.toNat) n:=by
     unfold Gg at *;rw[List.filter_cons,if_neg (by rw[hx];simp)]at d;exact d
    have ih:=tC U f l n h0 h k;cases i with
    | zero=>rw[show (x::l).getD 0 default=x from rfl,hx]at e;cases e
    | succ i=>
      obtain⟨a1,a2,a3,a4⟩:=ih i (by simpa using c) e;refine⟨a1,a2,a3,λj g a=>?_⟩;cases j with
      | zero=>rw[show (x::l).getD 0 default=x from rfl,hx]at a;cases a
      | succ j=>exact a4 j om a
   ·rw[if_neg hx];have p:Gg l+1<=fr U (f - n.toNat) n:=by
     unfold Gg at *;rw[List.filter_cons,if_pos (by simpa using hx)]at d;simpa using d
    obtain⟨m,b2,q,r⟩:=PA U (f - n.toNat) n om;generalize dV U (f - n.toNat) n=b at *;have o:f - b.toNat=f - n.toNat - (b - n).toNat:=by omega
    have ih:=tC U f l b om om (by rw[o];omega);cases i with
    | zero=>exact⟨b2,by show b<=_;omega,m,λj g=>absurd g om⟩
    | succ i=>
      obtain⟨a1,a2,a3,a4⟩:=ih i (by simpa using c) e;refine⟨by show n<((dX U f b l).getD i default).name;omega,a2,a3,λj g a=>?_⟩;cases j with
      | zero=>exact a1
      | succ j=>exact a4 j om a
theorem ja {α:Type} [Inhabited α] (l:List α) (p:α->Bool):(l.filter p).length=((List.range l.length).filter λi=>p (l.getD i default)).length:=by
 have e:l=(List.range l.length).map λi=>l.getD i default:=by
  refine List.ext_getElem (by simp) λi h1 h2=>?_;simp[gD,h1]
 conv=>lhs;rw[e,List.filter_map,List.length_map]
 rfl
theorem zC {α:Type} [Inhabited α] {l:List α}{p:α->Bool}{i:Nat}(h:i<l.length) (a:p (l.getD i default)=true):(l.filter p).getD ((l.take i).filter p).length default=l.getD i default/\((l.take i).filter p).length<(l.filter p).length:=by
 have e:l=l.take i++(l.getD i default::l.drop (i+1)):=by
  have h1:=take_one l default h;have h2:l.take (i+1)++l.drop (i+1)=l:=List.take_append_drop _ _;rw[h1,List.append_assoc]at h2;exact h2.symm
 have b:l.filter p=(l.take i).filter p++(l.getD i default::(l.drop (i+1)).filter p):=by
  conv=>lhs;rw[e]
  rw[List.filter_append,List.filter_cons,if_pos a]
 rw[b];refine⟨?_,by simp⟩;rw[bZ (Nat.le_refl _),Nat.sub_self];rfl
theorem RS {α:Type} [Inhabited α] {l:List α}{p:α->Bool} : ∀ {j:Nat},j<(l.filter p).length->∃ i,i<l.length/\p (l.getD i default)=true/\((l.take i).filter p).length=j:=by
 induction l with
 | nil=>intro j h;exact absurd h (by simp)
 | cons x l ih=>
   intro j h;rw[List.filter_cons]at h;by_cases hx:p x=true
   ·rw[if_pos hx]at h;cases j with
    | zero=>exact⟨0,by simp,hx,by simp⟩
    | succ j=>
      obtain⟨i,h1,h2,h3⟩:=ih (j:=j) (by simpa using h);refine⟨i+1,by simpa using h1,h2,?_⟩;rw[List.take_succ_cons,List.filter_cons,if_pos hx,List.length_cons,h3]
   ·rw[if_neg hx]at h;obtain⟨i,h1,h2,h3⟩:=ih h;refine⟨i+1,by simpa using h1,h2,?_⟩;rw[List.take_succ_cons,List.filter_cons,if_neg hx,h3]
theorem Dn {α:Type} [Inhabited α] {l:List α}{p:α->Bool}{i k:Nat}(h:i<k) (b:k<=l.length) (a:p (l.getD i default)=true):((l.take i).filter p).length<((l.take k).filter p).length:=by
 have h1:=zC (l:=l.take k) (p:=p) (i:=i) (by rw[List.length_take];omega) (by rw[getD_take h];exact a);rw[List.take_take,Nat.min_eq_left om]at h1;exact h1.2
theorem RT {α:Type} [Inhabited α] {l:List α}{p:α->Bool}{i k:Nat}(c:i<l.length) (d:k<l.length) (a:p (l.getD i default)=true) (b:p (l.getD k default)=true) (e:((l.take i).filter p).length=((l.take k).filter p).length):i=k:=by
 rcases Nat.lt_trichotomy i k with h | h | h
 ·have:=Dn h om a;omega
 ·exact h
 ·have:=Dn h om b;omega
section
variable {N:Nat}{mv:Nat->Mv}{t:List Nd}
theorem fh:(grown N mv t).length=2*t.length:=by simp[grown];omega
theorem kJ {i:Nat}(h:i<t.length):(grown N mv t).getD i default=uI N mv (t.getD i default):=by
 unfold grown;rw[dz (by simpa using h),getD_map h]
theorem ni {i:Nat}(h:i<t.length):(grown N mv t).getD (t.length+i) default=rf N mv i (t.getD i default):=by
 unfold grown;rw[bZ (by simp),List.length_map,Nat.add_sub_cancel_left];simp[gD,h]
theorem iq {i:Nat}(h:i<(grown N mv t).length):i<t.length∨∃ k,k<t.length/\i=t.length+k:=by
 rw[fh]at h;by_cases e:i<t.length
 ·exact .inl e
 ·exact .inr ⟨i - t.length,by omega,by omega⟩
theorem B1 (h:Tr N t):Gr N (grown N mv t):=by
 refine⟨λi a=>?_,λi a=>?_,λi a x hx=>?_⟩
 ·rcases iq a with e | ⟨k,b,rfl⟩
  ·rw[kJ e];have h1:=h.1 i e;have hl:(t.take i).length=i:=by rw[List.length_take];omega
   exact⟨λc=>h1.root om,λc=>by have:=h1.par (by omega);rw[hl]at this;exact this⟩
  ·rw[ni b];exact⟨λc=>by omega,λ_=>⟨by show (0:Int)<=(k:Int);omega,by show (k:Int)<_;omega⟩⟩
 ·rcases iq a with e | ⟨k,b,rfl⟩
  ·rw[kJ e];exact rX _ _
  ·rw[ni b];exact rX _ _
 ·rcases iq a with e | ⟨k,b,rfl⟩
  ·rw[kJ e]at hx;exact (nO.1 hx).2
  ·rw[ni b]at hx;exact (nO.1 hx).2
abbrev Ls (N:Nat) (mv:Nat->Mv) (t:List Nd) (i:Nat):Gn:=(cW N mv t).getD i default
abbrev Ks (N:Nat) (mv:Nat->Mv) (t:List Nd) (i:Nat):List Int:=((aD (grown N mv t)).getD i default).kept
abbrev As (N:Nat) (mv:Nat->Mv) (t:List Nd) (i:Nat):Prop:=Al (grown N mv t) i
theorem yG:(cW N mv t).length=2*t.length:=by
 unfold cW named;rw[uj,gJ,fh]
theorem oE (i:Nat) (a:i<(grown N mv t).length):(Ls N mv t i).par=((grown N mv t).getD i default).par/\(Ls N mv t i).kept=Ks N mv t i/\(Ls N mv t i).gone=((aJ (aD (grown N mv t))).getD i default).gone/\(Ls N mv t i).bO=((aJ (aD (grown N mv t))).getD i default).bO/\(Ls N mv t i).old=((grown N mv t).getD i default).old:=by
 obtain⟨h1,h2,h3,b,c,h6⟩:=nM (dW (aJ (aD (grown N mv t)))) (2*N) (aJ (aD (grown N mv t))) 0 i;have e:Ls N mv t i=(dX (dW (aJ (aD (grown N mv t)))) (2*N) 0 (aJ (aD (grown N mv t)))).getD i default:=rfl;rw[e];exact⟨h1.trans (cd_par a),h2.trans (VP a),b,c,h3.trans ((oS (by rw[bR];exact a)).trans (oO a))⟩
theorem yF {i:Nat}(h:i<t.length):(Ls N mv t i).old=true/\(Ls N mv t i).name=(t.getD i default).name:=by
 have a:i<(grown N mv t).length:=by rw[fh];omega
 have h1:=(oE (N:=N) (mv:=mv) i a).2.2.2.2;rw[kJ h]at h1;refine⟨h1,?_⟩;have h6:=(nM (dW (aJ (aD (grown N mv t)))) (2*N) (aJ (aD (grown N mv t))) 0 i).2.2.2.2.2;have ho:((aJ (aD (grown N mv t))).getD i default).old=true:=by
  rw[oS (by rw[bR];exact a),oO a,kJ h];rfl
 rw[ho]at h6;have e:(Ls N mv t i).name=_:=h6 rfl;rw[e,n7 (by rw[bR];exact a),rA a,kJ h];rfl
theorem Tg:∀ x,x∈dW (aJ (aD (grown N mv t)))↔x∈t.map (·.name):=by
 intro x;unfold dW;rw[List.mem_map,List.mem_map];constructor
 ·rintro⟨n,c,rfl⟩;obtain⟨c,ho⟩:=List.mem_filter.1 c;obtain⟨i,a,rfl⟩:=cF c;rw[gJ]at a;have b:=a;rw[oS (by rw[bR];exact a),oO a]at ho;rcases iq a with e | ⟨k,d,rfl⟩
  ·refine⟨t.getD i default,fK e,?_⟩;rw[n7 (by rw[bR];exact b),rA b,kJ e];rfl
  ·rw[ni d]at ho;cases ho
 ·rintro⟨n,c,rfl⟩;obtain⟨i,a,rfl⟩:=cF c;have b:i<(grown N mv t).length:=by rw[fh];omega
  refine⟨(aJ (aD (grown N mv t))).getD i default,List.mem_filter.2 ⟨fK (by rw[gJ];exact b),?_⟩,?_⟩
  ·rw[oS (by rw[bR];exact b),oO b,kJ a];rfl
  ·rw[n7 (by rw[bR];exact b),rA b,kJ a];rfl
theorem Ob:(dW (aJ (aD (grown N mv t)))).length<=t.length:=by
 unfold dW;rw[List.length_map,ja,gJ,fh];have h:∀ i∈(List.range (2*t.length)).filter (λi=>((aJ (aD (grown N mv t))).getD i default).old),i∈List.range t.length:=λi b=>by
  obtain⟨h1,h2⟩:=List.mem_filter.1 b;have a:i<(grown N mv t).length:=by rw[fh];exact List.mem_range.1 h1
  rw[oS (by rw[bR];exact a),oO a]at h2;rcases iq a with e | ⟨k,c,rfl⟩
  ·exact List.mem_range.2 e
  ·rw[ni c]at h2;cases h2
 have:=gn (List.nodup_range.filter _) h;simpa using this
theorem Ym (h:Tr N t) (hl:t.length<=N) {i:Nat}(g:As N mv t i) (q:t.length<=i):1<=(Ls N mv t i).name/\(Ls N mv t i).name<=2*N/\(Ls N mv t i).name ∉ t.map (·.name)/\∀ j,j<i->t.length<=j->As N mv t j->(Ls N mv t j).name<(Ls N mv t i).name:=by
 have m:∀ j,t.length<=j->As N mv t j->(((aJ (aD (grown N mv t))).getD j default).old || ((aJ (aD (grown N mv t))).getD j default).gone)=false:=λj o a=>by
  rw[a.2,oS (by rw[bR];exact a.1),oO a.1];rcases iq a.1 with e | ⟨k,r,rfl⟩
  ·omega
  ·rw[ni r];rfl
 have s : Gg (aJ (aD (grown N mv t))) <= fr (dW (aJ (aD (grown N mv t)))) (2 * N - (0 : Int).toNat) 0 := by
  have h1:=RN (dW (aJ (aD (grown N mv t)))) (2*N) 0;have h2:=List.length_filter_le (λx=>decide ((0:Int)<x)) (dW (aJ (aD (grown N mv t))));have h3:=Ob (N:=N) (mv:=mv) (t:=t);have v:=Gt (B1 (mv:=mv) h);have u:Gg (aJ (aD (grown N mv t)))<=((aJ (aD (grown N mv t))).filter λn=>!n.gone).length:=by
   unfold Gg;generalize aJ (aD (grown N mv t))=c;induction c with
   | nil=>simp
   | cons x c ih=>
     rw[List.filter_cons,List.filter_cons];by_cases b:x.gone=true
     ·simp[b];simpa using ih
     ·by_cases p:x.old=true
      ·simp[b,p];have:=ih;simp at this;omega
      ·simp[b,p];simpa using ih
  rw[ja,gJ]at u;rw[show 2*N - (0:Int).toNat=2*N from by simp];omega
 have d:=tC (dW (aJ (aD (grown N mv t)))) (2*N) (aJ (aD (grown N mv t))) 0 om om s i (by rw[gJ];exact g.1) (m i q g);have e:∀ j,Ls N mv t j=(dX (dW (aJ (aD (grown N mv t)))) (2*N) 0 (aJ (aD (grown N mv t)))).getD j default:=λ_=>rfl;rw[e];refine⟨by omega,by have:=d.2.1;omega,λhm=>d.2.2.1 ((Tg _).2 hm),λj o f a=>?_⟩;rw[e];exact d.2.2.2 j o (m j f a)
def ps (N:Nat) (mv:Nat->Mv) (t:List Nd) (i:Nat):Nat:=(((cW N mv t).take i).filter λn=>!n.gone).length
theorem sd {i:Nat}(h:As N mv t i):(Ls N mv t i).gone=false:=(oE i h.1).2.2.1.trans h.2
theorem Gm {i:Nat}(h:As N mv t i):i<(cW N mv t).length:=by rw[yG,<- fh (N:=N) (mv:=mv)];exact h.1
theorem Ww {i k:Nat}(h:As N mv t i) (a:k<=2*t.length) (b:i<k):ps N mv t i<ps N mv t k:=Dn b (by rw[yG];exact a) (by show (!(Ls N mv t i).gone)=true;rw[sd h];rfl)
theorem O9 {i k:Nat}(a:As N mv t i) (b:As N mv t k) (e:ps N mv t i=ps N mv t k):i=k:=
 RT (Gm a) (Gm b) (by show (!(Ls N mv t i).gone)=true;rw[sd a];rfl) (by show (!(Ls N mv t k).gone)=true;rw[sd b];rfl) e
theorem TS:ps N mv t 0=0:=by simp[ps]
theorem XQ {j:Nat}(h:j<(step N mv t).length):∃ i,As N mv t i/\ps N mv t i=j:=by
 unfold step leave at h;rw[List.length_map]at h;obtain⟨i,h1,h2,h3⟩:=RS h;have a:i<(grown N mv t).length:=by rw[fh,<- yG (N:=N) (mv:=mv)];exact h1
 refine⟨i,⟨a,?_⟩,h3⟩;rw[<- (oE i a).2.2.1];simpa using h2
theorem Ow:(step N mv t).length=((cW N mv t).filter λn=>!n.gone).length:=by
 unfold step leave;rw[List.length_map]
theorem X7 {i:Nat}(h:As N mv t i):ps N mv t i<(step N mv t).length:=by
 rw[Ow];exact (zC (Gm h) (by show (!(Ls N mv t i).gone)=true;rw[sd h];rfl)).2
theorem Co (a:Gr N (grown N mv t)) {i:Nat}(h:As N mv t i):(step N mv t).getD (ps N mv t i) default=⟨(Ls N mv t i).name,if i=0 then -1 else (ps N mv t ((grown N mv t).getD i default).par.toNat:Int),Ks N mv t i⟩:=by
 have h1:=zC (Gm h) (p:=λn:Gn=>!n.gone) (by show (!(Ls N mv t i).gone)=true;rw[sd h];rfl);have h2:(step N mv t).getD (ps N mv t i) default=(λn:Gn=>(⟨n.name,place (cW N mv t) n.par,n.kept⟩:Nd)) (((cW N mv t).filter λn=>!n.gone).getD (ps N mv t i) default):=by
  unfold step leave;exact getD_map h1.2
 rw[h2];have h3:((cW N mv t).filter λn=>!n.gone).getD (ps N mv t i) default=Ls N mv t i:=h1.1;rw[h3];obtain⟨s1,s2,c,d,f⟩:=oE (N:=N) (mv:=mv) i h.1;simp only[s1,s2];congr 1;unfold place;rcases Nat.eq_zero_or_pos i with e | e
 ·rw[if_pos (show i=0 from e),if_neg (show ¬ 0<=((grown N mv t).getD i default).par by have:=(a.pw i h.1).1 e;omega)];exact (a.pw i h.1).1 e
 ·obtain⟨p1,p2,p3,p4⟩:=Al.par a h e;have b:((cW N mv t).getD ((grown N mv t).getD i default).par.toNat default).gone=false:=sd p1;rw[if_neg (show ¬ i=0 by omega),if_pos (show 0<=((grown N mv t).getD i default).par by omega),if_neg (by rw[b];simp)];rfl
theorem Ox (h:Tr N t):(step N mv t).length<=N:=by
 have a:=Gt (B1 (mv:=mv) h);rw[Ow,ja,yG,<- fh (N:=N) (mv:=mv)];have:(List.range (grown N mv t).length).filter (λi=>!((cW N mv t).getD i default).gone)=(List.range (grown N mv t).length).filter (λi=>!((aJ (aD (grown N mv t))).getD i default).gone):=by
  refine List.filter_congr λi b=>?_;rw[<- (oE i (List.mem_range.1 b)).2.2.1]
 rw[this];exact a
end
section
variable {N:Nat}{mv:Nat->Mv}{t:List Nd}
theorem zU {i:Nat}(h:As N mv t i):i<2*t.length:=by rw[<- fh (N:=N) (mv:=mv)];exact h.1
theorem Jw (h:Tr N t) {i k:Nat}(b:i<t.length) (a:k<t.length) (e:(t.getD i default).name=(t.getD k default).name):i=k:=by
 have key:∀ i k,k<t.length->i<k->(t.getD i default).name≠(t.getD k default).name:=λi k a c e=>by
  have h1:=(h.1 k a).name.2.2;refine h1 (List.mem_map.2 ⟨t.getD i default,?_,e⟩);have h2:=fK (l:=t.take k) (i:=i) (by rw[List.length_take];omega);rwa[getD_take c]at h2
 rcases Nat.lt_trichotomy i k with h | h | h
 ·exact absurd e (key i k a h)
 ·exact h
 ·exact absurd e.symm (key k i b h)
theorem Ul (h:Tr N t) (hl:t.length<=N) {i:Nat}(d:As N mv t i):1<=(Ls N mv t i).name/\(Ls N mv t i).name<=2*N/\∀ k,k<i->As N mv t k->(Ls N mv t k).name≠(Ls N mv t i).name:=by
 by_cases e:i<t.length
 ·have h1:=(h.1 i e).name;rw[(yF e).2];refine⟨h1.1,h1.2.1,λk c a=>?_⟩;rw[(yF (show k<t.length by omega)).2];intro b;have:=Jw h om e b;omega
 ·obtain⟨h1,h2,h3,f⟩:=Ym h hl d om;refine⟨h1,h2,λk c a=>?_⟩;by_cases b:k<t.length
  ·rw[(yF b).2];intro g;exact h3 (g ▸ List.mem_map.2 ⟨_,fK b,rfl⟩)
  ·have:=f k c om a;omega
theorem Yw (a:Gr N (grown N mv t)) {i:Nat}(h:i<(grown N mv t).length):(Ks N mv t i).Pairwise (· < ·):=by
 unfold Ks;rw[kZ h];show (eW _ _).Pairwise (· < ·);unfold eW;split
 ·exact (a.inc i h).filter _
 ·exact a.inc i h
theorem pU (a:Gr N (grown N mv t)) {j:Nat}(b:j<(step N mv t).length):∃ i,As N mv t i/\ps N mv t i=j/\(step N mv t).getD j default=⟨(Ls N mv t i).name,if i=0 then -1 else (ps N mv t ((grown N mv t).getD i default).par.toNat:Int),Ks N mv t i⟩:=by
 obtain⟨i,h1,h2⟩:=XQ b;exact⟨i,h1,h2,by rw[<- h2];exact Co a h1⟩
theorem Wx {i k:Nat}(h:As N mv t k) (e:ps N mv t i<ps N mv t k) (a:i<=2*t.length):i<k:=by
 rcases Nat.lt_or_ge i k with h1 | h1
 ·exact h1
 ·rcases Nat.eq_or_lt_of_le h1 with h2 | h2
  ·subst h2;omega
  ·have:=Ww h a h2;omega
theorem Tn (h:Tr N t) (hl:t.length<=N):Ok N (step N mv t):=by
 have a:=B1 (mv:=mv) h;intro j D;obtain⟨i,b,A,E⟩:=pU a D;have g:((step N mv t).take j).length=j:=by rw[List.length_take];omega
 have u:=Ul h hl b;rw[E];have m:0<j->0<i:=λh0=>by
  rcases Nat.eq_zero_or_pos i with e | e
  ·subst e;rw[TS]at A;omega
  ·exact e
 have v:0<i->As N mv t ((grown N mv t).getD i default).par.toNat/\ps N mv t ((grown N mv t).getD i default).par.toNat<j/\(((grown N mv t).getD i default).par.toNat:Int)=((grown N mv t).getD i default).par:=λh0=>by
  obtain⟨p1,p2,p3,p4⟩:=Al.par a b h0;exact⟨p1,by rw[<- A];exact Ww p1 (by have:=zU b;omega) p3,p4⟩
 refine⟨λf=>?_,λf=>?_,⟨u.1,u.2.1,?_⟩,?_,λx hx=>?_,Yw a b.1,λf x hx=>?_⟩
 ·rw[g]at f;show (if i=0 then (-1:Int) else _) = -1;rcases Nat.eq_zero_or_pos i with e | e
  ·rw[if_pos e]
  ·have:=(v e).2.1;omega
 ·rw[g]at f ⊢;have h0:=m f;show 0<=(if i=0 then (-1:Int) else _)/\(if i=0 then (-1:Int) else _)<_;rw[if_neg om];have:=(v h0).2.1;omega
 ·intro hm;obtain⟨n,o,e⟩:=List.mem_map.1 hm;obtain⟨k,p,rfl⟩:=cF o;rw[g]at p;rw[getD_take p]at e;obtain⟨c,q,r,w⟩:=pU a (show k<(step N mv t).length by omega);rw[w]at e;exact u.2.2 c (Wx b om (by have:=zU q;omega)) q e
 ·exact b.ne a
 ·exact a.tQ i b.1 x (KX a.pw b.1 hx)
 ·rw[g]at f;have h0:=m f;obtain⟨p1,p2,p3⟩:=v h0;have B:=(a.pw i b.1).2 h0;have hm:=(oP b.1 B.1 B.2).1 hx;show x∈(((step N mv t).take j).getD (if i=0 then (-1:Int) else _).toNat default).set/\x ∉ below ((step N mv t).take j) (if i=0 then (-1:Int) else _);rw[if_neg om,Int.toNat_natCast,getD_take p2,Co a p1];refine⟨hm.2.1,λC=>?_⟩;unfold below at C;obtain⟨n,o,y⟩:=List.mem_flatMap.1 C;obtain⟨o,z⟩:=List.mem_filter.1 o;obtain⟨k,p,rfl⟩:=cF o;rw[g]at p;rw[getD_take p]at z y;obtain⟨c,q,r,w⟩:=pU a (show k<(step N mv t).length by omega);rw[w]at z y;have d:(if c=0 then (-1:Int) else (ps N mv t ((grown N mv t).getD c default).par.toNat:Int))=(ps N mv t ((grown N mv t).getD i default).par.toNat:Int):=by simpa using z
  have s:0<c:=by
   rcases Nat.eq_zero_or_pos c with e | e
   ·rw[if_pos e]at d;omega
   ·exact e
  rw[if_neg om]at d;obtain⟨q1,G,H,I⟩:=Al.par a q s;have J:=O9 q1 p1 om;have F:c<i:=Wx b om (by have:=zU q;omega);exact hm.2.2 c F om y
theorem Oy (c:Gr N (grown N mv t)) {i:Nat}(h:As N mv t i) {x:Int} : x∈below (step N mv t) (ps N mv t i:Int)↔∃ k,As N mv t k/\0<k/\((grown N mv t).getD k default).par=(i:Int)/\x∈Ks N mv t k:=by
 unfold below;rw[List.mem_flatMap];constructor
 ·rintro⟨n,f,hx⟩;obtain⟨f,d⟩:=List.mem_filter.1 f;obtain⟨j,m,rfl⟩:=cF f;obtain⟨k,a,o,p⟩:=pU c m;rw[p]at d hx;have b:(if k=0 then (-1:Int) else (ps N mv t ((grown N mv t).getD k default).par.toNat:Int))=(ps N mv t i:Int):=by simpa using d
  have g:0<k:=by
   rcases Nat.eq_zero_or_pos k with e | e
   ·rw[if_pos e]at b;omega
   ·exact e
  rw[if_neg om]at b;obtain⟨q1,q,r,s⟩:=Al.par c a g;have u:=O9 q1 h om;exact⟨k,a,g,by omega,hx⟩
 ·rintro⟨k,a,g,d,hx⟩;refine⟨(step N mv t).getD (ps N mv t k) default,List.mem_filter.2 ⟨fK (X7 a),?_⟩,?_⟩
  ·rw[Co c a];simp only[decide_eq_true_eq];rw[if_neg om,d,Int.toNat_natCast]
  ·rw[Co c a];exact hx
theorem Tm (h:Tr N t) (hl:t.length<=N):Tr N (step N mv t):=by
 have a:=B1 (mv:=mv) h;have b:=Tn (mv:=mv) h hl;refine⟨b,λj c e=>?_⟩;obtain⟨i,d,g,m⟩:=pU a c;have n:=b.nodup (j:Int) om;obtain⟨x,hx,o⟩:=own a d;have p:((step N mv t).getD j default).set=Ks N mv t i:=by rw[m]
 have f:=BB n (λy q=>b.B9 c q) om (show x∈((step N mv t).getD j default).set by rw[p];exact hx);rw[<- g]at f;obtain⟨k,r,v,s,u⟩:=(Oy a d).1 f;exact o k r s u
end
section
variable {N:Nat}{mv:Nat->Mv}{t:List Nd}
theorem zn {k:Nat}(a:k<t.length):((grown N mv t).getD (t.length+k) default).par=(k:Int):=by rw[ni a];rfl
theorem L4 (b:Gr N (grown N mv t)) {v:Int} : v∈cR (cW N mv t)↔∃ i,i<t.length/\As N mv t i/\((aJ (aD (grown N mv t))).getD i default).bO=true/\(t.getD i default).name=v:=by
 unfold cR;rw[List.mem_map];constructor
 ·rintro⟨n,g,rfl⟩;obtain⟨g,p⟩:=List.mem_filter.1 g;obtain⟨i,h,rfl⟩:=cF g;have d:i<(grown N mv t).length:=by rw[fh,<- yG (N:=N) (mv:=mv)];exact h
  obtain⟨s1,s2,j,m,q⟩:=oE (N:=N) (mv:=mv) i d;have h1:(Ls N mv t i).gone=false/\(Ls N mv t i).bO=true:=by simpa using p
  have a:As N mv t i:=⟨d,j ▸ h1.1⟩;have f:((aJ (aD (grown N mv t))).getD i default).bO=true:=m ▸ h1.2;rcases iq d with e | ⟨k,s,rfl⟩
  ·exact⟨i,e,a,f,((yF e).2).symm⟩
  ·exfalso;obtain⟨x,hx⟩:=List.exists_mem_of_ne_nil _ (a.ne b);obtain⟨c,c1,c2,c3⟩:=((Dq b d).1 f).2 x hx;rcases iq c1 with e | ⟨u,r,rfl⟩
   ·have:=(b.pw c c1).2;rcases Nat.eq_zero_or_pos c with o | o
    ·have:=(b.pw c c1).1 o;omega
    ·have:=this o;omega
   ·rw[zn r]at c2;omega
 ·rintro⟨i,h,a,f,rfl⟩;obtain⟨s1,s2,j,m,q⟩:=oE (N:=N) (mv:=mv) i a.1;refine⟨Ls N mv t i,List.mem_filter.2 ⟨fK (Gm a),?_⟩,(yF h).2⟩;rw[j,m,a.2,f];rfl
end
section
variable {α:Type}{R:Nat->α->α->Prop}
inductive Pt (R:Nat->α->α->Prop) (i:Nat) (s:α):Nat->α->Prop
  | nil:Pt R i s i s
  | snoc {n:Nat}{x y:α}(h:Pt R i s n x) (k:R n x y):Pt R i s (n+1) y
def Ext (R:Nat->α->α->Prop) (i:Nat) (s:α):Prop:=∀ n,i<=n->∃ x,Pt R i s n x
end
section
variable {N:Nat}{mv:Nat->Nat->Mv}{T:Nat->List Nd}
end
end Go.pR
end
