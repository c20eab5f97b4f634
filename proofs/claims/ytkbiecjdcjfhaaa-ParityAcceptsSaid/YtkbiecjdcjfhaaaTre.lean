/- Trees of sets of states, and how a letter turns them: what package tree computes, in plain lists. -/
import Derived.Test.YtkbiecjdcjfhaaaOm
set_option linter.unusedSimpArgs false
set_option linter.unusedVariables false
set_option maxRecDepth 100000
set_option maxHeartbeats 16000000
section
namespace Go.Jo
structure Nd where
  name:Int
  par:Int
  set:List Int
deriving DecidableEq,Inhabited
def below (t:List Nd) (j:Int):List Int:=(t.filter λn=>decide (n.par=j)).flatMap (·.set)
theorem uo (a b:List Nd) (j:Int):below (a++b) j=below a j++below b j:=by simp[below]
theorem ve (n:Nd) (j:Int):below [n] j=if n.par=j then n.set else []:=by
 by_cases h:n.par=j<;>simp[below,h]
structure Yd (N:Nat) (d:List Nd) (n:Nd):Prop where
  root:d.length=0->n.par = -1
  par:0<d.length->0<=n.par/\n.par<d.length
  name:1<=n.name/\n.name<=2*N/\n.name ∉ d.map (·.name)
  ne:n.set≠[]
  jd:∀ x∈n.set,0<=x/\x<N
  inc:n.set.Pairwise (· < ·)
  sub:0<d.length->∀ x∈n.set,x∈(d.getD n.par.toNat default).set/\x ∉ below d n.par
def Ok (N:Nat) (t:List Nd):Prop:=∀ i,i<t.length->Yd N (t.take i) (t.getD i default)
def Tr (N:Nat) (t:List Nd):Prop:=Ok N t/\∀ i,i<t.length->(below t (i:Int)).length≠(t.getD i default).set.length
theorem getD_take {α:Type}{l:List α}{d:α}{i j:Nat}(h:i<j):(l.take j).getD i d=l.getD i d:=by
 simp[gD,h]
theorem take_one {α:Type}(l:List α) (d:α) {k:Nat}(h:k<l.length):l.take (k+1)=l.take k++[l.getD k d]:=by
 rw[List.take_add_one,gD,gE h];rfl
theorem Ok.snoc {N:Nat}{d:List Nd}{n:Nd}(h:Ok N d) (k:Yd N d n):Ok N (d++[n]):=by
 intro i a;rw[List.length_append,List.length_singleton]at a;by_cases e:i<d.length
 ·have h1:=h i e;rw[List.take_append_of_le_length om];have:(d++[n]).getD i default=d.getD i default:=by simp[gD,List.getElem?_append_left e]
  rw[this];exact h1
 ·have e:i=d.length:=by omega
  subst e;have:(d++[n]).getD d.length default=n:=by simp[gD]
  rw[this,List.take_append_of_le_length (Nat.le_refl _),List.take_length];exact k
theorem Ok.nodup {N:Nat}{t:List Nd}(h:Ok N t) (j:Int) (c:0<=j):(below t j).Nodup:=by
 have key:∀ k,k<=t.length->(below (t.take k) j).Nodup:=by
  intro k;induction k with
  | zero=>intro _;simp[below]
  | succ k ih=>
    intro d;rw[take_one t default om,uo,ve];have h1:=h k om;split
    ·rename_i a;have hl:(t.take k).length=k:=by rw[List.length_take];omega
     have h0:0<(t.take k).length:=by
      rcases Nat.eq_zero_or_pos (t.take k).length with e | e
      ·have:=h1.root e;omega
      ·exact e
     refine List.nodup_append.2 ⟨ih om,h1.inc.imp λh=>by omega,λx hx y b e=>?_⟩;subst e;have:=(h1.sub h0 x b).2;rw[a]at this;exact this hx
    ·rw[List.append_nil];exact ih om
 have:=key t.length (Nat.le_refl _);rwa[List.take_length]at this
theorem Ok.LD {N:Nat}{t:List Nd}(h:Ok N t) {i:Nat}(hi:i<t.length) {x:Int}(hx:x∈below t (i:Int)):x∈(t.getD i default).set:=by
 unfold below at hx;obtain⟨n,a,hx⟩:=List.mem_flatMap.1 hx;obtain⟨a,c⟩:=List.mem_filter.1 a;obtain⟨k,b,rfl⟩:=List.getElem_of_mem a;have h1:=h k b;have e:t.getD k default=t[k]:=by simp[gD,b]
 rw[e]at h1;have hl:(t.take k).length=k:=by rw[List.length_take];omega
 have d:t[k].par=(i:Int):=by simpa using c
 have h0:0<(t.take k).length:=by
  rcases Nat.eq_zero_or_pos (t.take k).length with e | e
  ·have:=h1.root e;omega
  ·exact e
 have h2:=(h1.par h0).2;have:=(h1.sub h0 x hx).1;rw[d,hl] at *;rwa[getD_take om,Int.toNat_natCast]at this
structure Gn where
  name:Int
  par:Int
  set:List Int
  kept:List Int
  old:Bool
  bX:Bool
  gone:Bool
deriving Inhabited
def canon (N:Nat) (K:List Int):List Int:=((List.range N).map λ(n:Nat)=>(n:Int)).filter λx=>decide (x∈K)
theorem gf {N:Nat}{K:List Int}{x:Int} : x∈canon N K↔x∈K/\0<=x/\x<N:=by
 unfold canon;rw[List.mem_filter,List.mem_map];constructor
 ·rintro⟨⟨n,a,rfl⟩,h⟩;have:=List.mem_range.1 a;exact⟨by simpa using h,by omega,by omega⟩
 ·rintro⟨h1,h2,h3⟩;exact⟨⟨x.toNat,List.mem_range.2 om,by omega⟩,by simpa using h1⟩
theorem JM (N:Nat):((List.range N).map λ(n:Nat)=>(n:Int)).Pairwise (· < ·):=by
 rw[List.pairwise_map];exact List.pairwise_lt_range.imp λh=>by omega
theorem qR (N:Nat) (K:List Int):(canon N K).Pairwise (· < ·):=(JM N).filter _
theorem uk (N:Nat) (K:List Int):(canon N K).length<=N:=by
 have h:=List.length_filter_le (λx=>decide (x∈K)) ((List.range N).map λ(n:Nat)=>(n:Int));simpa[canon] using h
theorem IJ:∀ {a b:List Int},a.Pairwise (· < ·)->b.Pairwise (· < ·)->(∀ x,x∈a↔x∈b)->a=b
 | [],[],_,_,_=>rfl
 | [],y::b,_,_,h=>absurd ((h y).2 (by simp)) (by simp)
 | x::a,[],_,_,h=>absurd ((h x).1 (by simp)) (by simp)
 | x :: a, y :: b, c, d, h => by
   rw[List.pairwise_cons]at c d;have e:x=y:=by
    have h1:=(h x).1 (by simp);have h2:=(h y).2 (by simp);rcases List.mem_cons.1 h1 with e | h1
    ·exact e
    ·rcases List.mem_cons.1 h2 with e | h2
     ·exact e.symm
     ·have:=c.1 y h2;have:=d.1 x h1;omega
   subst e;congr 1;refine IJ c.2 d.2 λz=>?_;have f:=h z;simp only[List.mem_cons]at f;constructor
   ·intro hm;rcases f.1 (.inr hm) with e | e
    ·have:=c.1 z hm;omega
    ·exact e
   ·intro hm;rcases f.2 (.inr hm) with e | e
    ·have:=d.1 z hm;omega
    ·exact e
abbrev Mv:=List (Int × Bool)
def CN (mv:Nat->Mv) (set:List Int) (p:Int × Bool->Bool):List Int:=set.flatMap λx=>((mv x.toNat).filter p).map (·.1)
def tU (N:Nat) (mv:Nat->Mv) (n:Nd):Gn:=⟨n.name,n.par,n.set,canon N (CN mv n.set λ_=>true),true,false,false⟩
def oT (N:Nat) (mv:Nat->Mv) (i:Nat) (n:Nd):Gn:=⟨0,i,[],canon N (CN mv n.set λm=>m.2),false,false,false⟩
def grown (N:Nat) (mv:Nat->Mv) (t:List Nd):List Gn:=t.map (tU N mv)++t.mapIdx λk n=>oT N mv k n
def gC (d:List Gn) (j:Int):List Int:=(d.filter λn=>decide (n.par=j)).flatMap (·.kept)
theorem vm (a b:List Gn) (j:Int):gC (a++b) j=gC a j++gC b j:=by simp[gC]
theorem Db (n:Gn) (j:Int):gC [n] j=if n.par=j then n.kept else []:=by
 by_cases h:n.par=j<;>simp[gC,h]
def fe (d:List Gn) (n:Gn):List Int:=if 0<=n.par then n.kept.filter λx=>decide (x∈(d.getD n.par.toNat default).kept) && !decide (x∈gC d n.par) else n.kept
def gI (d:List Gn) (n:Gn):Gn:={ n with kept:=fe d n,gone:=decide ((fe d n).length=0) }
def cg {α a:Type}(f:List a->α->a) (l:List α):List a:=l.foldl (λd n=>d++[f d n]) []
theorem sI {α a:Type}(f:List a->α->a) (l:List α) (x:α):cg f (l++[x])=cg f l++[f (cg f l) x]:=by simp[cg]
theorem cv {α a:Type}(f:List a->α->a) (l:List α):(cg f l).length=l.length:=by
 have h:∀ (l:List α) (d:List a),(l.foldl (λd n=>d++[f d n]) d).length=d.length+l.length:=by
  intro l;induction l with
  | nil=>intro d;simp
  | cons x l ih=>intro d;rw[List.foldl_cons,ih];simp;omega
 simpa[cg] using h l []
theorem Li {α a:Type}(f:List a->α->a) (l m:List α):∃ r,cg f (l++m)=cg f l++r/\r.length=m.length:=by
 have h:∀ (l:List α) (d:List a),∃ r,l.foldl (λd n=>d++[f d n]) d=d++r/\r.length=l.length:=by
  intro l;induction l with
  | nil=>intro d;exact⟨[],by simp,rfl⟩
  | cons x l ih=>
    intro d;obtain⟨r,h1,h2⟩:=ih (d++[f d x]);exact⟨f d x::r,by rw[List.foldl_cons,h1];simp,by simp[h2]⟩
 obtain⟨r,h1,h2⟩:=h m (cg f l);exact⟨r,by rw[<- h1];simp[cg,List.foldl_append],h2⟩
def aK (l:List Gn):List Gn:=cg gI l
def under (l:List Gn) (j:Int):Nat:=((l.filter λn=>decide (n.par=j)).map (·.kept.length)).sum
theorem sR (a b:List Gn) (j:Int):under (a++b) j=under a j+under b j:=by simp[under]
theorem z7 (n:Gn) (j:Int):under [n] j=if n.par=j then n.kept.length else 0:=by
 by_cases h:n.par=j<;>simp[under,h]
def iQ (d:List Gn) (n:Gn):Bool:=n.gone || (decide (0<=n.par) && ((d.getD n.par.toNat default).bX || (d.getD n.par.toNat default).gone))
def oD (l:List Gn) (d:List Gn) (n:Gn):Gn:={ n with gone:=iQ d n,bX:=!iQ d n && decide (under l (d.length:Int)=n.kept.length) }
def aL (l:List Gn):List Gn:=cg (oD l) l
def fS (used:List Int):Nat->Int->Int
 | 0,n=>n+1
 | f+1,n=>if n+1∈used then fS used f (n+1) else n+1
def fF (used:List Int) (f:Nat):Int->List Gn->List Gn
 | _,[]=>[]
 | n,x::l=>if x.old || x.gone then x::fF used f n l else { x with name:=fS used (f - n.toNat) n } :: fF used f (fS used (f - n.toNat) n) l
def fD (l:List Gn):List Int:=(l.filter (·.old)).map (·.name)
def named (f:Nat) (l:List Gn):List Gn:=fF (fD l) f 0 l
def place (l:List Gn) (i:Int):Int:=if 0<=i then (if (l.getD i.toNat default).gone then 0 else (((l.take i.toNat).filter λn=>!n.gone).length:Int)) else i
def leave (l:List Gn):List Nd:=(l.filter λn=>!n.gone).map λn=>⟨n.name,place l n.par,n.kept⟩
def eF (l:List Gn):List Int:=(l.filter λn=>!n.gone && n.bX).map (·.name)
def ic (l:List Gn):List Int:=(l.filter λn=>n.gone && n.old).map (·.name)
def cI (N:Nat) (mv:Nat->Mv) (t:List Nd):List Gn:=named (2*N) (aL (aK (grown N mv t)))
def step (N:Nat) (mv:Nat->Mv) (t:List Nd):List Nd:=leave (cI N mv t)
def evG (N:Nat) (mv:Nat->Mv) (t:List Nd):List Int:=(eF (cI N mv t)).mergeSort λa b=>decide (a<=b)
def evB (N:Nat) (mv:Nat->Mv) (t:List Nd):List Int:=(ic (cI N mv t)).mergeSort λa b=>decide (a<=b)
theorem uZ {α:Type}{a b:List α}{d:α}{i:Nat}(h:i<a.length):(a++b).getD i d=a.getD i d:=by
 simp[gD,List.getElem?_append_left h]
theorem iP {α:Type}{a b:List α}{d:α}{i:Nat}(h:a.length<=i):(a++b).getD i d=b.getD (i - a.length) d:=by
 simp[gD,List.getElem?_append_right h]
theorem getD_map {α a:Type} [Inhabited α] [Inhabited a] {f:α->a}{l:List α}{i:Nat}(h:i<l.length):(l.map f).getD i default=f (l.getD i default):=by
 simp[gD,h]
theorem iJ {α:Type} [Inhabited α] {l:List α}{x:α}(h:x∈l):∃ i,i<l.length/\l.getD i default=x:=by
 obtain⟨i,a,rfl⟩:=List.getElem_of_mem h;exact⟨i,a,by simp[gD,a]⟩
theorem mz {α:Type} [Inhabited α] {l:List α}{i:Nat}(h:i<l.length):l.getD i default∈l:=by
 rw[gD,gE h];exact List.getElem_mem h
theorem Bf {α a:Type} [Inhabited α] [Inhabited a] (f:List a->α->a) (l:List α) {i:Nat}(h:i<l.length):(cg f l).getD i default=f ((cg f l).take i) (l.getD i default):=by
 have e:l=l.take i++([l.getD i default]++l.drop (i+1)):=by
  rw[<- List.append_assoc,<- take_one l default h,List.take_append_drop]
 have hl:(l.take i).length=i:=by rw[List.length_take];omega
 obtain⟨r,h1,h2⟩:=Li f (l.take i++[l.getD i default]) (l.drop (i+1));rw[sI]at h1;have b:cg f l=cg f (l.take i)++[f (cg f (l.take i)) (l.getD i default)]++r:=by
  rw[<- h1,List.append_assoc,<- e]
 have c:(cg f (l.take i)).length=i:=by rw[cv,hl]
 have d:(cg f l).take i=cg f (l.take i):=by
  rw[b,List.append_assoc,List.take_append_of_le_length om,List.take_of_length_le om]
 rw[d,b,List.append_assoc,iP om,c,Nat.sub_self];rfl
def Pw (l:List Gn):Prop:=∀ i,i<l.length->(i=0->(l.getD i default).par = -1)/\(0<i->0<=(l.getD i default).par/\(l.getD i default).par<i)
theorem tq {d:List Gn}{j x:Int} : x∈gC d j↔∃ k,k<d.length/\(d.getD k default).par=j/\x∈(d.getD k default).kept:=by
 unfold gC;rw[List.mem_flatMap];constructor
 ·rintro⟨n,a,hx⟩;obtain⟨a,b⟩:=List.mem_filter.1 a;obtain⟨k,c,rfl⟩:=iJ a;exact⟨k,c,by simpa using b,hx⟩
 ·rintro⟨k,c,b,hx⟩;exact⟨_,List.mem_filter.2 ⟨mz c,by simpa using b⟩,hx⟩
section
variable {l:List Gn}
theorem cC:(aK l).length=l.length:=cv _ _
theorem mA {i:Nat}(h:i<l.length):(aK l).getD i default=gI ((aK l).take i) (l.getD i default):=Bf _ _ h
theorem jz {i:Nat}(h:i<l.length):((aK l).getD i default).par=(l.getD i default).par:=by rw[mA h];rfl
theorem yG {i:Nat}(h:i<l.length):((aK l).getD i default).name=(l.getD i default).name:=by rw[mA h];rfl
theorem qz {i:Nat}(h:i<l.length):((aK l).getD i default).old=(l.getD i default).old:=by rw[mA h];rfl
theorem X5 (h:Pw l):Pw (aK l):=λi a=>by
 rw[cC]at a;rw[jz a];exact h i a
theorem P6 {i:Nat}(h:i<l.length):((aK l).getD i default).gone=true↔((aK l).getD i default).kept=[]:=by
 rw[mA h];show decide ((fe _ _).length=0)=true↔fe _ _=[];rw[decide_eq_true_iff];exact List.length_eq_zero_iff
theorem ET {i:Nat}(h:i<l.length) (a:(l.getD i default).par<0):((aK l).getD i default).kept=(l.getD i default).kept:=by
 rw[mA h];show fe _ _=_;unfold fe;rw[if_neg om]
theorem oz {i:Nat}(h:i<l.length) (d:0<=(l.getD i default).par) (f:(l.getD i default).par<i) {x:Int} : x∈((aK l).getD i default).kept↔x∈(l.getD i default).kept/\x∈((aK l).getD (l.getD i default).par.toNat default).kept/\∀ k,k<i->(l.getD k default).par=(l.getD i default).par->x ∉ ((aK l).getD k default).kept:=by
 have e:((aK l).getD i default).kept=fe ((aK l).take i) (l.getD i default):=by rw[mA h];rfl
 rw[e];unfold fe;rw[if_pos d,List.mem_filter,getD_take om];simp only[Bool.and_eq_true,Bool.not_eq_true',decide_eq_true_eq,decide_eq_false_iff_not];refine and_congr Iff.rfl (and_congr Iff.rfl ?_);rw[tq];constructor
 ·intro c k a b hx;refine c ⟨k,by rw[List.length_take,cC];omega,?_,?_⟩
  ·rw[getD_take a,jz om];exact b
  ·rw[getD_take a];exact hx
 ·rintro c ⟨k,a,b,hx⟩;rw[List.length_take,cC]at a;rw[getD_take om,jz om]at b;rw[getD_take om]at hx;exact c k om b hx
theorem w6 (a:Pw l) {i:Nat}(h:i<l.length) {x:Int}(hx:x∈((aK l).getD i default).kept):x∈(l.getD i default).kept:=by
 have h1:=a i h;rcases Nat.eq_zero_or_pos i with e | e
 ·rw[ET h (by have:=h1.1 e;omega)]at hx;exact hx
 ·exact ((oz h (h1.2 e).1 (h1.2 e).2).1 hx).1
theorem P5 (c:Pw l) {i:Nat}(h:i<l.length) (h0:0<i) {x:Int}(hx:x∈(l.getD i default).kept) (d:x∈((aK l).getD (l.getD i default).par.toNat default).kept):∃ k,k<=i/\(l.getD k default).par=(l.getD i default).par/\x∈((aK l).getD k default).kept:=by
 have h1:=c i h;by_cases b:∃ k,k<i/\(l.getD k default).par=(l.getD i default).par/\x∈((aK l).getD k default).kept
 ·obtain⟨k,h2,h3,a⟩:=b;exact⟨k,by omega,h3,a⟩
 ·refine⟨i,Nat.le_refl _,rfl,(oz h (h1.2 h0).1 (h1.2 h0).2).2 ⟨hx,d,λk h2 h3 a=>b ⟨k,h2,h3,a⟩⟩⟩
theorem EU (a:Pw l) {i k:Nat}(h:i<l.length) (b:k<l.length) (dH:i≠k) (h0:0<i) (c:(l.getD i default).par=(l.getD k default).par) {x:Int}(hx:x∈((aK l).getD i default).kept):x ∉ ((aK l).getD k default).kept:=by
 intro d;have h1:=a i h;have h2:=a k b;rcases Nat.lt_or_ge k i with e | e
 ·exact ((oz h (h1.2 h0).1 (h1.2 h0).2).1 hx).2.2 k e c.symm d
 ·exact ((oz b (h2.2 om).1 (h2.2 om).2).1 d).2.2 i om c hx
end
section
variable {l:List Gn}
theorem Ji:(aL l).length=l.length:=cv _ _
theorem qJ {i:Nat}(h:i<l.length):(aL l).getD i default=oD l ((aL l).take i) (l.getD i default):=Bf _ _ h
theorem TX {i:Nat}(h:i<l.length):((aL l).getD i default).par=(l.getD i default).par:=by rw[qJ h];rfl
theorem yK {i:Nat}(h:i<l.length):((aL l).getD i default).name=(l.getD i default).name:=by rw[qJ h];rfl
theorem Qa {i:Nat}(h:i<l.length):((aL l).getD i default).kept=(l.getD i default).kept:=by rw[qJ h];rfl
theorem qH {i:Nat}(h:i<l.length):((aL l).getD i default).old=(l.getD i default).old:=by rw[qJ h];rfl
theorem Qc {i:Nat}(a:Pw l) (h:i<l.length):((aL l).getD i default).gone=true↔(l.getD i default).gone=true∨(0<i/\(((aL l).getD (l.getD i default).par.toNat default).bX=true∨((aL l).getD (l.getD i default).par.toNat default).gone=true)):=by
 have h1:=a i h;rw[qJ h];show iQ _ _=true↔_;unfold iQ;rw[Bool.or_eq_true,Bool.and_eq_true,Bool.or_eq_true,decide_eq_true_iff];refine or_congr Iff.rfl ?_;rcases Nat.eq_zero_or_pos i with e | e
 ·have:=h1.1 e;constructor
  ·rintro⟨h2,_⟩;omega
  ·rintro⟨h2,_⟩;omega
 ·have h2:=h1.2 e;rw[getD_take om];exact⟨λh=>⟨e,h.2⟩,λh=>⟨h2.1,h.2⟩⟩
theorem Qb {i:Nat}(h:i<l.length):((aL l).getD i default).bX=true↔((aL l).getD i default).gone=false/\under l (i:Int)=(l.getD i default).kept.length:=by
 have hl:((aL l).take i).length=i:=by rw[List.length_take,Ji];omega
 rw[qJ h];show (!iQ _ _ && decide (under l (((aL l).take i).length:Int)=_))=true↔iQ _ _=false/\_;rw[hl,Bool.and_eq_true,decide_eq_true_iff,Bool.not_eq_true']
end
theorem Jr (l:List Gn) (j:Int):under l j=(gC l j).length:=by
 unfold under gC;rw[List.length_flatMap]
theorem k9 {α:Type} [DecidableEq α]:∀ {a b:List α},a.Nodup->(∀ x∈a,x∈b)->a.length<=b.length
 | [],b,_,_=>Nat.zero_le _
 | x::a,b,h,hs=>by
   rw[List.nodup_cons]at h;have hx:=hs x (by simp);have h1:=k9 (a:=a) (b:=b.erase x) h.2 λy c=>(List.mem_erase_of_ne (λ(e:y=x)=>h.1 (by rw[<- e];exact c))).2 (hs y (by simp[c]));rw[List.length_erase_of_mem hx]at h1;have:=List.length_pos_of_mem hx;simp only[List.length_cons];omega
theorem AI {α:Type} [DecidableEq α] {a b:List α}(h:a.Nodup) (hs:∀ x∈a,x∈b) (hl:b.length<=a.length) {x:α}(hx:x∈b):x∈a:=by
 refine Decidable.byContradiction λd=>?_;have:=k9 (a:=x::a) (b:=b) (List.nodup_cons.2 ⟨d,h⟩) λy c=>by
  rcases List.mem_cons.1 c with rfl | c
  ·exact hx
  ·exact hs y c
 simp only[List.length_cons]at this;omega
section
variable {l:List Gn}
theorem Hg {d:List Gn}{n:Gn}(h:n.kept.Nodup):(fe d n).Nodup:=by
 unfold fe;split
 ·exact h.filter _
 ·exact h
theorem Bh (a:∀ i,i<l.length->(l.getD i default).kept.Nodup) {i:Nat}(h:i<l.length):((aK l).getD i default).kept.Nodup:=by
 rw[mA h];exact Hg (a i h)
theorem FJ (b:Pw l) (d:∀ i,i<l.length->(l.getD i default).kept.Nodup) {j:Nat} : (gC (aK l) (j:Int)).Nodup:=by
 have key:∀ k,k<=(aK l).length->(gC ((aK l).take k) (j:Int)).Nodup:=by
  intro k;induction k with
  | zero=>intro _;simp[gC]
  | succ k ih=>
    intro f;rw[cC]at f;rw[take_one (aK l) default (by rw[cC];omega),vm,Db];split
    ·rename_i c;rw[jz om]at c;refine List.nodup_append.2 ⟨ih (by rw[cC];omega),Bh d om,λx hx y g e=>?_⟩;subst e;obtain⟨a,h1,h2,h3⟩:=tq.1 hx;rw[List.length_take,cC]at h1;rw[getD_take om,jz om]at h2;rw[getD_take om]at h3;have h0:0<k:=by
      rcases Nat.eq_zero_or_pos k with e | e
      ·have:=(b k om).1 e;omega
      ·exact e
     exact EU b om om (show k≠a by omega) h0 (by rw[c,h2]) g h3
    ·rw[List.append_nil];exact ih (by rw[cC];omega)
 have:=key (aK l).length (Nat.le_refl _);rwa[List.take_length]at this
theorem MJ (c:Pw l) {j:Nat}(d:j<l.length) {x:Int}(hx:x∈gC (aK l) (j:Int)):x∈((aK l).getD j default).kept:=by
 obtain⟨k,h1,h2,h3⟩:=tq.1 hx;rw[cC]at h1;rw[jz h1]at h2;have a:=c k h1;have h0:0<k:=by
  rcases Nat.eq_zero_or_pos k with e | e
  ·have:=a.1 e;omega
  ·exact e
 have b:=((oz h1 (a.2 h0).1 (a.2 h0).2).1 h3).2.1;rw[h2]at b;exact b
theorem PC (d:Pw l) (f:∀ i,i<l.length->(l.getD i default).kept.Nodup) {i:Nat}(h:i<l.length):under (aK l) (i:Int)=((aK l).getD i default).kept.length↔∀ x∈((aK l).getD i default).kept,∃ k,k<l.length/\(l.getD k default).par=(i:Int)/\x∈((aK l).getD k default).kept:=by
 rw[Jr];have h1:=FJ d f (j:=i);have h2:∀ x∈gC (aK l) (i:Int),x∈((aK l).getD i default).kept:=λx=>MJ d h;have h3:∀ x,x∈gC (aK l) (i:Int)↔∃ k,k<l.length/\(l.getD k default).par=(i:Int)/\x∈((aK l).getD k default).kept:=λx=>by
  rw[tq];constructor
  ·rintro⟨k,a,b,c⟩;rw[cC]at a;rw[jz a]at b;exact⟨k,a,b,c⟩
  ·rintro⟨k,a,b,c⟩;exact⟨k,by rw[cC];exact a,by rw[jz a];exact b,c⟩
 constructor
 ·intro e x hx;exact (h3 x).1 (AI h1 h2 om hx)
 ·intro g;refine Nat.le_antisymm (k9 h1 h2) (k9 (Bh f h) λx hx=>(h3 x).2 (g x hx))
end
structure Gr (N:Nat) (l:List Gn):Prop where
  pw:Pw l
  inc:∀ i,i<l.length->(l.getD i default).kept.Pairwise (· < ·)
  jd:∀ i,i<l.length->∀ x∈(l.getD i default).kept,0<=x/\x<N
section
variable {N:Nat}{l:List Gn}
theorem Gr.nd (h:Gr N l):∀ i,i<l.length->(l.getD i default).kept.Nodup:=λi a=>(h.inc i a).imp λh=>by omega
def Al (l:List Gn) (i:Nat):Prop:=i<l.length/\((aL (aK l)).getD i default).gone=false
theorem u9:(aL (aK l)).length=l.length:=by rw[Ji,cC]
theorem X6 {i:Nat}(h:i<l.length):((aL (aK l)).getD i default).par=(l.getD i default).par:=by rw[TX (by rw[cC];exact h),jz h]
theorem T1 {i:Nat}(h:i<l.length):((aL (aK l)).getD i default).kept=((aK l).getD i default).kept:=Qa (by rw[cC];exact h)
theorem w8 (a:Gr N l) {i:Nat}(h:i<l.length):((aL (aK l)).getD i default).gone=true↔((aK l).getD i default).kept=[]∨(0<i/\(((aL (aK l)).getD (l.getD i default).par.toNat default).bX=true∨((aL (aK l)).getD (l.getD i default).par.toNat default).gone=true)):=by
 rw[Qc (X5 a.pw) (by rw[cC];exact h),P6 h,jz h]
theorem Cv (a:Gr N l) {i:Nat}(h:i<l.length):((aL (aK l)).getD i default).bX=true↔((aL (aK l)).getD i default).gone=false/\∀ x∈((aK l).getD i default).kept,∃ k,k<l.length/\(l.getD k default).par=(i:Int)/\x∈((aK l).getD k default).kept:=by
 rw[Qb (by rw[cC];exact h),PC a.pw a.nd h]
theorem Al.ne (a:Gr N l) {i:Nat}(h:Al l i):((aK l).getD i default).kept≠[]:=λe=>by
 have:=(w8 a h.1).2 (.inl e);rw[h.2]at this;cases this
theorem Al.par (a:Gr N l) {i:Nat}(h:Al l i) (h0:0<i):Al l (l.getD i default).par.toNat/\((aL (aK l)).getD (l.getD i default).par.toNat default).bX=false/\(l.getD i default).par.toNat<i/\((l.getD i default).par.toNat:Int)=(l.getD i default).par:=by
 have h1:=(a.pw i h.1).2 h0;have b:¬ (((aL (aK l)).getD (l.getD i default).par.toNat default).bX=true∨((aL (aK l)).getD (l.getD i default).par.toNat default).gone=true):=λe=>by
  have:=(w8 a h.1).2 (.inr ⟨h0,e⟩);rw[h.2]at this;cases this
 have c:=h.1;refine⟨⟨by omega,?_⟩,?_,by omega,by omega⟩
 ·cases e:((aL (aK l)).getD (l.getD i default).par.toNat default).gone with
  | false=>rfl
  | true=>exact absurd (.inr e) b
 ·cases e:((aL (aK l)).getD (l.getD i default).par.toNat default).bX with
  | false=>rfl
  | true=>exact absurd (.inl e) b
theorem al_of (a:Gr N l) {i:Nat}(h:i<l.length) (h0:0<i) (dH:((aK l).getD i default).kept≠[]) (b:Al l (l.getD i default).par.toNat) (c:((aL (aK l)).getD (l.getD i default).par.toNat default).bX=false):Al l i:=by
 refine⟨h,?_⟩;cases e:((aL (aK l)).getD i default).gone with
 | false=>rfl
 | true=>
   rcases (w8 a h).1 e with e | ⟨-,e | e⟩
   ·exact absurd e dH
   ·rw[c]at e;cases e
   ·rw[b.2]at e;cases e
theorem lam (d:Gr N l) {x:Int} : ∀ n i j,j<=n->i<j->Al l i->Al l j->x∈((aK l).getD i default).kept->x∈((aK l).getD j default).kept->∃ c,c<=j/\0<c/\Al l c/\(l.getD c default).par=(i:Int)/\x∈((aK l).getD c default).kept:=by
 intro n;induction n with
 | zero=>intro i j h1 h2;omega
 | succ n ih=>
   intro i j r p e a f b;obtain⟨g,s,q,k⟩:=a.par d om;have m:=(d.pw j a.1).2 om;have o:=((oz a.1 m.1 m.2).1 b).2.1;rcases Nat.lt_trichotomy (l.getD j default).par.toNat i with h | h | h
   ·obtain⟨c,c1,c2,c3,c4,c5⟩:=ih _ i om h g e o f;exact absurd c5 (EU d.pw a.1 c3.1 om om (by rw[c4,k]) b)
   ·exact⟨j,Nat.le_refl _,by omega,a,by rw[<- k,h],b⟩
   ·obtain⟨c,c1,c2⟩:=ih i _ om h e g f o;exact⟨c,by omega,c2⟩
theorem own (a:Gr N l) {i:Nat}(h:Al l i):∃ x∈((aK l).getD i default).kept,∀ c,Al l c->(l.getD c default).par=(i:Int)->x ∉ ((aK l).getD c default).kept:=by
 cases e:((aL (aK l)).getD i default).bX with
 | true=>
   obtain⟨x,hx⟩:=List.exists_mem_of_ne_nil _ (h.ne a);refine⟨x,hx,λc b d=>?_⟩;have h0:0<c:=by
    rcases Nat.eq_zero_or_pos c with e | e
    ·have:=(a.pw c b.1).1 e;omega
    ·exact e
   have:=(b.par a h0).2.1;rw[d,Int.toNat_natCast,e]at this;cases this
 | false=>
   refine Classical.byContradiction λf=>?_;have:((aL (aK l)).getD i default).bX=true:=(Cv a h.1).2 ⟨h.2,λx hx=>Classical.byContradiction λg=>f ⟨x,hx,λc b d j=>g ⟨c,b.1,d,j⟩⟩⟩;rw[e]at this;cases this
theorem Fa (g:Gr N l):((List.range l.length).filter λi=>!((aL (aK l)).getD i default).gone).length<=N:=by
 have hm:∀ i∈(List.range l.length).filter (λi=>!((aL (aK l)).getD i default).gone),Al l i:=λi d=>by
  obtain⟨h1,h2⟩:=List.mem_filter.1 d;exact⟨List.mem_range.1 h1,by simpa using h2⟩
 have p:((List.range l.length).filter λi=>!((aL (aK l)).getD i default).gone).Nodup:=List.nodup_range.filter _;generalize (List.range l.length).filter (λi=>!((aL (aK l)).getD i default).gone)=j at *;have q:∃ f:Nat->Int,∀ i∈j,f i∈((aK l).getD i default).kept/\∀ c,Al l c->(l.getD c default).par=(i:Int)->f i ∉ ((aK l).getD c default).kept:=by
  have h1:∀ i,∃ x:Int,i∈j->x∈((aK l).getD i default).kept/\∀ c,Al l c->(l.getD c default).par=(i:Int)->x ∉ ((aK l).getD c default).kept:=λi=>by
   by_cases d:i∈j
   ·obtain⟨x,hx⟩:=own g (hm i d);exact⟨x,λ_=>hx⟩
   ·exact⟨0,λh=>absurd h d⟩
  exact⟨λi=>(h1 i).choose,λi d=>(h1 i).choose_spec d⟩
 obtain⟨f,k⟩:=q;have r:(j.map f).Nodup:=by
  rw[List.nodup_iff_pairwise_ne,List.pairwise_map];refine (List.nodup_iff_pairwise_ne.1 p).imp_of_mem fun {a b} m o dH e=>?_;have h1:=k a m;have h2:=k b o;rcases Nat.lt_or_ge a b with h | h
  ·obtain⟨c,c1,c2,c3,c4,c5⟩:=lam g b a b (Nat.le_refl _) h (hm a m) (hm b o) h1.1 (e ▸ h2.1);exact h1.2 c c3 c4 c5
  ·obtain⟨c,c1,c2,c3,c4,c5⟩:=lam g a b a (Nat.le_refl _) om (hm b o) (hm a m) h2.1 (e ▸ h1.1);exact h2.2 c c3 c4 c5
 have:=k9 (b:=(List.range N).map λ(n:Nat)=>(n:Int)) r λx hx=>by
  obtain⟨i,d,rfl⟩:=List.mem_map.1 hx;have h1:=hm i d;have h2:=g.jd i h1.1 _ (w6 g.pw h1.1 (k i d).1);exact List.mem_map.2 ⟨(f i).toNat,List.mem_range.2 om,by omega⟩
 simpa using this
end
def fr (U:List Int):Nat->Int->Nat
 | 0,_=>0
 | k+1,n=>(if n+1∈U then 0 else 1)+fr U k (n+1)
theorem PG (U : List Int) : ∀ (k : Nat) (n : Int), k <= fr U k n + (U.filter λx => decide (n < x)).length
 | 0,n=>Nat.zero_le _
 | k + 1, n => by
   have ih:=PG U k (n+1);unfold fr;by_cases h:n+1∈U
   ·rw[if_pos h];have h1 : ((U.filter λx => decide (n + 1 < x)).length) + 1 <= (U.filter λx => decide (n < x)).length := by
     have : ∀ (l : List Int), n + 1 ∈ l -> (l.filter λx => decide (n + 1 < x)).length + 1 <= (l.filter λx => decide (n < x)).length := by
      intro l;induction l with
      | nil=>intro h;cases h
      | cons y l c=>
        intro h;have d:∀ (l:List Int),(l.filter λx=>decide (n+1<x)).length<=(l.filter λx=>decide (n<x)).length:=by
         intro l;induction l with
         | nil=>simp
         | cons y l b=>
           rw[List.filter_cons,List.filter_cons];by_cases a:n+1<y
           ·rw[if_pos (by simpa using a),if_pos (by simp;omega)];simp;omega
           ·rw[if_neg (by simpa using a)];split
            ·simp;omega
            ·exact b
        rw[List.filter_cons,List.filter_cons];by_cases e:y=n+1
        ·subst e;rw[if_neg (by simp),if_pos (by simp;omega)];have:=d l;simp only[List.length_cons];omega
        ·have h2:n+1∈l:=by
          rcases List.mem_cons.1 h with f | h2
          ·exact absurd f.symm e
          ·exact h2
         have h3:=c h2;by_cases a:n+1<y
         ·rw[if_pos (by simpa using a),if_pos (by simp;omega)];simp only[List.length_cons];omega
         ·rw[if_neg (by simpa using a),if_neg (by simp;omega)];exact h3
     exact this U h
    omega
   ·rw[if_neg h];have h1 : (U.filter λx => decide (n + 1 < x)).length <= (U.filter λx => decide (n < x)).length := by
     have:∀ (l:List Int),(l.filter λx=>decide (n+1<x)).length<=(l.filter λx=>decide (n<x)).length:=by
      intro l;induction l with
      | nil=>simp
      | cons y l b=>
        rw[List.filter_cons,List.filter_cons];by_cases a:n+1<y
        ·rw[if_pos (by simpa using a),if_pos (by simp;omega)];simp;omega
        ·rw[if_neg (by simpa using a)];split
         ·simp;omega
         ·exact b
     exact this U
    omega
theorem NL (U:List Int):∀ (k:Nat) (n:Int),1<=fr U k n->fS U k n ∉ U/\n<fS U k n/\fS U k n<=n+k/\fr U (k - (fS U k n - n).toNat) (fS U k n)+1=fr U k n
 | 0,n,h=>by simp[fr]at h
 | k + 1, n, h => by
   unfold fr at h;unfold fS;by_cases a:n+1∈U
   ·rw[if_pos a]at h ⊢;obtain⟨h1,h2,h3,b⟩:=NL U k (n+1) om;refine⟨h1,by omega,by omega,?_⟩;have e:fr U (k+1) n=fr U k (n+1):=by
     show (if n+1∈U then 0 else 1)+fr U k (n+1)=_;rw[if_pos a];omega
    rw[e,<- b];congr 2;omega
   ·rw[if_neg a]at h ⊢;refine⟨a,by omega,by omega,?_⟩;have e:fr U (k+1) n=1+fr U k (n+1):=by
     show (if n+1∈U then 0 else 1)+fr U k (n+1)=_;rw[if_neg a]
    rw[e];have:k+1 - (n+1 - n).toNat=k:=by omega
    rw[this];omega
theorem xP (U:List Int) (f:Nat):∀ (l:List Gn) (n:Int),(fF U f n l).length=l.length
 | [],_=>rfl
 | x::l,n=>by
   unfold fF;split
   ·simp[xP U f l]
   ·simp[xP U f l]
theorem qu (U:List Int) (f:Nat):∀ (l:List Gn) (n:Int) (i:Nat),((fF U f n l).getD i default).par=(l.getD i default).par/\((fF U f n l).getD i default).kept=(l.getD i default).kept/\((fF U f n l).getD i default).old=(l.getD i default).old/\((fF U f n l).getD i default).gone=(l.getD i default).gone/\((fF U f n l).getD i default).bX=(l.getD i default).bX/\(((l.getD i default).old || (l.getD i default).gone)=true->((fF U f n l).getD i default).name=(l.getD i default).name)
 | [],_,_=>by simp[fF]
 | x :: l, n, i => by
   unfold fF;split
   ·cases i with
    | zero=>simp
    | succ i=>simpa using qu U f l n i
   ·rename_i h;cases i with
    | zero=>simp;intro h2;simp at h;rcases h2 with h2 | h2<;>simp[h2]at h
    | succ i=>simpa using qu U f l _ i
def EZ (l:List Gn):Nat:=(l.filter λn=>!(n.old || n.gone)).length
theorem sr (U:List Int) (f:Nat):∀ (l:List Gn) (n:Int),0<=n->n<=f->EZ l<=fr U (f - n.toNat) n->∀ i,i<l.length->((l.getD i default).old || (l.getD i default).gone)=false->n<((fF U f n l).getD i default).name/\((fF U f n l).getD i default).name<=f/\((fF U f n l).getD i default).name ∉ U/\∀ j,j<i->((l.getD j default).old || (l.getD j default).gone)=false->((fF U f n l).getD j default).name<((fF U f n l).getD i default).name
 | [],_,_,_,_=>λi hi=>absurd hi (by simp)
 | x :: l, n, h0, g, c => by
   intro i hi d;unfold fF;by_cases hx:(x.old || x.gone)=true
   ·rw[if_pos hx];have h:EZ l<=fr U (f - n.toNat) n:=by
     unfold EZ at *;rw[List.filter_cons,if_neg (by rw[hx];simp)]at c;exact c
    have ih:=sr U f l n h0 g h;cases i with
    | zero=>rw[show (x::l).getD 0 default=x from rfl,hx]at d;cases d
    | succ i=>
      obtain⟨a1,a2,a3,a4⟩:=ih i (by simpa using hi) d;refine⟨a1,a2,a3,λj e a=>?_⟩;cases j with
      | zero=>rw[show (x::l).getD 0 default=x from rfl,hx]at a;cases a
      | succ j=>exact a4 j om a
   ·rw[if_neg hx];have o:EZ l+1<=fr U (f - n.toNat) n:=by
     unfold EZ at *;rw[List.filter_cons,if_pos (by simpa using hx)]at c;simpa using c
    obtain⟨k,b2,p,q⟩:=NL U (f - n.toNat) n om;generalize fS U (f - n.toNat) n=b at *;have m:f - b.toNat=f - n.toNat - (b - n).toNat:=by omega
    have ih:=sr U f l b om om (by rw[m];omega);cases i with
    | zero=>exact⟨b2,by show b<=_;omega,k,λj e=>absurd e om⟩
    | succ i=>
      obtain⟨a1,a2,a3,a4⟩:=ih i (by simpa using hi) d;refine⟨by show n<((fF U f b l).getD i default).name;omega,a2,a3,λj e a=>?_⟩;cases j with
      | zero=>exact a1
      | succ j=>exact a4 j om a
theorem oq {α:Type} [Inhabited α] (l:List α) (p:α->Bool):(l.filter p).length=((List.range l.length).filter λi=>p (l.getD i default)).length:=by
 have e:l=(List.range l.length).map λi=>l.getD i default:=by
  refine List.ext_getElem (by simp) λi h1 h2=>?_;simp[gD,h1]
 conv=>lhs;rw[e,List.filter_map,List.length_map]
 rfl
theorem yD {α:Type} [Inhabited α] {l:List α}{p:α->Bool}{i:Nat}(h:i<l.length) (a:p (l.getD i default)=true):(l.filter p).getD ((l.take i).filter p).length default=l.getD i default/\((l.take i).filter p).length<(l.filter p).length:=by
 have e:l=l.take i++(l.getD i default::l.drop (i+1)):=by
  have h1:=take_one l default h;have h2:l.take (i+1)++l.drop (i+1)=l:=List.take_append_drop _ _;rw[h1,List.append_assoc]at h2;exact h2.symm
 have b:l.filter p=(l.take i).filter p++(l.getD i default::(l.drop (i+1)).filter p):=by
  conv=>lhs;rw[e]
  rw[List.filter_append,List.filter_cons,if_pos a]
 rw[b];refine⟨?_,by simp⟩;rw[iP (Nat.le_refl _),Nat.sub_self];rfl
theorem PR {α:Type} [Inhabited α] {l:List α}{p:α->Bool} : ∀ {j:Nat},j<(l.filter p).length->∃ i,i<l.length/\p (l.getD i default)=true/\((l.take i).filter p).length=j:=by
 induction l with
 | nil=>intro j h;exact absurd h (by simp)
 | cons x l ih=>
   intro j h;rw[List.filter_cons]at h;by_cases hx:p x=true
   ·rw[if_pos hx]at h;cases j with
    | zero=>exact⟨0,by simp,hx,by simp⟩
    | succ j=>
      obtain⟨i,h1,h2,h3⟩:=ih (j:=j) (by simpa using h);refine⟨i+1,by simpa using h1,h2,?_⟩;rw[List.take_succ_cons,List.filter_cons,if_pos hx,List.length_cons,h3]
   ·rw[if_neg hx]at h;obtain⟨i,h1,h2,h3⟩:=ih h;refine⟨i+1,by simpa using h1,h2,?_⟩;rw[List.take_succ_cons,List.filter_cons,if_neg hx,h3]
theorem Ct {α:Type} [Inhabited α] {l:List α}{p:α->Bool}{i k:Nat}(h:i<k) (b:k<=l.length) (a:p (l.getD i default)=true):((l.take i).filter p).length<((l.take k).filter p).length:=by
 have h1:=yD (l:=l.take k) (p:=p) (i:=i) (by rw[List.length_take];omega) (by rw[getD_take h];exact a);rw[List.take_take,Nat.min_eq_left om]at h1;exact h1.2
theorem PT {α:Type} [Inhabited α] {l:List α}{p:α->Bool}{i k:Nat}(hi:i<l.length) (c:k<l.length) (a:p (l.getD i default)=true) (b:p (l.getD k default)=true) (e:((l.take i).filter p).length=((l.take k).filter p).length):i=k:=by
 rcases Nat.lt_trichotomy i k with h | h | h
 ·have:=Ct h om a;omega
 ·exact h
 ·have:=Ct h om b;omega
section
variable {N:Nat}{mv:Nat->Mv}{t:List Nd}
theorem fH:(grown N mv t).length=2*t.length:=by simp[grown];omega
theorem kq {i:Nat}(h:i<t.length):(grown N mv t).getD i default=tU N mv (t.getD i default):=by
 unfold grown;rw[uZ (by simpa using h),getD_map h]
theorem mR {i:Nat}(h:i<t.length):(grown N mv t).getD (t.length+i) default=oT N mv i (t.getD i default):=by
 unfold grown;rw[iP (by simp),List.length_map,Nat.add_sub_cancel_left];simp[gD,h]
theorem gU {i:Nat}(h:i<(grown N mv t).length):i<t.length∨∃ k,k<t.length/\i=t.length+k:=by
 rw[fH]at h;by_cases e:i<t.length
 ·exact .inl e
 ·exact .inr ⟨i - t.length,by omega,by omega⟩
theorem Ba (h:Tr N t):Gr N (grown N mv t):=by
 refine⟨λi a=>?_,λi a=>?_,λi a x hx=>?_⟩
 ·rcases gU a with e | ⟨k,b,rfl⟩
  ·rw[kq e];have h1:=h.1 i e;have hl:(t.take i).length=i:=by rw[List.length_take];omega
   exact⟨λc=>h1.root om,λc=>by have:=h1.par (by omega);rw[hl]at this;exact this⟩
  ·rw[mR b];exact⟨λc=>by omega,λ_=>⟨by show (0:Int)<=(k:Int);omega,by show (k:Int)<_;omega⟩⟩
 ·rcases gU a with e | ⟨k,b,rfl⟩
  ·rw[kq e];exact qR _ _
  ·rw[mR b];exact qR _ _
 ·rcases gU a with e | ⟨k,b,rfl⟩
  ·rw[kq e]at hx;exact (gf.1 hx).2
  ·rw[mR b]at hx;exact (gf.1 hx).2
abbrev Ls (N:Nat) (mv:Nat->Mv) (t:List Nd) (i:Nat):Gn:=(cI N mv t).getD i default
abbrev Ks (N:Nat) (mv:Nat->Mv) (t:List Nd) (i:Nat):List Int:=((aK (grown N mv t)).getD i default).kept
abbrev As (N:Nat) (mv:Nat->Mv) (t:List Nd) (i:Nat):Prop:=Al (grown N mv t) i
theorem sw:(cI N mv t).length=2*t.length:=by
 unfold cI named;rw[xP,u9,fH]
theorem kE (i:Nat) (hi:i<(grown N mv t).length):(Ls N mv t i).par=((grown N mv t).getD i default).par/\(Ls N mv t i).kept=Ks N mv t i/\(Ls N mv t i).gone=((aL (aK (grown N mv t))).getD i default).gone/\(Ls N mv t i).bX=((aL (aK (grown N mv t))).getD i default).bX/\(Ls N mv t i).old=((grown N mv t).getD i default).old:=by
 obtain⟨h1,h2,h3,a,b,h6⟩:=qu (fD (aL (aK (grown N mv t)))) (2*N) (aL (aK (grown N mv t))) 0 i;have e:Ls N mv t i=(fF (fD (aL (aK (grown N mv t)))) (2*N) 0 (aL (aK (grown N mv t)))).getD i default:=rfl;rw[e];exact⟨h1.trans (X6 hi),h2.trans (T1 hi),a,b,h3.trans ((qH (by rw[cC];exact hi)).trans (qz hi))⟩
theorem mL {i:Nat}(h:i<t.length):(Ls N mv t i).old=true/\(Ls N mv t i).name=(t.getD i default).name:=by
 have a:i<(grown N mv t).length:=by rw[fH];omega
 have h1:=(kE (N:=N) (mv:=mv) i a).2.2.2.2;rw[kq h]at h1;refine⟨h1,?_⟩;have h6:=(qu (fD (aL (aK (grown N mv t)))) (2*N) (aL (aK (grown N mv t))) 0 i).2.2.2.2.2;have ho:((aL (aK (grown N mv t))).getD i default).old=true:=by
  rw[qH (by rw[cC];exact a),qz a,kq h];rfl
 rw[ho]at h6;have e:(Ls N mv t i).name=_:=h6 rfl;rw[e,yK (by rw[cC];exact a),yG a,kq h];rfl
theorem Rj:∀ x,x∈fD (aL (aK (grown N mv t)))↔x∈t.map (·.name):=by
 intro x;unfold fD;rw[List.mem_map,List.mem_map];constructor
 ·rintro⟨n,c,rfl⟩;obtain⟨c,ho⟩:=List.mem_filter.1 c;obtain⟨i,a,rfl⟩:=iJ c;rw[u9]at a;have b:=a;rw[qH (by rw[cC];exact a),qz a]at ho;rcases gU a with e | ⟨k,d,rfl⟩
  ·refine⟨t.getD i default,mz e,?_⟩;rw[yK (by rw[cC];exact b),yG b,kq e];rfl
  ·rw[mR d]at ho;cases ho
 ·rintro⟨n,c,rfl⟩;obtain⟨i,a,rfl⟩:=iJ c;have b:i<(grown N mv t).length:=by rw[fH];omega
  refine⟨(aL (aK (grown N mv t))).getD i default,List.mem_filter.2 ⟨mz (by rw[u9];exact b),?_⟩,?_⟩
  ·rw[qH (by rw[cC];exact b),qz b,kq a];rfl
  ·rw[yK (by rw[cC];exact b),yG b,kq a];rfl
theorem Ms:(fD (aL (aK (grown N mv t)))).length<=t.length:=by
 unfold fD;rw[List.length_map,oq,u9,fH];have h:∀ i∈(List.range (2*t.length)).filter (λi=>((aL (aK (grown N mv t))).getD i default).old),i∈List.range t.length:=λi b=>by
  obtain⟨h1,h2⟩:=List.mem_filter.1 b;have a:i<(grown N mv t).length:=by rw[fH];exact List.mem_range.1 h1
  rw[qH (by rw[cC];exact a),qz a]at h2;rcases gU a with e | ⟨k,c,rfl⟩
  ·exact List.mem_range.2 e
  ·rw[mR c]at h2;cases h2
 have:=k9 (List.nodup_range.filter _) h;simpa using this
theorem N1 (h:Tr N t) (hl:t.length<=N) {i:Nat}(g:As N mv t i) (hi:t.length<=i):1<=(Ls N mv t i).name/\(Ls N mv t i).name<=2*N/\(Ls N mv t i).name ∉ t.map (·.name)/\∀ j,j<i->t.length<=j->As N mv t j->(Ls N mv t j).name<(Ls N mv t i).name:=by
 have m:∀ j,t.length<=j->As N mv t j->(((aL (aK (grown N mv t))).getD j default).old || ((aL (aK (grown N mv t))).getD j default).gone)=false:=λj o a=>by
  rw[a.2,qH (by rw[cC];exact a.1),qz a.1];rcases gU a.1 with e | ⟨k,q,rfl⟩
  ·omega
  ·rw[mR q];rfl
 have r : EZ (aL (aK (grown N mv t))) <= fr (fD (aL (aK (grown N mv t)))) (2 * N - (0 : Int).toNat) 0 := by
  have h1:=PG (fD (aL (aK (grown N mv t)))) (2*N) 0;have h2:=List.length_filter_le (λx=>decide ((0:Int)<x)) (fD (aL (aK (grown N mv t))));have h3:=Ms (N:=N) (mv:=mv) (t:=t);have u:=Fa (Ba (mv:=mv) h);have s:EZ (aL (aK (grown N mv t)))<=((aL (aK (grown N mv t))).filter λn=>!n.gone).length:=by
   unfold EZ;generalize aL (aK (grown N mv t))=c;induction c with
   | nil=>simp
   | cons x c ih=>
     rw[List.filter_cons,List.filter_cons];by_cases b:x.gone=true
     ·simp[b];simpa using ih
     ·by_cases p:x.old=true
      ·simp[b,p];have:=ih;simp at this;omega
      ·simp[b,p];simpa using ih
  rw[oq,u9]at s;rw[show 2*N - (0:Int).toNat=2*N from by simp];omega
 have d:=sr (fD (aL (aK (grown N mv t)))) (2*N) (aL (aK (grown N mv t))) 0 om om r i (by rw[u9];exact g.1) (m i hi g);have e:∀ j,Ls N mv t j=(fF (fD (aL (aK (grown N mv t)))) (2*N) 0 (aL (aK (grown N mv t)))).getD j default:=λ_=>rfl;rw[e];refine⟨by omega,by have:=d.2.1;omega,λhm=>d.2.2.1 ((Rj _).2 hm),λj o f a=>?_⟩;rw[e];exact d.2.2.2 j o (m j f a)
def ps (N:Nat) (mv:Nat->Mv) (t:List Nd) (i:Nat):Nat:=(((cI N mv t).take i).filter λn=>!n.gone).length
theorem oG {i:Nat}(h:As N mv t i):(Ls N mv t i).gone=false:=(kE i h.1).2.2.1.trans h.2
theorem E7 {i:Nat}(h:As N mv t i):i<(cI N mv t).length:=by rw[sw,<- fH (N:=N) (mv:=mv)];exact h.1
theorem Np {i k:Nat}(h:As N mv t i) (a:k<=2*t.length) (b:i<k):ps N mv t i<ps N mv t k:=Ct b (by rw[sw];exact a) (by show (!(Ls N mv t i).gone)=true;rw[oG h];rfl)
theorem F9 {i k:Nat}(hi:As N mv t i) (a:As N mv t k) (e:ps N mv t i=ps N mv t k):i=k:=
 PT (E7 hi) (E7 a) (by show (!(Ls N mv t i).gone)=true;rw[oG hi];rfl) (by show (!(Ls N mv t k).gone)=true;rw[oG a];rfl) e
theorem BK:ps N mv t 0=0:=by simp[ps]
theorem VR {j:Nat}(h:j<(step N mv t).length):∃ i,As N mv t i/\ps N mv t i=j:=by
 unfold step leave at h;rw[List.length_map]at h;obtain⟨i,h1,h2,h3⟩:=PR h;have a:i<(grown N mv t).length:=by rw[fH,<- sw (N:=N) (mv:=mv)];exact h1
 refine⟨i,⟨a,?_⟩,h3⟩;rw[<- (kE i a).2.2.1];simpa using h2
theorem MO:(step N mv t).length=((cI N mv t).filter λn=>!n.gone).length:=by
 unfold step leave;rw[List.length_map]
theorem uK {i:Nat}(h:As N mv t i):ps N mv t i<(step N mv t).length:=by
 rw[MO];exact (yD (E7 h) (by show (!(Ls N mv t i).gone)=true;rw[oG h];rfl)).2
theorem rV (a:Gr N (grown N mv t)) {i:Nat}(h:As N mv t i):(step N mv t).getD (ps N mv t i) default=⟨(Ls N mv t i).name,if i=0 then -1 else (ps N mv t ((grown N mv t).getD i default).par.toNat:Int),Ks N mv t i⟩:=by
 have h1:=yD (E7 h) (p:=λn:Gn=>!n.gone) (by show (!(Ls N mv t i).gone)=true;rw[oG h];rfl);have h2:(step N mv t).getD (ps N mv t i) default=(λn:Gn=>(⟨n.name,place (cI N mv t) n.par,n.kept⟩:Nd)) (((cI N mv t).filter λn=>!n.gone).getD (ps N mv t i) default):=by
  unfold step leave;exact getD_map h1.2
 rw[h2];have h3:((cI N mv t).filter λn=>!n.gone).getD (ps N mv t i) default=Ls N mv t i:=h1.1;rw[h3];obtain⟨b,c,f,g,j⟩:=kE (N:=N) (mv:=mv) i h.1;simp only[b,c];congr 1;unfold place;rcases Nat.eq_zero_or_pos i with e | e
 ·rw[if_pos (show i=0 from e),if_neg (show ¬ 0<=((grown N mv t).getD i default).par by have:=(a.pw i h.1).1 e;omega)];exact (a.pw i h.1).1 e
 ·obtain⟨p1,p2,p3,p4⟩:=Al.par a h e;have d:((cI N mv t).getD ((grown N mv t).getD i default).par.toNat default).gone=false:=oG p1;rw[if_neg (show ¬ i=0 by omega),if_pos (show 0<=((grown N mv t).getD i default).par by omega),if_neg (by rw[d];simp)];rfl
theorem MP (h:Tr N t):(step N mv t).length<=N:=by
 have a:=Fa (Ba (mv:=mv) h);rw[MO,oq,sw,<- fH (N:=N) (mv:=mv)];have:(List.range (grown N mv t).length).filter (λi=>!((cI N mv t).getD i default).gone)=(List.range (grown N mv t).length).filter (λi=>!((aL (aK (grown N mv t))).getD i default).gone):=by
  refine List.filter_congr λi b=>?_;rw[<- (kE i (List.mem_range.1 b)).2.2.1]
 rw[this];exact a
end
section
variable {N:Nat}{mv:Nat->Mv}{t:List Nd}
theorem uq {i:Nat}(h:As N mv t i):i<2*t.length:=by rw[<- fH (N:=N) (mv:=mv)];exact h.1
theorem qq (h:Tr N t) {i k:Nat}(hi:i<t.length) (a:k<t.length) (e:(t.getD i default).name=(t.getD k default).name):i=k:=by
 have key:∀ i k,k<t.length->i<k->(t.getD i default).name≠(t.getD k default).name:=λi k a b e=>by
  have h1:=(h.1 k a).name.2.2;refine h1 (List.mem_map.2 ⟨t.getD i default,?_,e⟩);have h2:=mz (l:=t.take k) (i:=i) (by rw[List.length_take];omega);rwa[getD_take b]at h2
 rcases Nat.lt_trichotomy i k with h | h | h
 ·exact absurd e (key i k a h)
 ·exact h
 ·exact absurd e.symm (key k i hi h)
theorem Sr (h:Tr N t) (hl:t.length<=N) {i:Nat}(hi:As N mv t i):1<=(Ls N mv t i).name/\(Ls N mv t i).name<=2*N/\∀ k,k<i->As N mv t k->(Ls N mv t k).name≠(Ls N mv t i).name:=by
 by_cases e:i<t.length
 ·have h1:=(h.1 i e).name;rw[(mL e).2];refine⟨h1.1,h1.2.1,λk b c=>?_⟩;rw[(mL (show k<t.length by omega)).2];intro a;have:=qq h om e a;omega
 ·obtain⟨h1,h2,h3,d⟩:=N1 h hl hi om;refine⟨h1,h2,λk b c=>?_⟩;by_cases a:k<t.length
  ·rw[(mL a).2];intro f;exact h3 (f ▸ List.mem_map.2 ⟨_,mz a,rfl⟩)
  ·have:=d k b om c;omega
theorem Wm (a:Gr N (grown N mv t)) {i:Nat}(h:i<(grown N mv t).length):(Ks N mv t i).Pairwise (· < ·):=by
 unfold Ks;rw[mA h];show (fe _ _).Pairwise (· < ·);unfold fe;split
 ·exact (a.inc i h).filter _
 ·exact a.inc i h
theorem kW (a:Gr N (grown N mv t)) {j:Nat}(b:j<(step N mv t).length):∃ i,As N mv t i/\ps N mv t i=j/\(step N mv t).getD j default=⟨(Ls N mv t i).name,if i=0 then -1 else (ps N mv t ((grown N mv t).getD i default).par.toNat:Int),Ks N mv t i⟩:=by
 obtain⟨i,h1,h2⟩:=VR b;exact⟨i,h1,h2,by rw[<- h2];exact rV a h1⟩
theorem UK {i k:Nat}(h:As N mv t k) (e:ps N mv t i<ps N mv t k) (hi:i<=2*t.length):i<k:=by
 rcases Nat.lt_or_ge i k with h1 | h1
 ·exact h1
 ·rcases Nat.eq_or_lt_of_le h1 with h2 | h2
  ·subst h2;omega
  ·have:=Np h hi h2;omega
theorem Rn (h:Tr N t) (hl:t.length<=N):Ok N (step N mv t):=by
 have a:=Ba (mv:=mv) h;intro j D;obtain⟨i,b,A,E⟩:=kW a D;have g:((step N mv t).take j).length=j:=by rw[List.length_take];omega
 have u:=Sr h hl b;rw[E];have m:0<j->0<i:=λh0=>by
  rcases Nat.eq_zero_or_pos i with e | e
  ·subst e;rw[BK]at A;omega
  ·exact e
 have v:0<i->As N mv t ((grown N mv t).getD i default).par.toNat/\ps N mv t ((grown N mv t).getD i default).par.toNat<j/\(((grown N mv t).getD i default).par.toNat:Int)=((grown N mv t).getD i default).par:=λh0=>by
  obtain⟨p1,p2,p3,p4⟩:=Al.par a b h0;exact⟨p1,by rw[<- A];exact Np p1 (by have:=uq b;omega) p3,p4⟩
 refine⟨λf=>?_,λf=>?_,⟨u.1,u.2.1,?_⟩,?_,λx hx=>?_,Wm a b.1,λf x hx=>?_⟩
 ·rw[g]at f;show (if i=0 then (-1:Int) else _) = -1;rcases Nat.eq_zero_or_pos i with e | e
  ·rw[if_pos e]
  ·have:=(v e).2.1;omega
 ·rw[g]at f ⊢;have h0:=m f;show 0<=(if i=0 then (-1:Int) else _)/\(if i=0 then (-1:Int) else _)<_;rw[if_neg om];have:=(v h0).2.1;omega
 ·intro hm;obtain⟨n,o,e⟩:=List.mem_map.1 hm;obtain⟨k,p,rfl⟩:=iJ o;rw[g]at p;rw[getD_take p]at e;obtain⟨c,q,r,w⟩:=kW a (show k<(step N mv t).length by omega);rw[w]at e;exact u.2.2 c (UK b om (by have:=uq q;omega)) q e
 ·exact b.ne a
 ·exact a.jd i b.1 x (w6 a.pw b.1 hx)
 ·rw[g]at f;have h0:=m f;obtain⟨p1,p2,p3⟩:=v h0;have B:=(a.pw i b.1).2 h0;have hm:=(oz b.1 B.1 B.2).1 hx;show x∈(((step N mv t).take j).getD (if i=0 then (-1:Int) else _).toNat default).set/\x ∉ below ((step N mv t).take j) (if i=0 then (-1:Int) else _);rw[if_neg om,Int.toNat_natCast,getD_take p2,rV a p1];refine⟨hm.2.1,λC=>?_⟩;unfold below at C;obtain⟨n,o,y⟩:=List.mem_flatMap.1 C;obtain⟨o,z⟩:=List.mem_filter.1 o;obtain⟨k,p,rfl⟩:=iJ o;rw[g]at p;rw[getD_take p]at z y;obtain⟨c,q,r,w⟩:=kW a (show k<(step N mv t).length by omega);rw[w]at z y;have d:(if c=0 then (-1:Int) else (ps N mv t ((grown N mv t).getD c default).par.toNat:Int))=(ps N mv t ((grown N mv t).getD i default).par.toNat:Int):=by simpa using z
  have s:0<c:=by
   rcases Nat.eq_zero_or_pos c with e | e
   ·rw[if_pos e]at d;omega
   ·exact e
  rw[if_neg om]at d;obtain⟨q1,G,H,I⟩:=Al.par a q s;have J:=F9 q1 p1 om;have F:c<i:=UK b om (by have:=uq q;omega);exact hm.2.2 c F om y
theorem MQ (b:Gr N (grown N mv t)) {i:Nat}(hi:As N mv t i) {x:Int} : x∈below (step N mv t) (ps N mv t i:Int)↔∃ k,As N mv t k/\0<k/\((grown N mv t).getD k default).par=(i:Int)/\x∈Ks N mv t k:=by
 unfold below;rw[List.mem_flatMap];constructor
 ·rintro⟨n,d,hx⟩;obtain⟨d,c⟩:=List.mem_filter.1 d;obtain⟨j,h,rfl⟩:=iJ d;obtain⟨k,a,m,o⟩:=kW b h;rw[o]at c hx;have g:(if k=0 then (-1:Int) else (ps N mv t ((grown N mv t).getD k default).par.toNat:Int))=(ps N mv t i:Int):=by simpa using c
  have f:0<k:=by
   rcases Nat.eq_zero_or_pos k with e | e
   ·rw[if_pos e]at g;omega
   ·exact e
  rw[if_neg om]at g;obtain⟨q1,p,q,r⟩:=Al.par b a f;have s:=F9 q1 hi om;exact⟨k,a,f,by omega,hx⟩
 ·rintro⟨k,a,f,c,hx⟩;refine⟨(step N mv t).getD (ps N mv t k) default,List.mem_filter.2 ⟨mz (uK a),?_⟩,?_⟩
  ·rw[rV b a];simp only[decide_eq_true_eq];rw[if_neg om,c,Int.toNat_natCast]
  ·rw[rV b a];exact hx
theorem Rm (h:Tr N t) (hl:t.length<=N):Tr N (step N mv t):=by
 have a:=Ba (mv:=mv) h;have b:=Rn (mv:=mv) h hl;refine⟨b,λj c e=>?_⟩;obtain⟨i,d,g,m⟩:=kW a c;have n:=b.nodup (j:Int) om;obtain⟨x,hx,o⟩:=own a d;have p:((step N mv t).getD j default).set=Ks N mv t i:=by rw[m]
 have f:=AI n (λy q=>b.LD c q) om (show x∈((step N mv t).getD j default).set by rw[p];exact hx);rw[<- g]at f;obtain⟨k,r,v,s,u⟩:=(MQ a d).1 f;exact o k r s u
end
theorem wR {mv:Nat->Mv}{set:List Int}{p:Int × Bool->Bool}{x:Int} : x∈CN mv set p↔∃ y∈set,∃ b,(x,b)∈mv y.toNat/\p (x,b)=true:=by
 unfold CN;rw[List.mem_flatMap];constructor
 ·rintro⟨y,a,hx⟩;obtain⟨m,hm,rfl⟩:=List.mem_map.1 hx;obtain⟨h1,h2⟩:=List.mem_filter.1 hm;exact⟨y,a,m.2,h1,h2⟩
 ·rintro⟨y,a,b,h1,h2⟩;exact⟨y,a,List.mem_map.2 ⟨(x,b),List.mem_filter.2 ⟨h1,h2⟩,rfl⟩⟩
section
variable {N:Nat}{mv:Nat->Mv}{t:List Nd}
theorem RQ (i:Nat):ps N mv t i<=i:=by
 unfold ps;have:=List.length_filter_le (λn:Gn=>!n.gone) ((cI N mv t).take i);rw[List.length_take]at this;omega
theorem Ro (h:Tr N t) (hl:t.length<=N) {j:Nat}(d:j<(step N mv t).length) :
 (∃ i,i<t.length/\As N mv t i/\ps N mv t i=j/\((step N mv t).getD j default).name=(t.getD i default).name) ∨
 (∃ k,k<t.length/\As N mv t (t.length+k)/\ps N mv t (t.length+k)=j/\((step N mv t).getD j default).name ∉ t.map (·.name)):=by
 have f:=Ba (mv:=mv) h;obtain⟨i,a,b,c⟩:=kW f d;rcases gU a.1 with e | ⟨k,g,rfl⟩
 ·exact .inl ⟨i,e,a,b,by rw[c];exact (mL e).2⟩
 ·refine .inr ⟨k,g,a,b,?_⟩;rw[c];exact (N1 h hl a om).2.2.1
theorem wL {i:Nat}(a:Gr N (grown N mv t)) (h:As N mv t i) (hi:i<t.length):((step N mv t).getD (ps N mv t i) default).name=(t.getD i default).name:=by
 rw[rV a h];exact (mL hi).2
theorem rU {i:Nat}(a:Gr N (grown N mv t)) (h:As N mv t i):((step N mv t).getD (ps N mv t i) default).set=Ks N mv t i:=by rw[rV a h]
theorem B0 (a:Gr N (grown N mv t)) {i:Nat}(hi:i<t.length) {x:Int}(hx:x∈Ks N mv t i):∃ y∈(t.getD i default).set,∃ b,(x,b)∈mv y.toNat:=by
 have c:i<(grown N mv t).length:=by rw[fH];omega
 have h1:=w6 a.pw c hx;rw[kq hi]at h1;obtain⟨y,d,b,e,-⟩:=wR.1 (gf.1 h1).1;exact⟨y,d,b,e⟩
theorem Gw (a:Gr N (grown N mv t)) {k:Nat}(c:k<t.length) {x:Int}(hx:x∈Ks N mv t (t.length+k)):∃ y∈(t.getD k default).set,(x,true)∈mv y.toNat:=by
 have d:t.length+k<(grown N mv t).length:=by rw[fH];omega
 have h1:=w6 a.pw d hx;rw[mR c]at h1;obtain⟨y,e,b,f,h2⟩:=wR.1 (gf.1 h1).1;have:b=true:=h2;subst this;exact⟨y,e,f⟩
theorem PA {i:Nat}(hi:i<t.length) {x y:Int}{b:Bool}(a:y∈(t.getD i default).set) (hm:(x,b)∈mv y.toNat) (hx:0<=x/\x<N):x∈((grown N mv t).getD i default).kept:=by
 rw[kq hi];exact gf.2 ⟨wR.2 ⟨y,a,b,hm,rfl⟩,hx⟩
theorem XT {k:Nat}(a:k<t.length) {x y:Int}(b:y∈(t.getD k default).set) (hm:(x,true)∈mv y.toNat) (hx:0<=x/\x<N):x∈((grown N mv t).getD (t.length+k) default).kept:=by
 rw[mR a];exact gf.2 ⟨wR.2 ⟨y,b,true,hm,rfl⟩,hx⟩
theorem sH {i:Nat}(hi:i<t.length):((grown N mv t).getD i default).par=(t.getD i default).par:=by rw[kq hi];rfl
theorem oo {k:Nat}(a:k<t.length):((grown N mv t).getD (t.length+k) default).par=(k:Int):=by rw[mR a];rfl
theorem Dc (b:Gr N (grown N mv t)) {k p:Nat}(f:k<(step N mv t).length) (g:As N mv t p) (e:((step N mv t).getD k default).par=(ps N mv t p:Int)):∃ i,As N mv t i/\0<i/\ps N mv t i=k/\((grown N mv t).getD i default).par=(p:Int):=by
 obtain⟨i,c,h,j⟩:=kW b f;rw[j]at e;have d:(if i=0 then (-1:Int) else (ps N mv t ((grown N mv t).getD i default).par.toNat:Int))=(ps N mv t p:Int):=e;have h0:0<i:=by
  rcases Nat.eq_zero_or_pos i with a | a
  ·rw[if_pos a]at d;omega
  ·exact a
 rw[if_neg om]at d;obtain⟨q1,m,n,o⟩:=Al.par b c h0;have:=F9 q1 g om;exact⟨i,c,h0,h,by omega⟩
theorem nA (b:Gr N (grown N mv t)) {v:Int} : v∈eF (cI N mv t)↔∃ i,i<t.length/\As N mv t i/\((aL (aK (grown N mv t))).getD i default).bX=true/\(t.getD i default).name=v:=by
 unfold eF;rw[List.mem_map];constructor
 ·rintro⟨n,g,rfl⟩;obtain⟨g,p⟩:=List.mem_filter.1 g;obtain⟨i,h,rfl⟩:=iJ g;have d:i<(grown N mv t).length:=by rw[fH,<- sw (N:=N) (mv:=mv)];exact h
  obtain⟨q,r,j,m,s⟩:=kE (N:=N) (mv:=mv) i d;have h1:(Ls N mv t i).gone=false/\(Ls N mv t i).bX=true:=by simpa using p
  have a:As N mv t i:=⟨d,j ▸ h1.1⟩;have f:((aL (aK (grown N mv t))).getD i default).bX=true:=m ▸ h1.2;rcases gU d with e | ⟨k,w,rfl⟩
  ·exact⟨i,e,a,f,((mL e).2).symm⟩
  ·exfalso;obtain⟨x,hx⟩:=List.exists_mem_of_ne_nil _ (a.ne b);obtain⟨c,c1,c2,c3⟩:=((Cv b d).1 f).2 x hx;rcases gU c1 with e | ⟨y,u,rfl⟩
   ·have:=(b.pw c c1).2;rcases Nat.eq_zero_or_pos c with o | o
    ·have:=(b.pw c c1).1 o;omega
    ·have:=this o;omega
   ·rw[oo u]at c2;omega
 ·rintro⟨i,h,a,f,rfl⟩;obtain⟨q,r,j,m,s⟩:=kE (N:=N) (mv:=mv) i a.1;refine⟨Ls N mv t i,List.mem_filter.2 ⟨mz (E7 a),?_⟩,(mL h).2⟩;rw[j,m,a.2,f];rfl
theorem xT {v:Int} : v∈ic (cI N mv t)↔∃ i,i<t.length/\¬ As N mv t i/\(t.getD i default).name=v:=by
 unfold ic;rw[List.mem_map];constructor
 ·rintro⟨n,c,rfl⟩;obtain⟨c,h⟩:=List.mem_filter.1 c;obtain⟨i,b,rfl⟩:=iJ c;have a:i<(grown N mv t).length:=by rw[fH,<- sw (N:=N) (mv:=mv)];exact b
  obtain⟨j,m,f,o,g⟩:=kE (N:=N) (mv:=mv) i a;have h1:(Ls N mv t i).gone=true/\(Ls N mv t i).old=true:=by simpa using h
  rcases gU a with e | ⟨k,p,rfl⟩
  ·refine⟨i,e,λd=>?_,((mL e).2).symm⟩;have:=oG d;rw[h1.1]at this;cases this
  ·rw[g,mR p]at h1;exact absurd h1.2 (by simp[oT])
 ·rintro⟨i,b,d,rfl⟩;have a:i<(grown N mv t).length:=by rw[fH];omega
  obtain⟨j,m,f,o,g⟩:=kE (N:=N) (mv:=mv) i a;refine⟨Ls N mv t i,List.mem_filter.2 ⟨mz (by rw[sw];omega),?_⟩,(mL b).2⟩;have h1:(Ls N mv t i).gone=true:=by
   cases e:(Ls N mv t i).gone with
   | true=>rfl
   | false=>exact absurd ⟨a,by rw[<- f];exact e⟩ d
  rw[h1,(mL b).1];rfl
theorem Hr (a:Gr N (grown N mv t)) {p c:Nat}(f:As N mv t p) (g:((aL (aK (grown N mv t))).getD p default).bX=false) (b:c<(grown N mv t).length) (d:((grown N mv t).getD c default).par=(p:Int)) {x:Int}(hx:x∈Ks N mv t c):As N mv t c:=by
 have h0:0<c:=by
  rcases Nat.eq_zero_or_pos c with e | e
  ·have:=(a.pw c b).1 e;omega
  ·exact e
 refine al_of a b h0 (λe=>by rw[Ks,e]at hx;cases hx) ?_ ?_
 ·rw[d,Int.toNat_natCast];exact f
 ·rw[d,Int.toNat_natCast];exact g
end
section
variable {α:Type}{R:Nat->α->α->Prop}
inductive Pt (R:Nat->α->α->Prop) (i:Nat) (s:α):Nat->α->Prop
  | nil:Pt R i s i s
  | snoc {n:Nat}{x y:α}(h:Pt R i s n x) (k:R n x y):Pt R i s (n+1) y
theorem Pt.first {i n:Nat}{s x:α}(h:Pt R i s n x):(n=i/\x=s)∨∃ y,R i s y/\Pt R (i+1) y n x:=by
 induction h with
 | nil=>exact .inl ⟨rfl,rfl⟩
 | snoc h k ih=>
   rcases ih with⟨rfl,rfl⟩ | ⟨z,h1,h2⟩
   ·exact .inr ⟨_,k, .nil⟩
   ·exact .inr ⟨z,h1, .snoc h2 k⟩
theorem Pt.pre {i n:Nat}{s x:α}(h:Pt R i s n x):∀ m,i<=m->m<=n->∃ y,Pt R i s m y:=by
 induction h with
 | nil => intro m h1 h2; exact⟨s, by have : m = i := by omega
                                     subst this;exact .nil⟩
 | snoc h k ih=>
   rename_i n x y;intro m h1 h2;by_cases e:m=n+1
   ·subst e;exact⟨_, .snoc h k⟩
   ·exact ih m h1 om
def Ext (R:Nat->α->α->Prop) (i:Nat) (s:α):Prop:=∀ n,i<=n->∃ x,Pt R i s n x
theorem yE (i:Nat):∀ (D:List α),(∀ n,i<=n->∃ s∈D,∃ x,Pt R i s n x)->∃ s∈D,Ext R i s
 | [],h=>by
   obtain⟨s,hs,-⟩:=h i (Nat.le_refl _);cases hs
 | d :: D, h => by
   by_cases c:Ext R i d
   ·exact⟨d,by simp,c⟩
   ·have e:∃ n,i<=n/\∀ x,¬ Pt R i d n x:=Classical.byContradiction λf=>c λn b=>Classical.byContradiction λhx=>f ⟨n,b,λx a=>hx ⟨x,a⟩⟩;obtain⟨n,b,hx⟩:=e;obtain⟨s,hs,g⟩:=yE i D λm j=>by
     obtain⟨s,hs,x,a⟩:=h (max m n) om;obtain⟨y,k⟩:=a.pre m j om;rcases List.mem_cons.1 hs with rfl | hs
     ·obtain⟨z,o⟩:=a.pre n b om;exact absurd o (hx z)
     ·exact⟨s,hs,y,k⟩
    exact⟨s,by simp[hs],g⟩
theorem aac (C D:List α) (c:∀ i s x,R i s x->x∈C) (h:∀ n,∃ s∈D,∃ x,Pt R 0 s n x):∃ f:Nat->α,f 0∈D/\∀ i,R i (f i) (f (i+1)):=by
 have hs:∀ i s,Ext R i s->∃ y,R i s y/\Ext R (i+1) y:=λi s d=>by
  classical
  obtain⟨y,g,a⟩:=yE (R:=R) (i+1) (C.filter λy=>decide (R i s y)) λn m=>by
   obtain⟨x,hx⟩:=d n om;rcases hx.first with⟨e,-⟩ | ⟨y,h1,h2⟩
   ·omega
   ·exact⟨y,List.mem_filter.2 ⟨c _ _ _ h1,by simpa using h1⟩,x,h2⟩
  exact⟨y,by simpa using (List.mem_filter.1 g).2,a⟩
 obtain⟨j,k,b⟩:=yE (R:=R) 0 D λn _=>h n;let F:(i:Nat)->{ s:α // Ext R i s } := λi=>Nat.rec ⟨j,b⟩ (λi s=>⟨(hs i s.1 s.2).choose,(hs i s.1 s.2).choose_spec.2⟩) i;exact⟨λi=>(F i).1,k,λi=>(hs i (F i).1 (F i).2).choose_spec.1⟩
end
structure Sq (N:Nat) (mv:Nat->Nat->Mv) (T:Nat->List Nd):Prop where
  tr:∀ i,Tr N (T i)
  len:∀ i,(T i).length<=N
  st:∀ i,T (i+1)=step N (mv i) (T i)
section
variable {N:Nat}{mv:Nat->Nat->Mv}{T:Nat->List Nd}
def js (N:Nat) (mv:Nat->Nat->Mv) (T:Nat->List Nd) (i:Nat) (v:Int):Prop:=v∈eF (cI N (mv i) (T i))
def Bo (N:Nat) (mv:Nat->Nat->Mv) (T:Nat->List Nd) (i:Nat) (v:Int):Prop:=v∈ic (cI N (mv i) (T i))
def Lv (T:Nat->List Nd) (i:Nat) (v:Int) (p:Nat):Prop:=p<(T i).length/\((T i).getD p default).name=v
theorem Sq.gr (h:Sq N mv T) (i:Nat):Gr N (grown N (mv i) (T i)):=Ba (h.tr i)
theorem Lv.stay (h:Sq N mv T) {i:Nat}{v:Int}{p:Nat}(a:Lv T i v p) (c:¬ Bo N mv T i v):As N (mv i) (T i) p/\Lv T (i+1) v (ps N (mv i) (T i) p):=by
 have b:As N (mv i) (T i) p:=Classical.byContradiction λd=>c (xT.2 ⟨p,a.1,d,a.2⟩);refine⟨b,?_⟩;unfold Lv;rw[h.st i];exact⟨uK b,(wL (h.gr i) b a.1).trans a.2⟩
def Rg (mv:Nat->Nat->Mv) (G:Nat->Prop) (i0:Nat) (i:Nat) (s x:Int × Bool):Prop:=∃ c,(x.1,c)∈mv i s.1.toNat/\((i<=i0/\x.2=false)∨(i0<i/\G i/\(s.2 || c)=true/\x.2=false)∨(i0<i/\¬ G i/\x.2=(s.2 || c)))
theorem Df (h:Sq N mv T) {S:List Int}(h0:T 0=[⟨1,-1,S⟩]∨T 0=[]) {v:Int}(Q:∀ i y b x,(x,b)∈mv i y->0<=x/\x<N)
 (K:∀ n,∃ i,n<=i/\js N mv T i v) (L:∃ n,∀ i,n<=i->¬ Bo N mv T i v) :
 ∃ (q:Nat->Int) (g:Nat->Bool),q 0∈S/\(∀ i,(q (i+1),g i)∈mv i (q i).toNat)/\∀ n,∃ i,n<=i/\g i=true:=by
 obtain⟨U,L⟩:=L;obtain⟨j,GX,F⟩:=K U;have V:∀ i,i<=j+1->∀ p,p<(T i).length->∀ x∈((T i).getD p default).set,∃ s∈S.map (λy=>(y,false)),Pt (Rg mv (λi=>js N mv T i v) j) 0 s i (x,false):=by
  intro i;induction i with
  | zero=>
    intro _ p o x hx;rcases h0 with h0 | h0
    ·rw[h0]at o hx;have:p=0:=by simp at o;omega
     subst this;exact⟨(x,false),List.mem_map.2 ⟨x,hx,rfl⟩, .nil⟩
    ·rw[h0]at o;simp at o
  | succ i ih=>
    intro X p o x hx;rw[h.st i]at o hx;have u:=h.gr i;have key:∀ y k,k<(T i).length->y∈((T i).getD k default).set->∀ c,(x,c)∈mv i y.toNat->∃ s∈S.map (λy=>(y,false)),Pt (Rg mv (λi=>js N mv T i v) j) 0 s (i+1) (x,false):=λy k w r c hm=>by
     obtain⟨s,hs,o⟩:=ih om k w y r;exact⟨s,hs, .snoc o ⟨c,hm, .inl ⟨by omega,rfl⟩⟩⟩
    rcases Ro (h.tr i) (h.len i) o with⟨k,h1,h2,h3,Y⟩ | ⟨k,h1,h2,h3,Y⟩
    ·rw[<- h3,rU u h2]at hx;obtain⟨y,r,c,hm⟩:=B0 u h1 hx;exact key y k h1 r c hm
    ·rw[<- h3,rU u h2]at hx;obtain⟨y,r,hm⟩:=Gw u h1 hx;exact key y k h1 r true hm
 have G : ∀ d, ∃ p, Lv T (j + 1 + d) v p /\ (∀ x ∈ ((T (j + 1 + d)).getD p default).set, ∃ b, ∃ s ∈ S.map (λy => (y, false)), Pt (Rg mv (λi => js N mv T i v) j) 0 s (j + 1 + d) (x, b)) /\
  ∀ k,k<(T (j+1+d)).length->((T (j+1+d)).getD k default).par=(p:Int)->∀ x∈((T (j+1+d)).getD k default).set,∃ s∈S.map (λy=>(y,false)),Pt (Rg mv (λi=>js N mv T i v) j) 0 s (j+1+d) (x,true):=by
  have O:∀ i p,p<(T i).length->As N (mv i) (T i) p->((aL (aK (grown N (mv i) (T i)))).getD p default).bX=true->∀ k,k<(step N (mv i) (T i)).length->((step N (mv i) (T i)).getD k default).par≠(ps N (mv i) (T i) p:Int):=λi p o z E k w e=>by
   obtain⟨c,c1,c2,c3,c4⟩:=Dc (h.gr i) w z e;have:=(Al.par (h.gr i) c1 c2).2.1;rw[c4,Int.toNat_natCast,E]at this;cases this
  intro d;induction d with
  | zero=>
    obtain⟨p,o,z,E,H⟩:=(nA (h.gr j)).1 F;refine⟨ps N (mv j) (T j) p,?_,λx hx=>?_,λk w C=>?_⟩
    ·unfold Lv;rw[Nat.add_zero,h.st j];exact⟨uK z,(wL (h.gr j) z o).trans H⟩
    ·have hl:ps N (mv j) (T j) p<(T (j+1)).length:=by rw[h.st j];exact uK z
     exact⟨false,V (j+1) (Nat.le_refl _) _ hl x hx⟩
    ·rw[Nat.add_zero,h.st j]at w C;exact absurd C (O j p o z E k w)
  | succ d ih=>
    obtain⟨p,o,I,P⟩:=ih;have u:=h.gr (j+1+d);obtain⟨z,Z⟩:=o.stay h (L _ om);refine⟨ps N (mv (j+1+d)) (T (j+1+d)) p,Z,?_,?_⟩
    ·intro x hx;rw[show j+1+(d+1)=j+1+d+1 from rfl]at hx ⊢;rw[h.st,rU u z]at hx;by_cases D:js N mv T (j+1+d) v
     ·obtain⟨p2,J,-,E,H⟩:=(nA u).1 D;have:=qq (h.tr _) J o.1 (H.trans o.2.symm);subst this;obtain⟨c,c1,c2,c3⟩:=((Cv u z.1).1 E).2 x hx;refine⟨false,?_⟩;rcases gU c1 with e | ⟨k,w,rfl⟩
      ·obtain⟨y,r,b,hm⟩:=B0 u e c3;rw[sH e]at c2;obtain⟨s,hs,A⟩:=P c e c2 y r;exact⟨s,hs, .snoc A ⟨b,hm, .inr (.inl ⟨by omega,D,by simp,rfl⟩)⟩⟩
      ·obtain⟨y,r,hm⟩:=Gw u w c3;rw[oo w]at c2;have:k=p2:=by omega
       subst this;obtain⟨b,s,hs,A⟩:=I y r;exact⟨s,hs, .snoc A ⟨true,hm, .inr (.inl ⟨by omega,D,by simp,rfl⟩)⟩⟩
     ·obtain⟨y,r,c,hm⟩:=B0 u o.1 hx;obtain⟨b,s,hs,A⟩:=I y r;exact⟨b || c,s,hs, .snoc A ⟨c,hm, .inr (.inr ⟨by omega,D,rfl⟩)⟩⟩
    ·intro k w C x hx;rw[show j+1+(d+1)=j+1+d+1 from rfl]at w C hx ⊢;rw[h.st]at w C hx;by_cases D:js N mv T (j+1+d) v
     ·obtain⟨p2,J,-,E,H⟩:=(nA u).1 D;have:=qq (h.tr _) J o.1 (H.trans o.2.symm);subst this;exact absurd C (O _ p2 J z E k w)
     ·obtain⟨c,c1,c2,c3,c4⟩:=Dc u w z C;rw[<- c3,rU u c1]at hx;rcases gU c1.1 with e | ⟨m,hm,rfl⟩
      ·obtain⟨y,r,b,B⟩:=B0 u e hx;rw[sH e]at c4;obtain⟨s,hs,A⟩:=P c e c4 y r;exact⟨s,hs, .snoc A ⟨b,B, .inr (.inr ⟨by omega,D,by simp⟩)⟩⟩
      ·obtain⟨y,r,B⟩:=Gw u hm hx;rw[oo hm]at c4;have:m=p:=by omega
       subst this;obtain⟨b,s,hs,A⟩:=I y r;exact⟨s,hs, .snoc A ⟨true,B, .inr (.inr ⟨by omega,D,by simp⟩)⟩⟩
 obtain⟨f,YV,hf⟩:=aac (R:=Rg mv (λi=>js N mv T i v) j) ((List.range N).flatMap λ(n:Nat)=>[((n:Int),false),((n:Int),true)]) (S.map λy=>(y,false)) (λi s x hr=>by
  obtain⟨c,hm,-⟩:=hr;have:=Q _ _ _ _ hm;refine List.mem_flatMap.2 ⟨x.1.toNat,List.mem_range.2 om,?_⟩;have e:((x.1.toNat:Nat):Int)=x.1:=by omega
  rw[e];obtain⟨a,b⟩:=x;cases b<;>simp) (λn=>by
  obtain⟨p,o,I,-⟩:=G n;have dH:=((h.tr (j+1+n)).1 p o.1).ne;obtain⟨x,hx⟩:=List.exists_mem_of_ne_nil _ dH;obtain⟨b,s,hs,A⟩:=I x hx;obtain⟨y,r⟩:=A.pre n om om;exact⟨s,hs,y,r⟩)
 have B:∀ i,∃ c,((f (i+1)).1,c)∈mv i (f i).1.toNat/\((i<=j/\(f (i+1)).2=false)∨(j<i/\js N mv T i v/\((f i).2 || c)=true/\(f (i+1)).2=false)∨(j<i/\¬ js N mv T i v/\(f (i+1)).2=((f i).2 || c))):=hf;refine⟨λi=>(f i).1,λi=>(B i).choose,?_,λi=>(B i).choose_spec.1,λn=>?_⟩
 ·obtain⟨y,r,e⟩:=List.mem_map.1 YV;show (f 0).1∈S;rw[<- e];exact r
 · -- two times at M v is bX
  obtain⟨a,z,Xi⟩:=K (max n (j+1));obtain⟨b,iT,Vg⟩:=K (a+1);have key:∀ d,(f (a+1+d)).2=true->∃ i,a+1<=i/\(B i).choose=true:=by
   intro d;induction d with
   | zero=>
     intro e;rcases (B a).choose_spec.2 with⟨h1,_⟩ | ⟨_,_,_,h2⟩ | ⟨_,h1,_⟩
     ·omega
     ·rw[Nat.add_zero,h2]at e;cases e
     ·exact absurd Xi h1
   | succ d ih=>
     intro e;rcases (B (a+1+d)).choose_spec.2 with⟨h1,_⟩ | ⟨_,_,_,h2⟩ | ⟨_,_,h2⟩
     ·omega
     ·rw[show a+1+(d+1)=a+1+d+1 from rfl,h2]at e;cases e
     ·rw[show a+1+(d+1)=a+1+d+1 from rfl,h2,Bool.or_eq_true]at e;rcases e with e | e
      ·exact ih e
      ·exact⟨a+1+d,by omega,e⟩
  rcases (B b).choose_spec.2 with⟨h1,_⟩ | ⟨_,_,h2,_⟩ | ⟨_,h1,_⟩
  ·omega
  ·rw[Bool.or_eq_true]at h2;rcases h2 with e | e
   ·have Vp:b=a+1+(b - (a+1)):=by omega
    rw[Vp]at e;obtain⟨i,X,C⟩:=key _ e;exact⟨i,by omega,C⟩
   ·exact⟨b,by omega,e⟩
  ·exact absurd Vg h1
end
section
variable {N:Nat}{mv:Nat->Nat->Mv}{T:Nat->List Nd}
def Fol (N:Nat) (mv:Nat->Nat->Mv) (T:Nat->List Nd) (q:Nat->Int) (n:Nat) (v:Int) (d:Nat):Prop:=∀ i,n<=i->¬ Bo N mv T i v/\∃ p,d<=p/\Lv T i v p/\q i∈((T i).getD p default).set
def Qw (T:Nat->List Nd) (q:Nat->Int) (v:Int) (i c:Nat):Prop:=∃ p,Lv T i v p/\p<c/\c<(T i).length/\((T i).getD c default).par=(p:Int)/\q i∈((T i).getD c default).set
theorem Lv.one (h:Sq N mv T) {i:Nat}{v:Int}{p a:Nat}(h1:Lv T i v p) (h2:Lv T i v a):p=a:=qq (h.tr i) h1.1 h2.1 (h1.2.trans h2.2.symm)
theorem PI (h:Sq N mv T) {q:Nat->Int}{g:Nat->Bool}{S:List Int}(h0:T 0=[⟨1,-1,S⟩]) (m:q 0∈S) (hm:∀ i,(q (i+1),g i)∈mv i (q i).toNat) (n:∀ i y b x,(x,b)∈mv i y->0<=x/\x<N):Fol N mv T q 0 1 0:=by
 have d : ∀ i, Lv T i 1 0 /\ q i ∈ ((T i).getD 0 default).set /\ (0 < i -> ¬ Bo N mv T (i - 1) 1) := by
  intro i;induction i with
  | zero=>
    refine⟨⟨by rw[h0];simp,by rw[h0];rfl⟩,by rw[h0];exact m,λe=>absurd e om⟩
  | succ i ih=>
    obtain⟨hl,hx,-⟩:=ih;have a:=h.gr i;have h1:0<(grown N (mv i) (T i)).length:=by rw[fH];have:=hl.1;omega
    have f:q (i+1)∈Ks N (mv i) (T i) 0:=by
     show q (i+1)∈((aK (grown N (mv i) (T i))).getD 0 default).kept;rw[ET h1 (by have:=(a.pw 0 h1).1 rfl;omega)];exact PA hl.1 hx (hm i) (n _ _ _ _ (hm i))
    have c:As N (mv i) (T i) 0:=by
     refine⟨h1,?_⟩;cases e:((aL (aK (grown N (mv i) (T i)))).getD 0 default).gone with
     | false=>rfl
     | true=>
       rcases (w8 a h1).1 e with e | ⟨e,-⟩
       ·have j:q (i+1)∈((aK (grown N (mv i) (T i))).getD 0 default).kept:=f;rw[e]at j;cases j
       ·omega
    refine⟨?_,?_,λ_ o=>?_⟩
    ·have h2:=uK c;have h3:=wL a c hl.1;rw[BK]at h2 h3;unfold Lv;rw[h.st i];exact⟨h2,h3.trans hl.2⟩
    ·have h3:=rU a c;rw[BK]at h3;rw[h.st i,h3];exact f
    ·obtain⟨k,h2,h3,p⟩:=xT.1 o;have:k=0:=qq (h.tr i) h2 hl.1 (p.trans hl.2.symm);subst this;exact h3 c
 intro i _;exact⟨(d (i+1)).2.2 om,0,Nat.le_refl _,(d i).1,(d i).2.1⟩
theorem PJ (h:Sq N mv T) {q:Nat->Int}{g:Nat->Bool}(hm:∀ i,(q (i+1),g i)∈mv i (q i).toNat) (Y:∀ i y b x,(x,b)∈mv i y->0<=x/\x<N) (hg:∀ n,∃ i,n<=i/\g i=true) {n:Nat}{v:Int}{d:Nat}(G:Fol N mv T q n v d) (L:∃ n,∀ i,n<=i->¬ js N mv T i v):∃ n' v',Fol N mv T q n' v' (d+1):=by
 obtain⟨M,L⟩:=L;have key:∀ i,n<=i->M<=i->∀ p,Lv T i v p->∀ c,c<(grown N (mv i) (T i)).length->((grown N (mv i) (T i)).getD c default).par=(p:Int)->q (i+1)∈((grown N (mv i) (T i)).getD c default).kept ->
  ∃ k,k<=c/\As N (mv i) (T i) k/\Qw T q v (i+1) (ps N (mv i) (T i) k):=λi o H p a c I J hx=>by
  have r:=h.gr i;obtain⟨O,p2,-,Fi,-⟩:=G i o;obtain⟨-,p3,-,IX,C⟩:=G (i+1) om;obtain⟨z,K⟩:=a.stay h O;have e3:=Lv.one h IX K;subst e3;have P:q (i+1)∈Ks N (mv i) (T i) p:=by
   rw[h.st i,rU r z]at C;exact C
  have Q:((aL (aK (grown N (mv i) (T i)))).getD p default).bX=false:=by
   cases e:((aL (aK (grown N (mv i) (T i)))).getD p default).bX with
   | false=>rfl
   | true=>exact absurd ((nA r).2 ⟨p,a.1,z,e,a.2⟩) (L i H)
  have h0:0<c:=by
   rcases Nat.eq_zero_or_pos c with e | e
   ·have:=(r.pw c I).1 e;omega
   ·exact e
  obtain⟨k,Z,D,A⟩:=P5 r.pw I h0 hx (by rw[J,Int.toNat_natCast];exact P);rw[J]at D;have s:=Hr r z Q (c:=k) om D A;have uC:0<k:=by
   rcases Nat.eq_zero_or_pos k with e | e
   ·have:=(r.pw k s.1).1 e;omega
   ·exact e
  have hpk:=(r.pw k s.1).2 uC;refine⟨k,Z,s,ps N (mv i) (T i) p,K,Np z (by have:=uq s;omega) om,?_,?_,?_⟩
  ·rw[h.st i];exact uK s
  ·rw[h.st i,rV r s];show (if k=0 then (-1:Int) else _)=_;rw[if_neg om,D,Int.toNat_natCast]
  ·rw[h.st i,rU r s];exact A
 obtain⟨f,H,Ex⟩:=hg (max n M);have U:∃ c,Qw T q v (f+1) c:=by
  obtain⟨-,p,-,a,E⟩:=G f om;obtain⟨k,-,-,hk⟩:=key f om om p a ((T f).length+p) (by rw[fH];have:=a.1;omega) (oo a.1) (XT a.1 E (by have:=hm f;rw[Ex]at this;exact this) (Y _ _ _ _ (hm f)));exact⟨_,hk⟩
 have iZ:∀ i c,n<=i->M<=i->Qw T q v i c->∃ k,k<=c/\As N (mv i) (T i) k/\Qw T q v (i+1) (ps N (mv i) (T i) k):=λi c o H ⟨p,a,V,u,J,E⟩ =>
  key i o H p a c (by rw[fH];omega) (by rw[sH u];exact J) (PA u E (hm i) (Y _ _ _ _ (hm i)))
 have uW:∀ b,(∃ c,c<=b/\∃ i,f+1<=i/\Qw T q v i c)->∃ c i,f+1<=i/\Qw T q v i c/\∀ B F,f+1<=F->Qw T q v F B->c<=B:=by
  intro b;induction b with
  | zero=>
    rintro⟨c,I,i,o,w⟩;exact⟨c,i,o,w,λB F _ _=>by omega⟩
  | succ b ih=>
    rintro⟨c,I,i,o,w⟩;by_cases hx:∃ c,c<=b/\∃ i,f+1<=i/\Qw T q v i c
    ·exact ih hx
    ·refine⟨c,i,o,w,λB F dc yu=>?_⟩;rcases Nat.lt_or_ge B c with e | e
     ·exact absurd ⟨B,by omega,F,dc,yu⟩ hx
     ·exact e
 obtain⟨c1,U⟩:=U;obtain⟨c,m,mQ,w,X⟩:=uW c1 ⟨c1,Nat.le_refl _,f+1,Nat.le_refl _,U⟩;have jN:∀ i,f+1<=i->Qw T q v i c->As N (mv i) (T i) c/\Qw T q v (i+1) c/\ps N (mv i) (T i) c=c:=λi o w=>by
  obtain⟨k,Z,D,A⟩:=iZ i c om om w;have h1:=X _ _ om A;have h2:=RQ (N:=N) (mv:=mv i) (t:=T i) k;have e:k=c:=by omega
  subst e;have e2:ps N (mv i) (T i) k=k:=by omega
  rw[e2]at A;exact⟨D,A,e2⟩
 have bY:∀ j,Qw T q v (m+j) c/\((T (m+j)).getD c default).name=((T m).getD c default).name:=by
  intro j;induction j with
  | zero=>exact⟨w,rfl⟩
  | succ j ih=>
    obtain⟨h1,h2,h3⟩:=jN (m+j) om ih.1;refine⟨h2,?_⟩;obtain⟨p,-,-,u,-,-⟩:=ih.1;have:=wL (h.gr (m+j)) h1 u;rw[h3]at this;rw[show m+(j+1)=m+j+1 from rfl,h.st,this];exact ih.2
 refine⟨m,((T m).getD c default).name,λi o=>?_⟩;have hj:=bY (i - m);rw[show m+(i - m)=i by omega]at hj;obtain⟨rN,pX⟩:=hj;obtain⟨z,-,-⟩:=jN i om rN;obtain⟨p,a,V,u,-,E⟩:=rN;refine⟨λO=>?_,c,?_,⟨u,pX⟩,E⟩
 ·obtain⟨k,h2,h3,h4⟩:=xT.1 O;have:k=c:=qq (h.tr i) h2 u (h4.trans pX.symm);subst this;exact h3 z
 ·obtain⟨-,p',hd,K,-⟩:=G i om;have:=Lv.one h a K;omega
theorem xy (h:Sq N mv T) {q:Nat->Int}{g:Nat->Bool}{S:List Int}(h0:T 0=[⟨1,-1,S⟩]) (f:q 0∈S) (hm:∀ i,(q (i+1),g i)∈mv i (q i).toNat) (e:∀ i y b x,(x,b)∈mv i y->0<=x/\x<N) (j:∀ n,∃ i,n<=i/\g i=true) :
 ∃ v,(∀ n,∃ i,n<=i/\js N mv T i v)/\∃ n,∀ i,n<=i->¬ Bo N mv T i v:=by
 refine Classical.byContradiction λk=>?_;have o:∀ d,∃ n v,Fol N mv T q n v d:=by
  intro d;induction d with
  | zero=>exact⟨0,1,PI h h0 f hm e⟩
  | succ d ih=>
    obtain⟨n,v,a⟩:=ih;refine PJ h hm e j a (Classical.byContradiction λr=>k ⟨v,λm=>Classical.byContradiction λhx=>r ⟨m,λi c s=>hx ⟨i,c,s⟩⟩,n,λi c=>(a i c).1⟩)
 obtain⟨n,v,a⟩:=o N;obtain⟨-,p,u,hl,-⟩:=a n (Nat.le_refl _);have:=h.len n;have:=hl.1;omega
end
end Go.Jo
end
