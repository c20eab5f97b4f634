/- Grow and Concat of numbers. -/
import Derived.Test.YtkbiecjdcjfhaaaWod
import Derived.Test.YtkbiecjdcjfhaaaSmall
set_option linter.unusedSimpArgs false
set_option linter.unusedVariables false
set_option maxRecDepth 100000
set_option maxHeartbeats 16000000
section
namespace Go.Proofs.Ytkbiecjdcjfhaaa
open Go Go.Pv
open Classical
def Gr (s:St) (r:LV) (s':St):Prop:=(r = .aj/\s'=s)∨∃ cs,r = .aD s.n 0 0 1/\s'=s.new (.cells .mut cs)/\LV.closed.aq cs=true
theorem XQ {n:Nat}(h:n<=1000) {s:St} : aJ Try.prog GL (.fn (.func 58) [] []) [.aj, .int .i64 (n:Int)] s (λr s'=>Gr s r s'):=by
 refine bL (first:=[]) (caps:=[]) Try.func58 (by decide +kernel) c58 (Nat.le_of_ble_eq_true rfl) (aQ.mono (Q:=λo e s'=>(o = .normal∨o = .jmp .ret)/\Gr s (e.at 4) s') ?_ λo e s' c=>⟨c.1,e.at 4,by simp[l58,br,bO],c.2⟩);refine Cd.out (pF λe h0 h1=>?_);unfold l58;dsimp only[jA,qS,qm];repeat' (first | refine gA trivial ?_ | (refine gB trivial ?_;intro b a;cases b<;>(try simp only[aG]at a)) | apply aA | fail)
 rotate_left
 ·exfalso;omega
 refine cX (v:=.int .i64 0) (s':=s) wN (by simp only[aR.run,lk,Nat.reduceEqDiff,if_false,if_true]) rfl trivial ?_;simp only[Env.au];repeat' (first | refine gA trivial ?_ | (refine gB trivial ?_;intro b a;cases b<;>(try simp only[aG]at a)) | apply aA | fail)
 ·exact⟨.inr trivial, .inl ⟨ef,rfl⟩⟩
 ·have g:LV.closed.aq (rep n [.int .i64 0])=true:=by
   rw[wO];exact kL λi d=>by
    rw[List.length_replicate]at d;rw[gD,List.getElem?_replicate,if_pos d];rfl
  have f:IntKind.i64.wrap ((n:Int) - IntKind.i64.wrap (0 - ((0:Nat):Int)))=(n:Int):=by
   have h1:IntKind.i64.wrap (0 - ((0:Nat):Int))=0:=by decide
   rw[h1,Int.sub_zero];exact wrap_i64 _ om om
  rw[f]at a;simp only[f];refine cX (v:=.int .i64 0) (s':=s) wN (by simp only[aR.run,lk,Nat.reduceEqDiff,if_false,if_true]) rfl trivial ?_;simp only[Env.au];refine cX (v:=.aj) (s':=s) wN (by simp only[aR.run,lk,gW,Nat.reduceEqDiff,if_false,if_true];rfl) rfl trivial ?_;simp only[Env.au];repeat' (first | refine gA trivial ?_ | (refine gB trivial ?_;rintro (_|_) a<;>try simp only[aG,reduceCtorEq]at a) | apply aA | fail)
  refine cX (v:=.aD s.n 0 n 1) (s':=St.new s (.cells .mut (rep n [.int .i64 0]))) wN ?_ rfl trivial ?_
  ·have:(n:Int)*8<=big:=by unfold big;omega
   have h2:(n:Int)<=big:=by unfold big;omega
   simp only[aR.run,lk,Nat.reduceEqDiff,if_false,if_true];rw[if_neg om,if_pos ⟨by omega,this,h2⟩];simp
  simp only[Env.au];repeat' (first | refine gA trivial ?_ | (refine gB trivial ?_;rintro (_|_) a<;>try simp only[aG,reduceCtorEq]at a) | apply aA | fail)
  refine cX (v:=.aD s.n 0 0 1) (s':=St.new s (.cells .mut (rep n [.int .i64 0]))) wN ?_ rfl trivial ?_
  ·simp only[aR.run,lk,dJ,gW,Nat.reduceEqDiff,if_false,if_true,Option.map_none,fM];simp
  simp only[Env.au];repeat' (first | refine gA trivial ?_ | (refine gB trivial ?_;rintro (_|_) a<;>try simp only[aG,reduceCtorEq]at a) | apply aA | fail)
  exact⟨.inr trivial, .inr ⟨_,ef,rfl,g⟩⟩
def Ap (s:St) (x:LV) (l:List Int):Prop:=(x = .aj/\l=[])∨∃ j cs,x = .aD j 0 l.length 1/\s.get j=some (.cells .mut cs)/\LV.closed.aq cs=true/\l.length<=cs.length/\cs.take l.length=ints l
theorem tF (l r:List Int):ints (l++r)=ints l++ints r:=by simp[ints]
theorem Ap.Z3 {s s':St}{r:LV}(h:Gr s r s'):Ap s' r []:=by
 rcases h with⟨rfl,_⟩ | ⟨cs,rfl,rfl,a⟩
 ·exact .inl ⟨rfl,rfl⟩
 ·exact .inr ⟨s.n,cs,rfl,by simp,a,by simp,by simp[ints]⟩
theorem Ap.app {s:St}{x:LV}{l r:List Int}(h:Ap s x l) (b:(l++r).length<=1000):∃ y s',bF 1 8 x (ints r) r.length s=some (y,s')/\Ap s' y (l++r):=by
 have a:(l++r).length=l.length+r.length:=by simp
 have c:(l.length+r.length)*8<=big:=by unfold big;omega
 rcases h with⟨rfl,rfl⟩ | ⟨j,cs,rfl,hs,f,hl,d⟩
 ·by_cases h0:r.length=0
  ·have:r=[]:=List.eq_nil_of_length_eq_zero h0;subst this;exact⟨.aj,s,by simp[bF], .inl ⟨rfl,rfl⟩⟩
  ·have e:r.length*8<=big:=by
    rw[List.nil_append]at b;unfold big;omega
   exact⟨.aD s.n 0 r.length 1,s.new (.cells .mut (ints r)),by simp[bF,h0,e], .inr ⟨s.n,ints r,by simp,by simp,bD r,by simp,by simp[List.take_of_length_le]⟩⟩
 ·refine⟨.aD s.n 0 (l.length+r.length) 1,⟨s.n+1,(s.h.set j (.cells .ro [])).set s.n (.cells .mut (ints l++ints r))⟩,?_, .inr ⟨s.n,ints l++ints r,by simp,?_,?_,by simp,?_⟩⟩
  ·simp only[bF,if_true,hs,Nat.zero_add,Nat.mul_one,List.drop_zero,d];rw[if_pos ⟨hl,c,by simp⟩]
  ·show St.get _ _=_;simp[St.get]
  ·rw[<- tF];exact bD _
  ·rw[<- tF,List.take_of_length_le (by simp)]
theorem Ap.cK {s:St}{x:LV}{l:List Int}(h:Ap s x l) (a:l.length<=1000) (b:∀ z∈l,cF z):∃ r s',Pv.cK aY x s=some (r,s')/\r.closed=true/\aM r l:=by
 rcases h with⟨rfl,rfl⟩ | ⟨j,cs,rfl,hs,c,hl,d⟩
 ·exact⟨.aj,s,bf rfl,rfl, .nil,by simp,by simp⟩
 ·have h2:Pv.cK aY (.aD j 0 l.length 1) s=Pv.cK (38+1+1) (.aD j 0 l.length 1) s:=rfl;refine⟨.aB (ints l) l.length,s.put j (.cells .app cs),?_,by simp[LV.closed,bD], .aB _ _,Nat.le_trans a (by decide),b⟩;rw[h2];unfold Pv.cK;simp[LV.closed,hs,dg c,hl,d]
theorem u0 {N:List (List Int)}{i:Nat}(hi:i<N.length):(N.take (i+1)).flatten=(N.take i).flatten++N.getD i []:=by
 rw[List.take_add_one,List.flatten_append,gD,gE hi];simp
theorem EM (N:List (List Int)) (i:Nat):(N.take i).flatten.length<=N.flatten.length:=by
 have h:N.flatten=(N.take i).flatten++(N.drop i).flatten:=by rw[<- List.flatten_append,List.take_append_drop]
 rw[h,List.length_append];omega
theorem Lp {v:LV}{N:List (List Int)}{vs:List LV}(a:dF v N vs) (u:N.flatten.length<=1000) (Q:N.length<=1000):PE 43 [v] (λr=>aM r N.flatten):=by
 have R:=a.sl.cell;have j:=a.sl.len;have C:∀ z∈N.flatten,cF z:=λz l=>by
  obtain⟨r,k,l⟩:=List.mem_flatten.1 l;obtain⟨i,g,rfl⟩:=List.mem_iff_getElem.1 k;have:=(a.row i g).jd;rw[gD,gE g]at this;exact this z l
 refine n9 (t:=2) hm Try.func43 (by decide +kernel) c43 (Nat.le_of_ble_eq_true rfl) (by simp[LV.closed.aq,a.closed]) rfl ?_;refine sJ λe n=>?_;unfold l43;dsimp only[jA,qS,qI,qA,qB,qC,qm,ql];repeat' (first | refine gA @j ?_ | (refine gB @j ?_;rintro (_|_) b<;>try simp only[aG,reduceCtorEq]at b) | fail)
 refine aS (λm e s=>s=St.empty/\∃ i:Nat,m=N.length - i/\i<=N.length/\e.at 0=v/\e.at 9=v/\e.at 10 = .int .i64 (N.length:Int)/\e.at 11 = .int .i64 (i:Int)/\e.at 3 = .int .i64 ((N.take i).flatten.length:Int)) _
  ⟨rfl,0,rfl,by omega,ef,ef,ef,by simp only[svq,Nat.reduceEqDiff,Nat.reduceAdd,Nat.reduceLeDiff,reduceIte,aT,eH,List.map,bC];rfl,by simp only[svq,Nat.reduceEqDiff,Nat.reduceAdd,Nat.reduceLeDiff,reduceIte,aT,eH,List.map,bC];rfl⟩ ?_
 clear n;clear e;rintro m e s ⟨rfl,i,rfl,g,n,D,E,F,o⟩;by_cases c:i<N.length
 ·have G:(i:Int)<(N.length:Int):=by omega
  have H:IntKind.i64.wrap ((i:Int)+1)=((i+1:Nat):Int):=by rw[wrap_i64 _ om om];rfl
  have I:=a.get c;have T:=(a.row i c).sl.len;have J:=(a.row i c).sl.cell;have w:=u0 c;have K:=EM N (i+1);have d:(N.take (i+1)).flatten.length=(N.take i).flatten.length+(N.getD i []).length:=by rw[w,List.length_append]
  have L:IntKind.i64.wrap (((N.take i).flatten.length:Int)+((N.getD i []).length:Int))=((N.take (i+1)).flatten.length:Int):=by rw[wrap_i64 _ om om,d];rfl
  clear w d;repeat' (first | refine gA (@cw _ _ _ a.sl) ?_ | (refine gB (@cw _ _ _ a.sl) ?_;rintro (_|_) b<;>try simp only[aG,reduceCtorEq]at b) | fail)
  ·exfalso;omega
  ·exact⟨N.length - (i+1),by omega,trivial,i+1,rfl,by omega,ef,ef,ef,ef,ef⟩
  ·exfalso;rw[L]at b;omega
 ·have p:i=N.length:=by omega
  subst p;rw[List.take_length]at o;repeat' (first | refine gA trivial ?_ | (refine gB trivial ?_;rintro (_|_) b<;>try simp only[aG,reduceCtorEq]at b) | fail)
  rotate_left
  ·exfalso;omega
  refine bH wN (fv:=.fn (.func 58) [] []) (vs:=[.aj, .int .i64 (N.flatten.length:Int)]) ef (by simp only[List.map,svq,Nat.reduceEqDiff,Nat.reduceAdd,Nat.reduceLeDiff,reduceIte,aT,eH,List.map,bC,o]) (aJ.mono (XQ u) λr U k=>⟨trivial,?_⟩);have f:=Ap.Z3 k;clear k;simp only[Env.au];repeat' (first | refine gA @j ?_ | (refine gB @j ?_;rintro (_|_) b<;>try simp only[aG,reduceCtorEq]at b) | fail)
  refine aS (λm e s=>∃ (i:Nat) (x:LV),m=N.length - i/\i<=N.length/\Ap s x (N.take i).flatten/\e.at 25=v/\e.at 26 = .int .i64 (N.length:Int)/\e.at 27 = .int .i64 (i:Int)/\e.at 6=x) _
   ⟨0,r,rfl,by omega,by simpa using f,ef,ef,by simp only[svq,Nat.reduceEqDiff,Nat.reduceAdd,Nat.reduceLeDiff,reduceIte,aT,eH,List.map,bC];rfl,ef⟩ ?_
  clear n D E F o f g c;clear e;rintro m e s ⟨i,x,rfl,g,f,M,O,V,P⟩;by_cases c:i<N.length
  ·have G:(i:Int)<(N.length:Int):=by omega
   have H:IntKind.i64.wrap ((i:Int)+1)=((i+1:Nat):Int):=by rw[wrap_i64 _ om om];rfl
   have I:=a.get c;have q:=MX (a.row i c);have J:=(a.row i c).sl.cell;have K:=EM N (i+1);have A:fU (ints (N.getD i [])) s=(ints (N.getD i []),s):=by
    unfold fU;rw[show aY=39+1 from rfl,dg (bD _)]
   obtain⟨y,X,B,h⟩:=f.app (r:=N.getD i []) (by rw[<- u0 c];omega);rw[<- u0 c]at h;repeat' (first | refine gA (@cw _ _ _ a.sl) ?_ | (refine gB (@cw _ _ _ a.sl) ?_;rintro (_|_) b<;>try simp only[aG,reduceCtorEq]at b) | fail)
   ·exfalso;omega
   refine eO wN (xv:=x) (yv:=vs.getD i .top) ef ef q.1 (q.2 _) A B ?_;clear A B q f;repeat' (first | refine gA trivial ?_ | (refine gB trivial ?_;rintro (_|_) b<;>try simp only[aG,reduceCtorEq]at b) | fail)
   exact⟨N.length - (i+1),by omega,i+1,y,rfl,by omega,h,ef,ef,ef,ef⟩
  ·have p:i=N.length:=by omega
   subst p;rw[List.take_length]at f;repeat' (first | refine gA trivial ?_ | (refine gB trivial ?_;rintro (_|_) b<;>try simp only[aG,reduceCtorEq]at b) | fail)
   ·refine⟨.inr trivial,?_⟩;simp only[svq,Nat.reduceEqDiff,Nat.reduceAdd,Nat.reduceLeDiff,reduceIte,aT,eH,List.map,bC,P];exact f.cK u C
   ·exfalso;omega
open Go Go.Pv Go.C2
theorem pos_eq {B:Bu}{ls:List Nat}{n m:Nat}(hl:ls.length=n+m) (hm:0<m):∀ i,(cq B ls n).pos i=if i<n then i else n+(i - n) % m:=by
 intro i;induction i with
 | zero=>
   show 0=_;by_cases h:0<n
   ·rw[if_pos h]
   ·have:n=0:=by omega
    subst this;simp
 | succ i ih=>
   show (if (cq B ls n).pos i+1=ls.length then n else (cq B ls n).pos i+1)=_;rw[ih,hl];by_cases h1:i<n
   ·rw[if_pos h1,if_neg om];by_cases h2:i+1<n
    ·rw[if_pos h2]
    ·rw[if_neg h2];have:i+1 - n=0:=by omega
     rw[this,Nat.zero_mod];omega
   ·rw[if_neg h1,if_neg (by omega:¬ i+1<n)];have b:i+1 - n=(i - n)+1:=by omega
    rw[b];generalize i - n=d;have h3:=Nat.mod_lt d hm;have a:(d+1) % m=(d % m+1) % m:=by
     have c:d+1=m*(d / m)+(d % m+1):=by have:=Nat.div_add_mod d m;omega
     rw[c,Nat.mul_add_mod]
    rw[a];clear a;by_cases h6:d % m+1=m
    ·rw[if_pos om,h6,Nat.mod_self];omega
    ·have e:(d % m+1) % m=d % m+1:=Nat.mod_eq_of_lt om;rw[if_neg om,e];omega
theorem Jq {B:Bu}{S L:List Int}(d:1<=L.length) (h0:∀ x∈S++L,0<=x) (i:Nat):((cq B ((S++L).map Int.toNat) S.length).word i:Int)=ew S L i:=by
 have c:=pos_eq (B:=B) (ls:=(S++L).map Int.toNat) (n:=S.length) (m:=L.length) (by simp) om i;have a:∀ j,j<(S++L).length->((((S++L).map Int.toNat).getD j 0:Nat):Int)=(S++L).getD j 0:=by
  intro j b;rw[gD,gD,List.getElem?_map,gE b];have:=h0 _ (List.getElem_mem b);simp only[Option.map_some,Option.getD_some];omega
 show ((((S++L).map Int.toNat).getD ((cq B ((S++L).map Int.toNat) S.length).pos i) 0:Nat):Int)=_;rw[c];unfold ew;by_cases h:i<S.length
 ·rw[if_pos h,if_pos h,a _ (by simp;omega)];simp[gD,List.getElem?_append_left h]
 ·have h3:=Nat.mod_lt (i - S.length) (by omega:L.length > 0);rw[if_neg h,if_neg h,a _ (by simp;omega)];simp[gD,List.getElem?_append_right]
end Go.Proofs.Ytkbiecjdcjfhaaa
end
