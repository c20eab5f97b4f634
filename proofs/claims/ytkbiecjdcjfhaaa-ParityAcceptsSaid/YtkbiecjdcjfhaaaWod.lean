/- The word package: the normal lasso. -/
import Derived.Test.YtkbiecjdcjfhaaaWoa
set_option linter.unusedSimpArgs false
set_option linter.unusedVariables false
set_option maxRecDepth 100000
set_option maxHeartbeats 16000000
section
namespace Go.Proofs.Ytkbiecjdcjfhaaa
open Go Go.Pv
open Classical
def ew (S L:List Int) (i:Nat):Int:=if i<S.length then S.getD i 0 else L.getD ((i - S.length) % L.length) 0
def RC (l:List Int) (k:Nat):List Int:=l.drop k++l.take k
theorem sZ {l:List Int}{k:Nat}(h:k<=l.length):(RC l k).length=l.length:=by simp[RC];omega
theorem HW {l:List Int}{k:Nat}{x:Int}(h:x∈RC l k):x∈l:=by
 rcases List.mem_append.1 h with h | h
 ·exact List.mem_of_mem_drop h
 ·exact List.mem_of_mem_take h
theorem RB {l:List Int}{k j:Nat}(a:k<l.length) (b:j<l.length):(RC l k).getD j 0=l.getD ((j+k) % l.length) 0:=by
 simp only[RC,gD];by_cases h:j<l.length - k
 ·rw[List.getElem?_append_left (by simpa using h),List.getElem?_drop,Nat.mod_eq_of_lt om,Nat.add_comm]
 ·have e:(j+k) % l.length=j - (l.length - k):=by
   rw[Nat.mod_eq_sub_mod om,Nat.mod_eq_of_lt om];omega
  rw[List.getElem?_append_right (by simp;omega),e,List.length_drop,List.getElem?_take,if_pos om]
def nb (sl a:List Int):Nat->Nat->Nat × Nat
 | 0,back=>(0,back)
 | k+1,back=>if sl.getD k 0=a.getD (a.length - 1 - back) 0 then nb sl a k ((back+1) % a.length) else (k+1,back)
def Nrm (sl a b c:List Int):Prop:=∃ n,PerM a n/\b=sl.take (nb sl (a.take n) sl.length 0).1/\c=RC (a.take n) (((a.take n).length - (nb sl (a.take n) sl.length 0).2) % (a.take n).length)
def LK (sl a:List Int) (w:Nat->Int) (keep back:Nat):Prop:=
 keep<=sl.length/\back<a.length/\(∀ i,i<keep->w i=sl.getD i 0)/\∀ i,keep<=i->w i=a.getD ((i - keep+(a.length - back)) % a.length) 0
theorem RW {l:List Int}{n:Nat}(h:VE l n):∀ (c j:Nat),j+c*n<l.length->l.getD (j+c*n) 0=l.getD j 0:=by
 intro c;induction c with
 | zero=>intro j _;simp
 | succ c ih=>
   intro j a;have e:j+(c+1)*n=n+(j+c*n):=by rw[Nat.add_mul];omega
   rw[e]at a ⊢;rw[h.2.2.2 (j+c*n) om];exact ih j om
theorem RX {l:List Int}{n:Nat}(h:VE l n) {j:Nat}(a:j<l.length):l.getD j 0=l.getD (j % n) 0:=by
 have e:=Nat.mod_add_div j n;have:=RW h (j / n) (j % n) (by rw[Nat.mul_comm,e];exact a);rw[Nat.mul_comm,e]at this;exact this
theorem Kb {sl a:List Int}{n:Nat}(h:VE a n):LK sl (a.take n) (ew sl a) sl.length 0:=by
 have hl:(a.take n).length=n:=by have:=h.2.1;simp;omega
 have c:=h.1;refine⟨Nat.le_refl _,by omega,λi b=>by simp[ew,b],λi b=>?_⟩;rw[hl,Nat.sub_zero,Nat.add_mod_right];have h1:(i - sl.length) % a.length<a.length:=Nat.mod_lt _ (by have:=h.2.1;omega);simp only[ew];rw[if_neg om,RX h h1,Nat.mod_mod_of_dvd _ (Nat.dvd_of_mod_eq_zero h.2.2.1)];have h2:(i - sl.length) % n<n:=Nat.mod_lt _ om;simp[gD,h2]
theorem Ka {sl a:List Int}{w:Nat->Int}{keep back:Nat}(h:LK sl a w keep back) (k:0<keep) (c:sl.getD (keep - 1) 0=a.getD (a.length - 1 - back) 0):LK sl a w (keep - 1) ((back+1) % a.length):=by
 obtain⟨h1,h2,h3,d⟩:=h;refine⟨by omega,Nat.mod_lt _ om,λi f=>h3 i om,λi f=>?_⟩;by_cases g:i=keep - 1
 ·subst g;rw[h3 _ om,c,Nat.sub_self,Nat.zero_add];congr 1;by_cases b:back+1<a.length
  ·rw[Nat.mod_eq_of_lt b,Nat.mod_eq_of_lt om];omega
  ·have e:back+1=a.length:=by omega
   rw[e,Nat.mod_self,Nat.sub_zero,Nat.mod_self];omega
 ·rw[d i om];congr 1;by_cases b:back+1<a.length
  ·rw[Nat.mod_eq_of_lt b];congr 1;omega
  ·have e:back+1=a.length:=by omega
   rw[e,Nat.mod_self,Nat.sub_zero];have j:i - (keep - 1)+a.length=i - keep+(a.length - back)+a.length:=by omega
   rw[j,Nat.add_mod_right]
theorem AJ {sl a:List Int}{w:Nat->Int}{keep back:Nat}(h:LK sl a w keep back):∀ i,ew (sl.take keep) (RC a ((a.length - back) % a.length)) i=w i:=by
 obtain⟨h1,h2,h3,d⟩:=h;intro i;have c:(a.length - back) % a.length<a.length:=Nat.mod_lt _ om;have hl:(sl.take keep).length=keep:=by simp;omega
 simp only[ew,hl,sZ (Nat.le_of_lt c)];by_cases b:i<keep
 ·rw[if_pos b,h3 i b];simp[gD,b]
 ·rw[if_neg b,RB c (Nat.mod_lt _ om),d i om];congr 1;rw[<- Nat.add_mod]
theorem Jx {v:LV}{l:List Int}(b:aM v l) {e:Env}{s:St}{x hi:bz}{h:Nat}(hx:x.ev e=v) (c:hi.ev e = .int .i64 (h:Int)) (i:h<=l.length) :
 ∃ r,(aR.slice 1 x none (some hi)).run e s=some (r,s)/\aM r (l.take h):=by
 have o:∀ y∈l.take h,cF y:=λy a=>b.jd y (List.mem_of_mem_take a);have d:=b.len;obtain⟨f,_,_⟩:=b;generalize j:ints l=cs at f;generalize g:l.length=n at f;cases f with
 | nil=>
   have hl:l=[]:=by simpa using g
   subst hl;obtain rfl:h=0:=by simpa using i
   exact⟨.aj,by simp[aR.run,hx,c,fM], .nil,by simp,by simp⟩
 | zs=>
   have hl:l=[]:=by simpa using g
   subst hl;obtain rfl:h=0:=by simpa using i
   exact⟨.zs,by simp[aR.run,hx,c,fM], .zs,by simp,by simp⟩
 | aB=>
   have m:cs.length=n:=by rw[<- j];simpa using g
   refine⟨_,kQ (h:=h) (k:=0) (Z7:=none) hx rfl (by simp[c];rfl) (qT om) rfl m,?_⟩;rw[<- j];have:=sU (l:=l) (k:=0) (n:=h) (λy a=>by
    have:y∈l:=a;exact ‹∀ x∈l,cF x› y a) om d
   simpa using this
theorem vA {K:Env->St->Prop}{st lv:LV}{sl d:List Int}{w:Nat->Int}{n keep back:Nat}{e:Env}(z:aM st sl) (A:aM lv d) (h:1<=n) (g:d.length=n) (j:n<=64) (f1:sl.length<=60) (f:LK sl d w keep back)
 (I:e.at 43=st) (J:e.at 44 = .int .i64 (keep:Int)) (L:e.at 3=lv) (M:e.at 4 = .int .i64 (n:Int)) (N:e.at 6 = .int .i64 (back:Int)) (O:e.at 2 = .aH 0 0)
 (B:∀ l a b,aM a (sl.take keep)->aM b (RC d ((d.length - back) % d.length))->l.at 2 = .aH 0 0->K l ((St.empty.new (.cells .mut [.aj, .aj])).put 0 (.cells .mut [a,b]))) :
 W Try.prog GL K [⟨(some 45),(.slice 1 (.t 43) none (some (.t 44))),none,[],true⟩,⟨(some 47),(.mv (.t 3)),none,[],true⟩,⟨(some 48),(.mv (.t 4)),none,[],true⟩,⟨(some 49),(.mv (.t 6)),none,[],true⟩,⟨(some 50),(.bin .sub (.t 48) (.t 49)),none,[],true⟩,⟨(some 51),(.mv (.t 4)),none,[],true⟩,⟨(some 52),(.bin .rem (.t 50) (.t 51)),none,[],true⟩,⟨(some 46),(.call (.c (.fn (.func 30) [] [])) [(.t 45)]),none,[],true⟩,⟨(some 53),(.call (.c (.fn (.func 71) [] [])) [(.t 47),(.t 52)]),none,[],true⟩,⟨(some 54),(.build [.aj, .aj] [(0,(1,(.t 46))),(1,(1,(.t 53)))]),none,[],true⟩,⟨none,(.store 2 (.t 2) (.t 54)),none,[],true⟩] e (St.empty.new (.cells .mut [.aj, .aj])):=by
 have C:=f.1;have D:=f.2.1;rw[g]at D;obtain⟨r,E,F⟩:=Jx z (e:=e) (s:=St.empty.new (.cells .mut [.aj, .aj])) (x:=.t 43) (hi:=.t 44) ef ef C;refine cX wN E rfl trivial ?_;simp only[Env.au];have P:IntKind.i64.wrap ((n:Int) - (back:Int))=((n - back:Nat):Int):=by rw[wrap_i64 _ om om];omega
 repeat' (first | refine gA trivial ?_ | (refine gB trivial ?_;rintro (_|_) G<;>try simp only[aG,reduceCtorEq]at G) | fail)
 refine Il wN (a:=.int .i64 ((n - back:Nat):Int)) (b:=.int .i64 (n:Int)) (v:=.int .i64 (((n - back) % n:Nat):Int)) ef ef (by
  have:¬ ((n:Int)=0):=by omega
  simp[iA,uP];rw[Int.tmod_eq_emod_of_nonneg om];exact⟨by omega,rfl⟩) ?_
 have m:=Nat.le_of_lt (Nat.mod_lt (n - back) (show n > 0 by omega));rw[<- g]at m h j;refine cW ez (Jj F (by simp;omega)) wN ef (λa p H=>⟨trivial,?_⟩);simp only[Env.au];refine cW ez (Jt A j h (k:=(d.length - back) % d.length) (by rw[g] at *;exact m)) wN ef (λb q Q=>⟨trivial,?_⟩);simp only[Env.au];have u:=p.sl.cell;have y:=q.sl.cell;refine cX (v:=.agg [a,b]) wN (by simp only[aR.run,aW,bB,List.map,lk,dJ,gW,Nat.reduceEqDiff,Nat.reduceAdd,Nat.reduceLeDiff,if_false,if_true,List.map,fY u,fY y];rfl) rfl trivial ?_;simp only[Env.au];refine iH (i:=0) (o:=0) (n:=2) (cs:=[.aj, .aj]) (vs:=[a,b]) (cs':=[a,b]) (v:=.agg [a,b]) ef ef (by simp[jk,u,y]) (by simp[cj]) rfl (by simp) rfl ?_;exact Nf (B _ _ _ p q ef)
theorem JZ {st lo:LV}{sl c:List Int}(g:aM st sl) (q:aM lo c) (R:Fm sl c) :
 PE 57 [.agg [st,lo]] (λr=>∃ st' J u t,r = .agg [st',J]/\aM st' u/\aM J t/\u.length<=sl.length/\1<=t.length/\t.length<=c.length/\(∀ x∈u,x∈sl)/\(∀ x∈t,x∈c)/\(∀ i,ew u t i=ew sl c i)/\Nrm sl c u t):=by
 have T:(LV.agg [st,lo]).closed=true:=by simp[LV.closed,LV.closed.aq,g.closed,q.closed]
 have mZ:=g.sl.cell;have uD:=q.sl.cell;obtain⟨f1,f2,f3,_,_⟩:=R;refine n8 Try.func57 (by decide +kernel) c57 (Nat.le_of_ble_eq_true rfl) (by simp[LV.closed.aq,T]) ?_;refine sJ λe h0=>?_;unfold l57;dsimp only[jA,jB,jE,jH,qM,qL,qF,qS,qI,qA,qC,qO,qG,qm,ql];repeat' (first | refine gA trivial ?_ | (refine gB trivial ?_;rintro (_|_) f<;>try simp only[aG,reduceCtorEq]at f) | fail)
 refine cW ez (JU q f2) wN ef (λr U V=>?_);obtain⟨n,rfl,K⟩:=U;have B:=K.1;have L:=B.1;have X:=B.2.1;refine⟨by simp only[cH,aE,aR.run,Env.au,lk,dJ,gW,Nat.reduceEqDiff,if_false,if_true,aT,false_or,and_true,Option.some.injEq, *],?_⟩;simp only[Env.au];have y:aM (.aB (((ints c).drop 0).take n) n) (c.take n):=by
  have:=sU (l:=c) (k:=0) (n:=n) q.jd om q.len;simpa using this
 have j:(c.take n).length=n:=by simp;omega
 have M:=Kb (sl:=sl) B;refine cX (v:=.aB (((ints c).drop 0).take n) n) wN (kQ (h:=n) (k:=0) (Z7:=none) (hiv:=some (.int .i64 (n:Int))) (by simp only[lk,Nat.reduceEqDiff,if_false,if_true];exact q.sl.pos om) rfl (by simp only[Option.map_some,lk,Nat.reduceEqDiff,if_false,if_true]) (qT X) rfl (fT c)) rfl trivial ?_;simp only[Env.au];have N:∀ k b,nb sl (c.take n) k b=nb sl (c.take n) sl.length 0->nb sl (c.take n) k b=(k,b)->Nrm sl c (sl.take k) (RC (c.take n) (((c.take n).length - b) % (c.take n).length)):=λk b h1 h2=>⟨n,K,by rw[<- h1,h2],by rw[<- h1,h2]⟩;generalize Y:ew sl c=w at M;generalize YL:LV.aB (((ints c).drop 0).take n) n=lv at *;generalize C:c.take n=z at *;have O:∀ x∈z,x∈c:=λx hx=>by rw[<- C]at hx;exact List.mem_of_mem_take hx
 repeat' (first | refine gA (And.intro @y.sl.len @g.sl.len) ?_ | (refine gB (And.intro @y.sl.len @g.sl.len) ?_;rintro (_|_) f<;>try simp only[aG,reduceCtorEq]at f) | fail)
 have D:n<=64:=by omega
 have E:=y.sl;rw[j]at E;refine aS (λm e s=>s=St.empty.new (.cells .mut [.aj, .aj])/\∃ keep back:Nat,keep=m/\e.at 1 = .aX [st,lo] 0/\e.at 2 = .aH 0 0/\e.at 3=lv/\e.at 4 = .int .i64 (n:Int)/\e.at 5 = .int .i64 (keep:Int)/\e.at 6 = .int .i64 (back:Int)/\LK sl z w keep back/\nb sl z keep back=nb sl z sl.length 0) sl.length
  ⟨by simp,sl.length,0,rfl,by simp,by simp,by simp,by simp,by simp,by simp,M,rfl⟩ ?_
 rintro m e s ⟨rfl,keep,back,rfl,Z,e2,e3,e4,e5,e6,d,F⟩;have fB:=d.1;have qw:=d.2.1;rw[j]at qw;by_cases uC:0<keep
 ·have G:IntKind.i64.wrap ((keep:Int) - 1)=((keep - 1:Nat):Int):=by rw[wrap_i64 _ om om];omega
  have P:IntKind.i64.wrap ((n:Int) - 1)=((n - 1:Nat):Int):=by rw[wrap_i64 _ om om];omega
  have Q:IntKind.i64.wrap (((n - 1:Nat):Int) - (back:Int))=((n - 1 - back:Nat):Int):=by rw[wrap_i64 _ om om];omega
  have x1:((keep - 1:Nat):Int)<(sl.length:Int):=by omega
  have x2:((n - 1 - back:Nat):Int)<(n:Int):=by omega
  have x3:((n - 1 - back:Nat):Int)<(z.length:Int):=by omega
  repeat' (first | refine gA (And.intro (@cw _ _ _ g.sl) (And.intro (@cw _ _ _ E) (And.intro @bu (And.intro @G (And.intro @P @Q))))) ?_ | (refine gB (And.intro (@cw _ _ _ g.sl) (And.intro (@cw _ _ _ E) (And.intro @bu (And.intro @G (And.intro @P @Q))))) ?_;intro H f;cases H<;>(try simp only[aG]at f)) | fail)
  ·exfalso;omega
  ·refine vA g y L j D f1 d ef ef ef ef ef ef (λe' a b o p I=>?_);simp only[zi];repeat' (first | refine gA trivial ?_ | (refine gB trivial ?_;rintro (_|_) f<;>try simp only[aG,reduceCtorEq]at f) | fail)
   refine⟨.inr trivial, .agg [a,b],by simp[br,bO,I,aT], .agg [a,b],_,bf ?_,?_,a,b,_,_,rfl,o,p,?_,?_,?_,?_,?_,AJ d,N _ _ F ?_⟩
   ·simp[LV.closed,LV.closed.aq,o.closed,p.closed]
   ·simp[LV.closed,LV.closed.aq,o.closed,p.closed]
   ·simp;omega
   ·rw[sZ (Nat.le_of_lt (Nat.mod_lt _ om))];omega
   ·rw[sZ (Nat.le_of_lt (Nat.mod_lt _ om))];omega
   ·exact λx hx=>List.mem_of_mem_take hx
   ·exact λx hx=>O x (HW hx)
   ·obtain⟨A,rfl⟩:∃ A,keep=A+1:=⟨keep - 1,by omega⟩;rw[nb,j];simp only[Nat.add_sub_cancel] at *;exact if_neg (by assumption)
  ·refine Il wN (a:=.int .i64 ((back+1:Nat):Int)) (b:=.int .i64 (n:Int)) (v:=.int .i64 (((back+1) % n:Nat):Int)) (by simp only[lk,Nat.reduceEqDiff,if_false,if_true,dI (i:=back) (n:=n) om (Nat.le_trans D (by decide))]) ef (by
    have:¬ ((n:Int)=0):=by omega
    simp[iA,uP];exact⟨by omega,Int.tmod_eq_emod_of_nonneg om⟩) ?_
   repeat' (first | refine gA trivial ?_ | (refine gB trivial ?_;rintro (_|_) f<;>try simp only[aG,reduceCtorEq]at f) | fail)
   have:=Ka d uC (by rw[j];exact f);rw[j]at this;refine⟨keep - 1,by omega,trivial,keep - 1,(back+1) % n,rfl,?_⟩;simp only[lk,Nat.reduceEqDiff,if_false,if_true,true_and,G,Z,e2,e3,e4,e5,e6];refine⟨this,?_⟩;rw[<- F];obtain⟨A,rfl⟩:∃ A,keep=A+1:=⟨keep - 1,by omega⟩;conv=>rhs;rw[nb]
   rw[j];simp only[Nat.add_sub_cancel] at *;exact (if_pos (by assumption)).symm
 ·repeat' (first | refine gA trivial ?_ | (refine gB trivial ?_;intro H f;cases H<;>(try simp only[aG]at f)) | fail)
  ·refine vA g y L j D f1 d ef ef ef ef ef ef (λe' a b o p I=>?_);simp only[zi];repeat' (first | refine gA trivial ?_ | (refine gB trivial ?_;rintro (_|_) f<;>try simp only[aG,reduceCtorEq]at f) | fail)
   refine⟨.inr trivial, .agg [a,b],by simp[br,bO,I,aT], .agg [a,b],_,bf ?_,?_,a,b,_,_,rfl,o,p,?_,?_,?_,?_,?_,AJ d,N _ _ F ?_⟩
   ·simp[LV.closed,LV.closed.aq,o.closed,p.closed]
   ·simp[LV.closed,LV.closed.aq,o.closed,p.closed]
   ·simp;omega
   ·rw[sZ (Nat.le_of_lt (Nat.mod_lt _ om))];omega
   ·rw[sZ (Nat.le_of_lt (Nat.mod_lt _ om))];omega
   ·exact λx hx=>List.mem_of_mem_take hx
   ·exact λx hx=>O x (HW hx)
   ·have:keep=0:=by omega
    subst this;rfl
  ·exfalso;omega
theorem FC {st lo:LV}{sl d:List Int}(g:aM st sl) (h:aM lo d) (j:Fm sl d) :
 PE 42 [.agg [st,lo]] (λr=>∃ st' a f c,r = .agg [st',a]/\aM st' f/\aM a c/\f.length<=sl.length/\1<=c.length/\c.length<=d.length/\(∀ x∈f,x∈sl)/\(∀ x∈c,x∈d)/\(∀ i,ew f c i=ew sl d i)/\Nrm sl d f c):=by
 have p:(LV.agg [st,lo]).closed=true:=by simp[LV.closed,LV.closed.aq,g.closed,h.closed]
 have y:=g.sl.cell;have z:=h.sl.cell;refine n8 Try.func42 (by decide +kernel) c42 (Nat.le_of_ble_eq_true rfl) (by simp[LV.closed.aq,p]) ?_;refine sJ λe h0=>?_;unfold l42;dsimp only[jA,jG,qN,qO,qG];repeat' (first | refine gA trivial ?_ | (refine gB trivial ?_;rintro (_|_) b<;>try simp only[aG,reduceCtorEq]at b) | fail)
 refine dN ez (Bb g h) (by first | exact wN | (apply wG;(simp only[lk,Nat.reduceEqDiff,reduceIte,h0];(try rfl);done))) (by simp only[List.map,lk,Nat.reduceEqDiff,reduceIte];try rfl) (λq b=>⟨by first | trivial | (simp only[cH,aE,aR.run,Env.au,Env.bI,svq,Nat.reduceEqDiff,Nat.reduceAdd,Nat.reduceLeDiff,reduceIte,aT,eH,List.map,bC,beq_self_eq_true,reduceCtorEq,false_or,true_and,and_true,Option.some.injEq, *];done),?_⟩);simp only[Env.au];cases q<;>simp only[decide_eq_true_eq,decide_eq_false_iff_not]at b
 ·exact absurd j b
 repeat' (first | refine gA trivial ?_ | (refine gB trivial ?_;rintro (_|_) b<;>try simp only[aG,reduceCtorEq]at b) | fail)
 refine cW ez (JZ g h j) wN ef (λr s k=>⟨trivial,?_⟩);obtain⟨st',a,f,c,rfl,l,m,t⟩:=s;have u:=l.sl.cell;have w:=m.sl.cell;simp only[Env.au];refine iH (i:=0) (o:=0) (n:=2) (cs:=[.aj, .aj]) (vs:=[st',a]) (cs':=[st',a]) (v:=.agg [st',a]) ef ef (by simp[jk,u,w]) (by simp[cj]) rfl (by simp) rfl ?_;repeat' (first | refine gA trivial ?_ | (refine gB trivial ?_;rintro (_|_) b<;>try simp only[aG,reduceCtorEq]at b) | fail)
 exact⟨.inr trivial, .agg [st',a],by simp[br,bO,aT], .agg [st',a],_,bf k,k,_,_,_,_,rfl,l,m,t⟩
theorem MX {v:LV}{l:List Int}(b:aM v l):me v=some l.length/\∀ s,rowOf s 1 l.length v=some (ints l):=by
 have a:=b.sl;clear b;generalize c:ints l=cs at a;generalize d:l.length=n at a;cases a with
 | nil=>exact⟨rfl,λ_=>rfl⟩
 | zs=>exact⟨rfl,λ_=>rfl⟩
 | aB=>exact⟨rfl,λ_=>n5 (by rw[<- c];simpa using d)⟩
end Go.Proofs.Ytkbiecjdcjfhaaa
end
