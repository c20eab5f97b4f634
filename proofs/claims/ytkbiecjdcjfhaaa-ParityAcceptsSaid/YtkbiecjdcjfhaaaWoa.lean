/- The word package: letter, below, formed, Valid. -/
import Derived.Test.YtkbiecjdcjfhaaaBase
import Derived.Test.YtkbiecjdcjfhaaaLitw
set_option linter.unusedSimpArgs false
set_option linter.unusedVariables false
set_option maxRecDepth 100000
set_option maxHeartbeats 16000000
section
namespace Go.Proofs.Ytkbiecjdcjfhaaa
open Go Go.Pv
open Classical
def kO (l:List Int) (m:Int):Prop:=∀ j,j<l.length->0<=l.getD j 0/\l.getD j 0<m
theorem AT (n:Int):PO 49 [.int .i64 n] (.bool (decide (0<=n/\n<64))):=by
 refine lK (t:=2) hm Try.func49 (by decide +kernel) c49 (Nat.le_of_ble_eq_true rfl) rfl rfl rfl ?_;refine sJ λe h0=>?_;unfold l49;dsimp only[jA,jD,qM,qK,qm];repeat' (first | refine gA trivial ?_ | (refine gB trivial ?_;intro a b;cases a<;>(try simp only[aG]at b)) | apply aA | fail)
 all_goals (refine⟨.inr trivial,?_⟩;simp only[lk,Nat.reduceEqDiff,if_false,if_true];first | exact hY om | exact b8 om)
theorem um {v:LV}{l:List Int}(a:aM v l) (m:Int):PO 34 [v, .int .i64 m] (.bool (decide (kO l m))):=by
 refine lK (t:=4) hm Try.func34 (by decide +kernel) c34 (Nat.le_of_ble_eq_true rfl) (by simp[LV.closed.aq,LV.closed,a.closed]) rfl rfl ?_;refine pF λe h0 h1=>?_;unfold l34;dsimp only[jA,jC,qM,qS,qI,qA,qB,qC,qK,qP,qm,ql];repeat' (first | refine gA @a.sl.len ?_ | (refine gB @a.sl.len ?_;rintro (_|_) b<;>try simp only[aG,reduceCtorEq]at b) | apply aA | fail)
 refine aS (λn e s=>∃ i:Nat,n=l.length - i/\i<=l.length/\(∀ j,j<i->0<=l.getD j 0/\l.getD j 0<m)/\e.at 1 = .int .i64 m/\e.at 7=v/\e.at 8 = .int .i64 (l.length:Int)/\e.at 9 = .int .i64 (i:Int)) _ ⟨0,rfl,by omega,λj c=>absurd c (Nat.not_lt_zero _),ef,ef,ef,ef⟩ ?_;clear h0 h1;clear e;rintro n e s ⟨i,rfl,w,f,g,k,o,p⟩;by_cases q:i<l.length
 ·have r:(i:Int)<(l.length:Int):=by omega
  have u:=dI (i:=i) r a.len;repeat' (first | refine gA (And.intro (@cw _ _ _ a.sl) @bu) ?_ | (refine gB (And.intro (@cw _ _ _ a.sl) @bu) ?_;intro d b;cases d<;>(try simp only[aG]at b)) | apply aA | fail)
  all_goals first
   | (exfalso;omega)
   | (refine⟨.inr trivial,?_⟩;simp only[lk,Nat.reduceEqDiff,if_false,if_true];exact b8 λh=>by have:=h i q;omega)
   | (refine⟨_,by omega,i+1,rfl,by omega,λj c=>?_,?_⟩
      ·rcases Nat.lt_succ_iff_lt_or_eq.1 c with h | rfl
       ·exact f j h
       ·omega
      ·simp only[lk,Nat.reduceEqDiff,if_false,if_true,u,g,k,o,p,and_self])
 ·repeat' (first | refine gA @a.sl.len ?_ | (refine gB @a.sl.len ?_;intro d b;cases d<;>(try simp only[aG]at b)) | apply aA | fail)
  all_goals first
   | (exfalso;omega)
   | (refine⟨.inr trivial,?_⟩;simp only[lk,Nat.reduceEqDiff,if_false,if_true];exact hY λj c=>f j om)
def Fm (S L:List Int):Prop:=S.length<=60/\1<=L.length/\L.length<=40/\kO S 64/\kO L 64
theorem Bb {st lo:LV}{S L:List Int}(i:aM st S) (j:aM lo L):PO 33 [.agg [st,lo]] (.bool (decide (Fm S L))):=by
 have l:(LV.agg [st,lo]).closed=true:=by simp[LV.closed,LV.closed.aq,i.closed,j.closed]
 have m:=i.sl.cell;have n:=j.sl.cell;refine lK (t:=2) hm Try.func33 (by decide +kernel) c33 (Nat.le_of_ble_eq_true rfl) (by simp[LV.closed.aq,l]) rfl rfl ?_;refine sJ λe h0=>?_;unfold l33;dsimp only[jA,jC,jD,qL,qF,qS,qK,qO,qP,qm,ql];repeat' (first | refine gA (And.intro @i.sl.len @j.sl.len) ?_ | (refine gB (And.intro @i.sl.len @j.sl.len) ?_;intro k g;cases k<;>(try simp only[aG]at g)) | apply aA | fail)
 all_goals first
  | (refine⟨.inr trivial,?_⟩;simp only[lk,Nat.reduceEqDiff,if_false,if_true];refine b8 λh=>?_;obtain⟨a,b,c,d,f⟩:=h;omega)
  | skip
 refine dN ez (um i 64) (by first | exact wN | (apply wG;(simp only[lk,Nat.reduceEqDiff,reduceIte,h0];(try rfl);done))) (by simp only[List.map,lk,Nat.reduceEqDiff,reduceIte];try rfl) (λk g=>⟨by first | trivial | (simp only[cH,aE,aR.run,Env.au,Env.bI,svq,Nat.reduceEqDiff,Nat.reduceAdd,Nat.reduceLeDiff,reduceIte,aT,eH,List.map,bC,beq_self_eq_true,reduceCtorEq,false_or,true_and,and_true,Option.some.injEq, *];done),?_⟩);simp only[Env.au];cases k<;>simp only[decide_eq_true_eq,decide_eq_false_iff_not]at g
 ·repeat' (first | refine gA trivial ?_ | (refine gB trivial ?_;rintro (_|_) g<;>try simp only[aG,reduceCtorEq]at g) | apply aA | fail)
  refine⟨.inr trivial,?_⟩;simp only[lk,Nat.reduceEqDiff,if_false,if_true];exact b8 λh=>g h.2.2.2.1
 ·repeat' (first | refine gA trivial ?_ | (refine gB trivial ?_;rintro (_|_) g<;>try simp only[aG,reduceCtorEq]at g) | apply aA | fail)
  refine dN ez (um j 64) (by first | exact wN | (apply wG;(simp only[lk,Nat.reduceEqDiff,reduceIte];(try rfl);done))) (by simp only[List.map,lk,Nat.reduceEqDiff,reduceIte];try rfl) (λk g=>⟨by first | trivial | (simp only[cH,aE,aR.run,Env.au,Env.bI,svq,Nat.reduceEqDiff,Nat.reduceAdd,Nat.reduceLeDiff,reduceIte,aT,eH,List.map,bC,beq_self_eq_true,reduceCtorEq,false_or,true_and,and_true,Option.some.injEq, *];done),?_⟩);simp only[Env.au];cases k<;>simp only[decide_eq_true_eq,decide_eq_false_iff_not]at g
  ·repeat' (first | refine gA trivial ?_ | (refine gB trivial ?_;rintro (_|_) g<;>try simp only[aG,reduceCtorEq]at g) | apply aA | fail)
   refine⟨.inr trivial,?_⟩;simp only[lk,Nat.reduceEqDiff,if_false,if_true];exact b8 λh=>g h.2.2.2.2
  ·repeat' (first | refine gA trivial ?_ | (refine gB trivial ?_;rintro (_|_) g<;>try simp only[aG,reduceCtorEq]at g) | apply aA | fail)
   refine⟨.inr trivial,?_⟩;simp only[lk,Nat.reduceEqDiff,if_false,if_true];exact hY ⟨by omega,by omega,by omega,by assumption,g⟩
theorem zZ {st lo:LV}{S L:List Int}(c:aM st S) (d:aM lo L) (m:Int):PO 16 [.int .i64 m, .agg [st,lo]] (.bool (decide (Fm S L/\kO S m/\kO L m))):=by
 have f:(LV.agg [st,lo]).closed=true:=by simp[LV.closed,LV.closed.aq,c.closed,d.closed]
 have g:=c.sl.cell;have i:=d.sl.cell;refine lK (t:=4) hm Try.func16 (by decide +kernel) c16 (Nat.le_of_ble_eq_true rfl) (by simp[LV.closed.aq,f];rfl) rfl rfl ?_;refine pF λe h0 h1=>?_;unfold l16;dsimp only[jA,jD,qM,qL,qN,qF,qK,qO,qG,qm];repeat' (first | refine gA trivial ?_ | (refine gB trivial ?_;rintro (_|_) a<;>try simp only[aG,reduceCtorEq]at a) | apply aA | fail)
 refine dN ez (Bb c d) (by first | exact wN | (apply wG;(simp only[lk,Nat.reduceEqDiff,reduceIte,h0,h1];(try rfl);done))) (by simp only[List.map,lk,Nat.reduceEqDiff,reduceIte];try rfl) (λb a=>⟨by first | trivial | (simp only[cH,aE,aR.run,Env.au,Env.bI,svq,Nat.reduceEqDiff,Nat.reduceAdd,Nat.reduceLeDiff,reduceIte,aT,eH,List.map,bC,beq_self_eq_true,reduceCtorEq,false_or,true_and,and_true,Option.some.injEq, *];done),?_⟩);simp only[Env.au];cases b<;>simp only[decide_eq_true_eq,decide_eq_false_iff_not]at a
 ·repeat' (first | refine gA trivial ?_ | (refine gB trivial ?_;rintro (_|_) a<;>try simp only[aG,reduceCtorEq]at a) | apply aA | fail)
  refine⟨.inr trivial,?_⟩;simp only[lk,Nat.reduceEqDiff,if_false,if_true];exact b8 λh=>a h.1
 ·repeat' (first | refine gA trivial ?_ | (refine gB trivial ?_;rintro (_|_) a<;>try simp only[aG,reduceCtorEq]at a) | apply aA | fail)
  refine dN ez (um c m) (by first | exact wN | (apply wG;(simp only[lk,Nat.reduceEqDiff,reduceIte];(try rfl);done))) (by simp only[List.map,lk,Nat.reduceEqDiff,reduceIte];try rfl) (λb a=>⟨by first | trivial | (simp only[cH,aE,aR.run,Env.au,Env.bI,svq,Nat.reduceEqDiff,Nat.reduceAdd,Nat.reduceLeDiff,reduceIte,aT,eH,List.map,bC,beq_self_eq_true,reduceCtorEq,false_or,true_and,and_true,Option.some.injEq, *];done),?_⟩);simp only[Env.au];cases b<;>simp only[decide_eq_true_eq,decide_eq_false_iff_not]at a
  ·repeat' (first | refine gA trivial ?_ | (refine gB trivial ?_;rintro (_|_) a<;>try simp only[aG,reduceCtorEq]at a) | apply aA | fail)
   refine⟨.inr trivial,?_⟩;simp only[lk,Nat.reduceEqDiff,if_false,if_true];exact b8 λh=>a h.2.1
  ·repeat' (first | refine gA trivial ?_ | (refine gB trivial ?_;rintro (_|_) a<;>try simp only[aG,reduceCtorEq]at a) | apply aA | fail)
   refine dN ez (um d m) (by first | exact wN | (apply wG;(simp only[lk,Nat.reduceEqDiff,reduceIte];(try rfl);done))) (by simp only[List.map,lk,Nat.reduceEqDiff,reduceIte];try rfl) (λb a=>⟨by first | trivial | (simp only[cH,aE,aR.run,Env.au,Env.bI,svq,Nat.reduceEqDiff,Nat.reduceAdd,Nat.reduceLeDiff,reduceIte,aT,eH,List.map,bC,beq_self_eq_true,reduceCtorEq,false_or,true_and,and_true,Option.some.injEq, *];done),?_⟩);simp only[Env.au];cases b<;>simp only[decide_eq_true_eq,decide_eq_false_iff_not]at a
   ·repeat' (first | refine gA trivial ?_ | (refine gB trivial ?_;rintro (_|_) a<;>try simp only[aG,reduceCtorEq]at a) | apply aA | fail)
    refine⟨.inr trivial,?_⟩;simp only[lk,Nat.reduceEqDiff,if_false,if_true];exact b8 λh=>a h.2.2
   ·repeat' (first | refine gA trivial ?_ | (refine gB trivial ?_;rintro (_|_) a<;>try simp only[aG,reduceCtorEq]at a) | apply aA | fail)
    refine⟨.inr trivial,?_⟩;simp only[lk,Nat.reduceEqDiff,if_false,if_true];exact hY ⟨by assumption,by assumption,a⟩
def Qs (a b:Nat):Prop:=a=b
theorem PW {v w:LV}{l r:List Int}(b:aM v l) (c:aM w r):PO 82 [v,w] (.bool (decide (l.length=r.length/\∀ j,j<l.length->l.getD j 0=r.getD j 0))):=by
 refine lK (t:=4) hm Try.func82 (by decide +kernel) c82 (Nat.le_of_ble_eq_true rfl) (by simp[LV.closed.aq,b.closed,c.closed]) rfl rfl ?_;refine pF λe h0 h1=>?_;unfold l82;dsimp only[jA,jB,qM,qL,qS,qI,qA,qB,qC,qK,qm];repeat' (first | refine gA (And.intro @b.sl.len @c.sl.len) ?_ | (refine gB (And.intro @b.sl.len @c.sl.len) ?_;intro d a;cases d<;>(try simp only[aG]at a)) | fail)
 ·have g:Qs l.length r.length:=by unfold Qs;omega
  clear a;refine aS (λn e s=>s=St.empty/\∃ i:Nat,n=l.length - i/\i<=l.length/\e.at 0=v/\e.at 1=w/\e.at 12 = .int .i64 (l.length:Int)/\e.at 13 = .int .i64 (i:Int)/\∀ j,j<i->l.getD j 0=r.getD j 0) l.length ⟨rfl,0,by simp,by simp,by simp[h0],by simp[h1],by simp,by simp,λj f=>absurd f (Nat.not_lt_zero _)⟩ ?_;rintro n e s ⟨rfl,i,rfl,u,m,o,p,q,k⟩;by_cases x:i<l.length
  ·have y:(i:Int)<(l.length:Int):=by omega
   have z:(i:Int)<(r.length:Int):=by unfold Qs at g;omega
   repeat' (first | refine gA (And.intro (@cw _ _ _ b.sl) (And.intro (@cw _ _ _ c.sl) @bu)) ?_ | (refine gB (And.intro (@cw _ _ _ b.sl) (And.intro (@cw _ _ _ c.sl) @bu)) ?_;intro d a;cases d<;>(try simp only[aG]at a)) | fail)
   ·omega
   ·refine⟨_,?_,trivial,i+1,rfl,?_⟩
    ·omega
    simp only[lk,Nat.reduceEqDiff,if_false,if_true,true_and,dI (i:=i) (n:=l.length) om b.len,m,o,p,q];refine⟨by omega,λj f=>?_⟩;rcases Nat.lt_succ_iff_lt_or_eq.1 f with h | rfl
    ·exact k j h
    ·assumption
   ·refine⟨.inr trivial,?_⟩;simp only[lk,Nat.reduceEqDiff,if_false,if_true];exact b8 λh=>a (h.2 i om)
  ·repeat' (first | refine gA trivial ?_ | (refine gB trivial ?_;intro d a;cases d<;>(try simp only[aG]at a)) | fail)
   ·refine⟨.inr trivial,?_⟩;simp only[lk,Nat.reduceEqDiff,if_false,if_true];exact hY ⟨g,λj f=>k j om⟩
   ·omega
 ·refine⟨.inr trivial,?_⟩;simp only[lk,Nat.reduceEqDiff,if_false,if_true];refine b8 λh=>?_;have:=h.1;omega
theorem kQ {e:Env}{s:St}{x:bz}{lo hi:Option bz}{cs:List LV}{len h k:Nat}{Z7 hiv:Option LV}(hx:x.ev e = .aB cs len) (a:lo.map (·.ev e)=Z7) (b:hi.map (·.ev e)=hiv) (c:fM len len hiv=some h) (hl:fM 0 h Z7=some k) (d:cs.length=len) :
 (aR.slice 1 x lo hi).run e s=some (.aB ((cs.drop k).take (h - k)) (h - k),s):=by
 simp[aR.run,hx,a,b,c,hl,d]
theorem qT {d m:Nat}{k:IntKind}{i:Nat}(h:i<=m):fM d m (some (.int k (i:Int)))=some i:=by
 have:(i:Int)<=(m:Int):=by omega
 simp[fM,h]
theorem sU {l:List Int}(a:∀ x∈l,cF x) {k n:Nat}(b:k+n<=l.length) (hm:l.length<=maxLen):aM (.aB (((ints l).drop k).take n) n) ((l.drop k).take n):=by
 have hl:((l.drop k).take n).length=n:=by simp;omega
 refine⟨?_,by omega,λx hx=>a x (List.mem_of_mem_drop (List.mem_of_mem_take hx))⟩;have:ints ((l.drop k).take n)=((ints l).drop k).take n:=by simp[ints,List.map_drop,List.map_take]
 rw[this,hl];exact .aB _ _
theorem wJ {l:List Int}{k n i:Nat}(hi:i<n):((l.drop k).take n).getD i 0=l.getD (k+i) 0:=by
 simp[gD,hi]
def VE (l:List Int) (n:Nat):Prop:=1<=n/\n<=l.length/\l.length % n=0/\∀ i,i+n<l.length->l.getD (n+i) 0=l.getD i 0
def PerM (l:List Int) (n:Nat):Prop:=VE l n/\∀ m,m<n->¬ VE l m
theorem JU {v:LV}{l:List Int}(d:aM v l) (hl:1<=l.length):PE 70 [v] (λr=>∃ n:Nat,r = .int .i64 (n:Int)/\PerM l n):=by
 have u:=d.sl.pos om;refine n9 (t:=2) hm Try.func70 (by decide +kernel) c70 (Nat.le_of_ble_eq_true rfl) (by simp[LV.closed.aq,d.closed]) rfl ?_;refine sJ λe h0=>?_;have G:maxLen=9223372036854775807:=by decide
 have w:=d.len;unfold l70;dsimp only[jA,jB,jE,qM,qS,qA,qB,qC,qm];repeat' (first | refine gA trivial ?_ | (refine gB trivial ?_;rintro (_|_) c<;>try simp only[aG,reduceCtorEq]at c) | fail)
 refine aS (λn e s=>s=St.empty/\∃ i:Nat,n=l.length - i/\1<=i/\i<=l.length/\(∀ m,m<i->¬ VE l m)/\e.at 0=v/\e.at 3 = .int .i64 (i:Int)) (l.length - 1) ⟨rfl,1,by simp,by simp,hl,(λm hm f=>absurd f.1 om),by simp[h0],by simp⟩ ?_;rintro n e s ⟨rfl,i,rfl,A,B,p,x,y⟩;have z:¬ VE l i->∀ m,m<i+1->¬ VE l m:=λC m hm=>by
  rcases Nat.lt_succ_iff_lt_or_eq.1 hm with h | rfl
  ·exact p m h
  ·exact C
 repeat' (first | refine gA @d.sl.len ?_ | (refine gB @d.sl.len ?_;intro g c;cases g<;>(try simp only[aG]at c)) | fail)
 ·refine⟨.inr trivial, .int .i64 (l.length:Int),St.empty,?_,rfl,l.length,rfl,⟨hl,Nat.le_refl _,Nat.mod_self _,λj q=>by omega⟩,λm hm=>p m om⟩;simp only[lk,Nat.reduceEqDiff,if_false,if_true];exact bf rfl
 ·have H:i<l.length:=by omega
  refine Il wN (a:=.int .i64 (l.length:Int)) (b:=.int .i64 (i:Int)) (v:=.int .i64 ((l.length % i:Nat):Int)) ef ef (by
   have:¬ ((i:Int)=0):=by omega
   simp[iA,uP];exact⟨by omega,Int.tmod_eq_emod_of_nonneg om⟩) ?_
  repeat' (first | refine gA @d.sl.len ?_ | (refine gB @d.sl.len ?_;intro g c;cases g<;>(try simp only[aG]at c)) | fail)
  · -- no o
   refine⟨_,?_,trivial,i+1,rfl,?_⟩
   ·omega
   simp only[lk,Nat.reduceEqDiff,Nat.reduceLeDiff,if_false,if_true,true_and,dI (i:=i) (n:=l.length) om d.len,x,y];exact⟨by omega,z λf=>by have:=f.2.2.1;omega,trivial⟩
  ·have D:l.length % i=0:=by omega
   have E:=sU d.jd (k:=i) (n:=l.length - i) om w;have F:=sU d.jd (k:=0) (n:=l.length - i) om w;refine cX (v:=.aB (((ints l).drop i).take (l.length - i)) (l.length - i)) (wG ef) (kQ (by simp only[lk,Nat.reduceEqDiff,if_false,if_true];exact u) rfl rfl rfl (by simp only[lk,gW,Nat.reduceEqDiff,if_false,if_true];exact qT om) (fT l)) rfl trivial ?_;simp only[Env.au];repeat' (first | refine gA @d.sl.len ?_ | (refine gB @d.sl.len ?_;rintro (_|_) c<;>try simp only[aG,reduceCtorEq]at c) | fail)
   have h1:IntKind.i64.wrap ((l.length:Int) - (i:Int))=((l.length - i:Nat):Int):=by rw[wrap_i64 _ om om];omega
   refine cX (v:=.aB (((ints l).drop 0).take (l.length - i)) (l.length - i)) (wG ef) (kQ (h:=l.length - i) (k:=0) (by simp only[lk,Nat.reduceEqDiff,if_false,if_true];exact u) rfl rfl (by simp only[lk,gW,Nat.reduceEqDiff,if_false,if_true,h1];exact qT om) rfl (fT l)) rfl trivial ?_;simp only[Env.au];refine dN ez (PW E F) (by first | exact wN | (apply wG;(simp only[lk,Nat.reduceEqDiff,reduceIte];(try rfl);done))) (by simp only[List.map,lk,Nat.reduceEqDiff,reduceIte];try rfl) (λg c=>⟨by first | trivial | (simp only[cH,aE,aR.run,Env.au,Env.bI,svq,Nat.reduceEqDiff,Nat.reduceAdd,Nat.reduceLeDiff,reduceIte,aT,eH,List.map,bC,beq_self_eq_true,reduceCtorEq,false_or,true_and,and_true,Option.some.injEq, *];done),?_⟩);simp only[Env.au];cases g<;>simp only[decide_eq_true_eq,decide_eq_false_iff_not]at c
   ·repeat' (first | refine gA trivial ?_ | (refine gB trivial ?_;rintro (_|_) c<;>try simp only[aG,reduceCtorEq]at c) | fail)
    refine⟨_,?_,trivial,i+1,rfl,?_⟩
    ·omega
    simp only[lk,gW,Nat.reduceEqDiff,Nat.reduceLeDiff,if_false,if_true,true_and,dI (i:=i) (n:=l.length) om d.len,x,y];refine⟨by omega,z λf=>c ?_,trivial⟩;refine⟨by simp,λj q=>?_⟩;have I:j<l.length - i:=by simpa using q
    rw[wJ om,wJ om,Nat.zero_add];exact f.2.2.2 j om
   ·repeat' (first | refine gA trivial ?_ | (refine gB trivial ?_;rintro (_|_) c<;>try simp only[aG,reduceCtorEq]at c) | fail)
    refine⟨.inr trivial, .int .i64 (i:Int),St.empty,?_,rfl,i,rfl,⟨A,B,D,λj q=>?_⟩,p⟩
    ·simp only[lk,gW,Nat.reduceEqDiff,if_false,if_true];exact bf rfl
    ·have:=c.2 j (by simp;omega);rw[wJ om,wJ om,Nat.zero_add]at this;exact this
theorem Iy {l:List Int}(hl:l.length<=64) (a:∀ x∈l,cF x):aM (.aB (ints l) l.length) l:=by
 have:maxLen=9223372036854775807:=by decide
 exact⟨.aB _ _,by omega,a⟩
theorem EN {e:Env}{t:Nat}{s:St}{j n:Nat}{l:List Int}(b:e.at t = .aD j 0 n 1) (c:n=l.length) (hs:s.get j=some (.cells .mut (ints l))) (a:aM (.aB (ints l) l.length) l) :
 ∃ r s',cK aY (e.at t) s=some (r,s')/\r.closed=true/\aM r l:=by
 subst c;rw[b];exact⟨_,_,tW hs (by simp) (bD l),a.closed,a⟩
theorem Jj {v:LV}{l:List Int}(c:aM v l) (hl:l.length<=64):PE 30 [v] (λr=>aM r l):=by
 refine n9 (t:=2) hm Try.func30 (by decide +kernel) c30 (Nat.le_of_ble_eq_true rfl) (by simp[LV.closed.aq,c.closed]) rfl ?_;have d:=c.sl;have g:=c.jd;have i:=Iy hl g;clear c;have f:v = .aj/\l=[]∨jP .JC v .aj=some false/\me v=some l.length/\∀ s,rowOf s 1 l.length v=some (ints l):=by
  generalize h:ints l=cs at d;generalize j:l.length=n at d;cases d with
  | nil=>exact .inl ⟨rfl,by simpa[ints] using h⟩
  | zs=>exact .inr ⟨rfl,rfl,λ_=>rfl⟩
  | aB=>exact .inr ⟨rfl,rfl,λ_=>n5 (by rw[<- h];simpa using j)⟩
 refine sJ λe h0=>?_;unfold l30;dsimp only[jA,qm];rcases f with⟨rfl,rfl⟩ | ⟨dH,a,k⟩
 ·repeat' (first | refine gA trivial ?_ | (refine gB trivial ?_;rintro (_|_) b<;>try simp only[aG,reduceCtorEq]at b) | fail)
  refine⟨.inr trivial, .aj,St.empty,?_,rfl, .nil,by simp,g⟩;simp only[lk,Nat.reduceEqDiff,if_false,if_true];exact bf rfl
 ·repeat' (first | refine gA trivial ?_ | (refine gB trivial ?_;intro m b;cases m<;>(try simp only[aG,if_false]at b)) | fail)
  refine eO wN (xv:=.aD 0 0 0 1) (yv:=v) ef ef a (k _) (ji (bD l))
   (zU (cs:=[]) (by rw[St.az,cj,if_pos rfl]) rfl (by simp) (by decide) om) ?_
  repeat' (first | refine gA trivial ?_ | (refine gB trivial ?_;rintro (_|_) b<;>try simp only[aG,reduceCtorEq]at b) | fail)
  exact⟨.inr trivial,EN (by simp only[lk,dJ,Nat.reduceEqDiff,if_false,if_true];rfl) (Nat.zero_add _) (by simp only[St.az,St.dP,if_true];rfl) i⟩
theorem Ag:∀ (vs a b c:List LV),b.length=vs.length->splice (a++b++c) a.length vs=a++vs++c:=by
 intro vs;induction vs with
 | nil => intro a b c h; have : b = [] := by simpa using h
          subst this;simp[splice]
 | cons v vs ih=>
   intro a b c h;cases b with
   | nil=>simp at h
   | cons x b=>
     have d:b.length=vs.length:=by simpa using h
     have:=ih (a++[v]) b c d;simp only[splice];have e:(a++(x::b)++c).set a.length v=a++[v]++b++c:=by simp
     rw[e];simpa using this
theorem Jt {v:LV}{l:List Int}(a:aM v l) (hl:l.length<=64) (o:1<=l.length) {k:Nat}(g:k<=l.length):PE 71 [v, .int .i64 (k:Int)] (λr=>aM r (l.drop k++l.take k)):=by
 have i:=a.sl.pos om;have j:aM (.aB (ints (l.drop k++l.take k)) (l.drop k++l.take k).length) (l.drop k++l.take k):=Iy (by simp;omega) λx hx=>by
  rcases List.mem_append.1 hx with h | h
  ·exact a.jd x (List.mem_of_mem_drop h)
  ·exact a.jd x (List.mem_of_mem_take h)
 refine n9 (t:=4) hm Try.func71 (by decide +kernel) c71 (Nat.le_of_ble_eq_true rfl) (by simp[LV.closed.aq,LV.closed,a.closed]) rfl ?_;refine pF λe h0 h1=>?_;unfold l71;dsimp only[jA,jB,qM,qS,qm];repeat' (first | refine gA @a.sl.len ?_ | (refine gB @a.sl.len ?_;rintro (_|_) b<;>try simp only[aG,reduceCtorEq]at b) | fail)
 refine cX (v:=.aD 0 0 l.length 1) (s':=St.empty.new (.cells .mut (rep l.length [.int .i64 0]))) wN ?_ rfl trivial ?_
 ·have:(l.length:Int)*8<=big:=by unfold big;omega
  have h2:(l.length:Int)<=big:=by unfold big;omega
  simp only[aR.run,lk,dJ,gW,Nat.reduceEqDiff,if_false,if_true];rw[if_pos ⟨by omega,Int.le_refl _,this,h2,trivial⟩];simp[cj]
 simp only[Env.au];repeat' (first | refine gA @a.sl.len ?_ | (refine gB @a.sl.len ?_;rintro (_|_) b<;>try simp only[aG,reduceCtorEq]at b) | fail)
 refine cX (v:=.aB (((ints l).drop k).take (l.length - k)) (l.length - k)) wN (kQ (by simp only[lk,Nat.reduceEqDiff,if_false,if_true];exact i) rfl rfl rfl (by simp only[lk,gW,Nat.reduceEqDiff,if_false,if_true];exact qT g) (fT l)) rfl trivial ?_;simp only[Env.au];have c:(rep l.length [LV.int .i64 0]).length=l.length:=by simp[rep]
 generalize rep l.length [LV.int .i64 0]=z at *;refine cX (v:=.int .i64 ((l.length - k:Nat):Int)) (s':=St.put (St.new St.empty (.cells .mut z)) 0 (.cells .mut (splice z 0 (((ints l).drop k).take (l.length - k))))) wN ?_ rfl trivial ?_
 ·have d:min (l.length - k) l.length=l.length - k:=by omega
  have f:rowOf (St.new St.empty (.cells .mut z)) 1 (l.length - k) (.aB (((ints l).drop k).take (l.length - k)) (l.length - k))=some (((ints l).drop k).take (l.length - k)):=n5 (by simp);simp only[aR.run,lk,dJ,gW,Nat.reduceEqDiff,if_false,if_true,me,d,f,St.az,cj,if_true];rw[if_pos ⟨trivial,by omega⟩]
 simp only[Env.au];repeat' (first | refine gA @a.sl.len ?_ | (refine gB @a.sl.len ?_;rintro (_|_) b<;>try simp only[aG,reduceCtorEq]at b) | fail)
 refine cX (v:=.aD 0 (l.length - k) k 1) (s':=St.put (St.new St.empty (.cells .mut z)) 0 (.cells .mut (splice z 0 (((ints l).drop k).take (l.length - k))))) wN ?_ rfl trivial ?_
 ·simp only[aR.run,lk,dJ,gW,Nat.reduceEqDiff,if_false,if_true,Option.map_none,fM];rw[if_pos ⟨by omega,by omega⟩];simp only[Option.bind_some,Int.toNat_natCast];congr 3;omega
 simp only[Env.au];repeat' (first | refine gA @a.sl.len ?_ | (refine gB @a.sl.len ?_;rintro (_|_) b<;>try simp only[aG,reduceCtorEq]at b) | fail)
 refine cX (v:=.aB (((ints l).drop 0).take k) k) wN (kQ (h:=k) (k:=0) (by simp only[lk,Nat.reduceEqDiff,if_false,if_true];exact i) rfl rfl (by simp only[lk,gW,Nat.reduceEqDiff,if_false,if_true];exact qT g) rfl (fT l)) rfl trivial ?_;simp only[Env.au];have m:splice z 0 (((ints l).drop k).take (l.length - k))=ints (l.drop k)++z.drop (l.length - k):=by
  have h3:((ints l).drop k).take (l.length - k)=ints (l.drop k):=by
   rw[List.take_of_length_le (by simp)];simp[ints,List.map_drop]
  have:=Ag (ints (l.drop k)) [] (z.take (l.length - k)) (z.drop (l.length - k)) (by simp[c]);rw[h3];simpa using this
 rw[m];refine cX (v:=.int .i64 (k:Int)) (s':=St.put (St.put (St.new St.empty (.cells .mut z)) 0 (.cells .mut (ints (l.drop k)++z.drop (l.length - k)))) 0 (.cells .mut (splice (ints (l.drop k)++z.drop (l.length - k)) (l.length - k) (((ints l).drop 0).take k)))) wN ?_ rfl trivial ?_
 ·have d:min k k=k:=by omega
  have f:∀ s,rowOf s 1 k (.aB ((ints l).take k) k)=some ((ints l).take k):=λs=>n5 (by simp;omega);simp only[List.drop_zero,aR.run,lk,dJ,gW,Nat.reduceEqDiff,if_false,if_true,me,d,f,St.ah,if_true];rw[if_pos ⟨trivial,by simp[c];omega⟩]
 simp only[Env.au];have n:splice (ints (l.drop k)++z.drop (l.length - k)) (l.length - k) (((ints l).drop 0).take k)=ints (l.drop k++l.take k):=by
  have h3:((ints l).drop 0).take k=ints (l.take k):=by simp[ints,List.map_take]
  have:=Ag (ints (l.take k)) (ints (l.drop k)) (z.drop (l.length - k)) [] (by simp[c];omega);rw[h3];simpa[ints] using this
 rw[n];repeat' (first | refine gA trivial ?_ | (refine gB trivial ?_;rintro (_|_) b<;>try simp only[aG,reduceCtorEq]at b) | fail)
 exact⟨.inr trivial,EN (by simp only[lk,gW,Nat.reduceEqDiff,if_false,if_true];rfl) (by simp;omega) (by rw[St.ah,if_pos rfl]) j⟩
end Go.Proofs.Ytkbiecjdcjfhaaa
end
