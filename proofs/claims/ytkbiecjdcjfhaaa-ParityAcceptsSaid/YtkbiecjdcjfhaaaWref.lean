/- The document's small functions of words. -/
import Derived.Test.YtkbiecjdcjfhaaaWoa
import Derived.Test.YtkbiecjdcjfhaaaLitw
set_option linter.unusedSimpArgs false
set_option linter.unusedVariables false
set_option maxRecDepth 100000
set_option maxHeartbeats 16000000
namespace Go.Proofs.Ytkbiecjdcjfhaaa
open Go Go.Pv
open Classical
theorem MU {st lo:LV}{S L:List Int}(a:aM st S) (b:aM lo L):PO 19 [.agg [st,lo]] (.bool (decide (S.length<=80/\L.length<=80))):=by
 have c:(LV.agg [st,lo]).closed=true:=by simp[LV.closed,LV.closed.aq,a.closed,b.closed]
 have g:=a.sl.cell;have h:=b.sl.cell;refine lK (t:=2) hm Try.func19 (by decide +kernel) c19 (Nat.le_of_ble_eq_true rfl) (by simp[LV.closed.aq,c]) rfl rfl ?_;refine sJ λe h0=>?_;unfold l19;dsimp only[jA,jD,qL,qF,qS,qK,qO,qm,ql];repeat' (first | refine gA (And.intro @a.sl.len @b.sl.len) ?_ | (refine gB (And.intro @a.sl.len @b.sl.len) ?_;intro d f;cases d<;>(try simp only[aG]at f)) | apply aA | fail)
 all_goals (refine⟨.inr trivial,?_⟩;simp only[lk,Nat.reduceEqDiff,if_false,if_true];first | exact hY om | exact b8 om)
theorem FW {st lo:LV}{S L:List Int}(o:aM st S) (l:aM lo L):PO 35 [.agg [st,lo]] (.bool (decide (Fm S L))):=by
 have A:(LV.agg [st,lo]).closed=true:=by simp[LV.closed,LV.closed.aq,o.closed,l.closed]
 have D:=o.sl.cell;have E:=l.sl.cell;refine lK (t:=2) hm Try.func35 (by decide +kernel) c35 (Nat.le_of_ble_eq_true rfl) (by simp[LV.closed.aq,A]) rfl rfl ?_;refine sJ λe h0=>?_;unfold l35;dsimp only[jA,jC,qL,qF,qS,qI,qA,qB,qC,qK,qO,qP,qG,qm,ql];repeat' (first | refine gA (And.intro @o.sl.len @l.sl.len) ?_ | (refine gB (And.intro @o.sl.len @l.sl.len) ?_;intro m g;cases m<;>(try simp only[aG]at g)) | apply aA | fail)
 all_goals first
  | (refine⟨.inr trivial,?_⟩;simp only[lk,Nat.reduceEqDiff,if_false,if_true];refine b8 λh=>?_;obtain⟨a,b,c,d,f⟩:=h;omega)
  | skip
 refine aS (λn e s=>∃ i:Nat,n=S.length - i/\i<=S.length/\(∀ j,j<i->0<=S.getD j 0/\S.getD j 0<64)/\e.at 1 = .aX [st,lo] 0/\e.at 3 = .int .i64 (i:Int)) _ ⟨0,rfl,by omega,λj p=>absurd p (Nat.not_lt_zero _),ef,ef⟩ ?_;have r:S.length<=60/\1<=L.length/\L.length<=40:=by omega
 clear h0 g;clear e;rintro n e s ⟨i,rfl,F,x,q,u⟩;by_cases B:i<S.length
 ·have v:(i:Int)<(S.length:Int):=by omega
  have w:=dI (i:=i) v o.len;repeat' (first | refine gA (And.intro @o.sl.len (And.intro (@cw _ _ _ o.sl) @bu)) ?_ | (refine gB (And.intro @o.sl.len (And.intro (@cw _ _ _ o.sl) @bu)) ?_;intro m g;cases m<;>(try simp only[aG]at g)) | apply aA | fail)
  all_goals first
   | (exfalso;omega)
   | skip
  refine dN ez (AT (S.getD i 0)) (by first | exact wN | (apply wG;(simp only[lk,Nat.reduceEqDiff,reduceIte,q,u];(try rfl);done))) (by simp only[List.map,lk,Nat.reduceEqDiff,reduceIte];try rfl) (λm g=>⟨by first | trivial | (simp only[cH,aE,aR.run,Env.au,Env.bI,svq,Nat.reduceEqDiff,Nat.reduceAdd,Nat.reduceLeDiff,reduceIte,aT,eH,List.map,bC,beq_self_eq_true,reduceCtorEq,false_or,true_and,and_true,Option.some.injEq, *];done),?_⟩);simp only[Env.au];cases m<;>simp only[decide_eq_true_eq,decide_eq_false_iff_not]at g
  ·repeat' (first | refine gA trivial ?_ | (refine gB trivial ?_;rintro (_|_) g<;>try simp only[aG,reduceCtorEq]at g) | apply aA | fail)
   refine⟨.inr trivial,?_⟩;simp only[lk,dJ,Nat.reduceEqDiff,if_false,if_true];exact b8 λh=>g (h.2.2.2.1 i B)
  ·repeat' (first | refine gA trivial ?_ | (refine gB trivial ?_;rintro (_|_) g<;>try simp only[aG,reduceCtorEq]at g) | apply aA | fail)
   refine⟨_,by omega,i+1,rfl,by omega,λj p=>?_,?_⟩
   ·rcases Nat.lt_succ_iff_lt_or_eq.1 p with h | rfl
    ·exact x j h
    ·exact g
   ·simp only[lk,dJ,Nat.reduceEqDiff,if_false,if_true,w,q,u,and_self]
 ·repeat' (first | refine gA (And.intro @o.sl.len @l.sl.len) ?_ | (refine gB (And.intro @o.sl.len @l.sl.len) ?_;intro m g;cases m<;>(try simp only[aG]at g)) | apply aA | fail)
  all_goals first
   | (exfalso;omega)
   | skip
  refine aS (λn e s=>∃ i:Nat,n=L.length - i/\i<=L.length/\(∀ j,j<i->0<=L.getD j 0/\L.getD j 0<64)/\e.at 1 = .aX [st,lo] 0/\e.at 5 = .int .i64 (i:Int)) _ ⟨0,rfl,by omega,λj p=>absurd p (Nat.not_lt_zero _),ef,ef⟩ ?_;clear q u g;clear e;rintro n e s ⟨k,rfl,G,y,q,z⟩;by_cases C:k<L.length
  ·have v:(k:Int)<(L.length:Int):=by omega
   have w:=dI (i:=k) v l.len;repeat' (first | refine gA (And.intro @l.sl.len (And.intro (@cw _ _ _ l.sl) @bu)) ?_ | (refine gB (And.intro @l.sl.len (And.intro (@cw _ _ _ l.sl) @bu)) ?_;intro m g;cases m<;>(try simp only[aG]at g)) | apply aA | fail)
   all_goals first
    | (exfalso;omega)
    | skip
   refine dN ez (AT (L.getD k 0)) (by first | exact wN | (apply wG;(simp only[lk,Nat.reduceEqDiff,reduceIte,q,z];(try rfl);done))) (by simp only[List.map,lk,Nat.reduceEqDiff,reduceIte];try rfl) (λm g=>⟨by first | trivial | (simp only[cH,aE,aR.run,Env.au,Env.bI,svq,Nat.reduceEqDiff,Nat.reduceAdd,Nat.reduceLeDiff,reduceIte,aT,eH,List.map,bC,beq_self_eq_true,reduceCtorEq,false_or,true_and,and_true,Option.some.injEq, *];done),?_⟩);simp only[Env.au];cases m<;>simp only[decide_eq_true_eq,decide_eq_false_iff_not]at g
   ·repeat' (first | refine gA trivial ?_ | (refine gB trivial ?_;rintro (_|_) g<;>try simp only[aG,reduceCtorEq]at g) | apply aA | fail)
    refine⟨.inr trivial,?_⟩;simp only[lk,dJ,Nat.reduceEqDiff,if_false,if_true];exact b8 λh=>g (h.2.2.2.2 k C)
   ·repeat' (first | refine gA trivial ?_ | (refine gB trivial ?_;rintro (_|_) g<;>try simp only[aG,reduceCtorEq]at g) | apply aA | fail)
    refine⟨_,by omega,k+1,rfl,by omega,λj p=>?_,?_⟩
    ·rcases Nat.lt_succ_iff_lt_or_eq.1 p with h | rfl
     ·exact y j h
     ·exact g
    ·simp only[lk,dJ,Nat.reduceEqDiff,if_false,if_true,w,q,z,and_self]
  ·repeat' (first | refine gA @l.sl.len ?_ | (refine gB @l.sl.len ?_;intro m g;cases m<;>(try simp only[aG]at g)) | apply aA | fail)
   all_goals first
    | (exfalso;omega)
    | skip
   refine⟨.inr trivial,?_⟩;simp only[lk,Nat.reduceEqDiff,if_false,if_true];exact hY ⟨r.1,r.2.1,r.2.2,λj p=>x j om,λj p=>y j om⟩
theorem FT {st lo:LV}{S L:List Int}(c:aM st S) (b:aM lo L) (m:Int):PO 20 [.int .i64 m, .agg [st,lo]] (.bool (decide ((∀ j,j<S.length->S.getD j 0<m)/\(∀ j,j<L.length->L.getD j 0<m)/\Fm S L))):=by
 have w:(LV.agg [st,lo]).closed=true:=by simp[LV.closed,LV.closed.aq,c.closed,b.closed]
 have z:=c.sl.cell;have A:=b.sl.cell;refine lK (t:=4) hm Try.func20 (by decide +kernel) c20 (Nat.le_of_ble_eq_true rfl) (by simp[LV.closed.aq,w];rfl) rfl rfl ?_;refine pF λe h0 h1=>?_;unfold l20;dsimp only[jA,qN,qF,qS,qI,qA,qB,qC,qK,qO,qG,qm,ql];repeat' (first | refine gA (And.intro @c.sl.len @b.sl.len) ?_ | (refine gB (And.intro @c.sl.len @b.sl.len) ?_;rintro (_|_) a<;>try simp only[aG,reduceCtorEq]at a) | apply aA | fail)
 refine aS (λn e s=>∃ i:Nat,n=S.length - i/\i<=S.length/\(∀ j,j<i->S.getD j 0<m)/\e.at 0 = .int .i64 m/\e.at 3 = .aX [st,lo] 0/\e.at 5 = .int .i64 (i:Int)) _ ⟨0,rfl,by omega,λj d=>absurd d (Nat.not_lt_zero _),ef,ef,ef⟩ ?_;clear h0 h1;clear e;rintro n e s ⟨i,rfl,B,q,g,l,r⟩;by_cases x:i<S.length
 ·have o:(i:Int)<(S.length:Int):=by omega
  have p:=dI (i:=i) o c.len;repeat' (first | refine gA (And.intro @c.sl.len (And.intro (@cw _ _ _ c.sl) @bu)) ?_ | (refine gB (And.intro @c.sl.len (And.intro (@cw _ _ _ c.sl) @bu)) ?_;intro f a;cases f<;>(try simp only[aG]at a)) | apply aA | fail)
  all_goals first
   | (exfalso;omega)
   | (refine⟨.inr trivial,?_⟩;simp only[lk,Nat.reduceEqDiff,if_false,if_true];exact b8 λh=>by have:=h.1 i x;omega)
   | (refine⟨_,by omega,i+1,rfl,by omega,λj d=>?_,?_⟩
      ·rcases Nat.lt_succ_iff_lt_or_eq.1 d with h | rfl
       ·exact q j h
       ·omega
      ·simp only[lk,Nat.reduceEqDiff,if_false,if_true,p,g,l,r,and_self])
 ·repeat' (first | refine gA (And.intro @c.sl.len @b.sl.len) ?_ | (refine gB (And.intro @c.sl.len @b.sl.len) ?_;intro f a;cases f<;>(try simp only[aG]at a)) | apply aA | fail)
  all_goals first
   | (exfalso;omega)
   | skip
  refine aS (λn e s=>∃ i:Nat,n=L.length - i/\i<=L.length/\(∀ j,j<i->L.getD j 0<m)/\e.at 0 = .int .i64 m/\e.at 3 = .aX [st,lo] 0/\e.at 6 = .int .i64 (i:Int)) _ ⟨0,rfl,by omega,λj d=>absurd d (Nat.not_lt_zero _),ef,ef,ef⟩ ?_;clear g l r a;clear e;rintro n e s ⟨k,rfl,C,u,g,l,v⟩;by_cases y:k<L.length
  ·have o:(k:Int)<(L.length:Int):=by omega
   have p:=dI (i:=k) o b.len;repeat' (first | refine gA (And.intro @b.sl.len (And.intro (@cw _ _ _ b.sl) @bu)) ?_ | (refine gB (And.intro @b.sl.len (And.intro (@cw _ _ _ b.sl) @bu)) ?_;intro f a;cases f<;>(try simp only[aG]at a)) | apply aA | fail)
   all_goals first
    | (exfalso;omega)
    | (refine⟨.inr trivial,?_⟩;simp only[lk,Nat.reduceEqDiff,if_false,if_true];exact b8 λh=>by have:=h.2.1 k y;omega)
    | (refine⟨_,by omega,k+1,rfl,by omega,λj d=>?_,?_⟩
       ·rcases Nat.lt_succ_iff_lt_or_eq.1 d with h | rfl
        ·exact u j h
        ·omega
       ·simp only[lk,Nat.reduceEqDiff,if_false,if_true,p,g,l,v,and_self])
  ·repeat' (first | refine gA @b.sl.len ?_ | (refine gB @b.sl.len ?_;intro f a;cases f<;>(try simp only[aG]at a)) | apply aA | fail)
   all_goals first
    | (exfalso;omega)
    | skip
   refine dN ez (FW c b) (by first | exact wN | (apply wG;(simp only[lk,Nat.reduceEqDiff,reduceIte,g,l,v];(try rfl);done))) (by simp only[List.map,lk,Nat.reduceEqDiff,reduceIte];try rfl) (λf a=>⟨by first | trivial | (simp only[cH,aE,aR.run,Env.au,Env.bI,svq,Nat.reduceEqDiff,Nat.reduceAdd,Nat.reduceLeDiff,reduceIte,aT,eH,List.map,bC,beq_self_eq_true,reduceCtorEq,false_or,true_and,and_true,Option.some.injEq, *];done),?_⟩);simp only[Env.au];cases f<;>simp only[decide_eq_true_eq,decide_eq_false_iff_not]at a
   ·repeat' (first | refine gA trivial ?_ | (refine gB trivial ?_;rintro (_|_) a<;>try simp only[aG,reduceCtorEq]at a) | apply aA | fail)
    refine⟨.inr trivial,?_⟩;simp only[lk,Nat.reduceEqDiff,if_false,if_true];exact b8 λh=>a h.2.2
   ·repeat' (first | refine gA trivial ?_ | (refine gB trivial ?_;rintro (_|_) a<;>try simp only[aG,reduceCtorEq]at a) | apply aA | fail)
    refine⟨.inr trivial,?_⟩;simp only[lk,Nat.reduceEqDiff,if_false,if_true];exact hY ⟨λj d=>q j om,λj d=>u j om,a⟩
end Go.Proofs.Ytkbiecjdcjfhaaa
