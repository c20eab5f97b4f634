/- The word package: letter, below, formed, Valid. -/
import Derived.Test.YtkbiecjdcjfhaaaGreatBase
import Derived.Test.YtkbiecjdcjfhaaaGreatLitw
set_option linter.unusedSimpArgs false
set_option linter.unusedVariables false
set_option maxRecDepth 100000
set_option maxHeartbeats 16000000
section
namespace Go.Proofs.YtkbiecjdcjfhaaaGreat
open Go Go.Pv
open Classical
def lB (l:List Int) (m:Int):Prop:=∀ j,j<l.length->0<=l.getD j 0/\l.getD j 0<m
theorem BH (n:Int):PO 86 [.int .i64 n] (.bool (decide (0<=n/\n<64))):=by
 refine gO (t:=2) hm Tryz.func86 br c86 bw rfl rfl rfl ?_;refine pg λe h0=>?_;unfold l86;dsimp only[jA,jD,qM,qK,qV,qW,qm,qR];repeat' (first|refine aV trivial ?_|(first|apply ah|apply af)<;>intro a)
 all_goals (refine⟨.inr trivial,?_⟩;simp only[lk,Nat.reduceEqDiff,if_false,if_true];first | exact gK om | exact cg om)
theorem uV {v:LV}{l:List Int}(a:aP v l) (m:Int):PO 47 [v, .int .i64 m] (.bool (decide (lB l m))):=by
 refine gO (t:=4) hm Tryz.func47 br c47 bw (by simp[LV.closed.au,LV.closed,a.closed]) rfl rfl ?_;refine mH λe h0 h1=>?_;unfold l47;dsimp only[jA,jC,qM,qS,qI,qA,qB,qC,qK,qP,qW,qm,ql,qR];repeat' (first|refine aV @a.sl.len ?_|(first|apply ah|apply af)<;>intro c)
 refine aN (λn e s=>∃ i:Nat,n=l.length - i/\i<=l.length/\(∀ j,j<i->0<=l.getD j 0/\l.getD j 0<m)/\e.at 1 = .int .i64 m/\e.at 7=v/\e.at 8 = .int .i64 (l.length:Int)/\e.at 9 = .int .i64 (i:Int)) _ ⟨0,rfl,by omega,λj b=>absurd b (Nat.not_lt_zero _),ef,ef,ef,ef⟩ ?_;clear h0 h1;clear e;rintro n e s ⟨i,rfl,u,d,f,g,k,o⟩;by_cases p:i<l.length
 ·have q:(i:Int)<(l.length:Int):=by omega
  have r:=ez (i:=i) q a.len;repeat' (first|refine aV (aj (@cU _ _ _ a.sl) @bB) ?_|(first|apply ah|apply af)<;>intro c)
  all_goals first
   | (exfalso;omega)
   | (refine⟨.inr trivial,?_⟩;simp only[lk,Nat.reduceEqDiff,if_false,if_true];exact cg λh=>by have:=h i p;omega)
   | (refine⟨_,by omega,i+1,rfl,by omega,λj b=>?_,?_⟩
      ·rcases Nat.lt_succ_iff_lt_or_eq.1 b with h | rfl
       ·exact d j h
       ·omega
      ·simp only[lk,Nat.reduceEqDiff,if_false,if_true,r,f,g,k,o,and_self])
 ·repeat' (first|refine aV @a.sl.len ?_|(first|apply ah|apply af)<;>intro c)
  all_goals first
   | (exfalso;omega)
   | (refine⟨.inr trivial,?_⟩;simp only[lk,Nat.reduceEqDiff,if_false,if_true];exact gK λj b=>d j om)
def Fm (S L:List Int):Prop:=S.length<=60/\1<=L.length/\L.length<=40/\lB S 64/\lB L 64
theorem MV {st k:LV}{S L:List Int}(i:aP st S) (j:aP k L):PO 46 [.agg [st,k]] (.bool (decide (Fm S L))):=by
 have m:(LV.agg [st,k]).closed=true:=by simp[LV.closed,LV.closed.au,i.closed,j.closed]
 have n:=i.sl.cell;have o:=j.sl.cell;refine gO (t:=2) hm Tryz.func46 br c46 bw (by simp[LV.closed.au,m]) rfl rfl ?_;refine pg λe h0=>?_;unfold l46;dsimp only[jA,jC,jD,qL,qF,qS,qK,qO,qP,qV,qU,qW,qm,ql,qR];repeat' (first|refine aV (aj @i.sl.len @j.sl.len) ?_|(first|apply ah|apply af)<;>intro g)
 all_goals first
  | (refine⟨.inr trivial,?_⟩;simp only[lk,Nat.reduceEqDiff,if_false,if_true];refine cg λh=>?_;obtain⟨a,b,c,d,f⟩:=h;omega)
  | skip
 refine cO ff (uV i 64) (by first | exact wN | (apply wG;(simp only[lk,Nat.reduceEqDiff,reduceIte,h0];(try rfl);done))) ef (λl g=>⟨by first | trivial | (simp only[dG,aK,bq.run,Env.aB,Env.cp,u6,Nat.reduceEqDiff,Nat.reduceAdd,Nat.reduceLeDiff,reduceIte,bG,iI,List.map,cu,beq_self_eq_true,reduceCtorEq,false_or,true_and,and_true,Option.some.injEq, *];done),?_⟩);simp only[Env.aB];cases l<;>simp only[decide_eq_true_eq,decide_eq_false_iff_not]at g
 ·repeat' (first|refine aV trivial ?_|(first|apply ah|apply af)<;>intro g)
  refine⟨.inr trivial,?_⟩;simp only[lk,Nat.reduceEqDiff,if_false,if_true];exact cg λh=>g h.2.2.2.1
 ·repeat' (first|refine aV trivial ?_|(first|apply ah|apply af)<;>intro g)
  refine cO ff (uV j 64) (by first | exact wN | (apply wG;(simp only[lk,Nat.reduceEqDiff,reduceIte];(try rfl);done))) ef (λl g=>⟨by first | trivial | (simp only[dG,aK,bq.run,Env.aB,Env.cp,u6,Nat.reduceEqDiff,Nat.reduceAdd,Nat.reduceLeDiff,reduceIte,bG,iI,List.map,cu,beq_self_eq_true,reduceCtorEq,false_or,true_and,and_true,Option.some.injEq, *];done),?_⟩);simp only[Env.aB];cases l<;>simp only[decide_eq_true_eq,decide_eq_false_iff_not]at g
  ·repeat' (first|refine aV trivial ?_|(first|apply ah|apply af)<;>intro g)
   refine⟨.inr trivial,?_⟩;simp only[lk,Nat.reduceEqDiff,if_false,if_true];exact cg λh=>g h.2.2.2.2
  ·repeat' (first|refine aV trivial ?_|(first|apply ah|apply af)<;>intro g)
   refine⟨.inr trivial,?_⟩;simp only[lk,Nat.reduceEqDiff,if_false,if_true];exact gK ⟨by omega,by omega,by omega,by assumption,g⟩
theorem K8 {st f:LV}{S L:List Int}(c:aP st S) (d:aP f L) (m:Int):PO 20 [.int .i64 m, .agg [st,f]] (.bool (decide (Fm S L/\lB S m/\lB L m))):=by
 have g:(LV.agg [st,f]).closed=true:=by simp[LV.closed,LV.closed.au,c.closed,d.closed]
 have i:=c.sl.cell;have j:=d.sl.cell;refine gO (t:=4) hm Tryz.func20 br c20 bw (by simp[LV.closed.au,g];rfl) rfl rfl ?_;refine mH λe h0 h1=>?_;unfold l20;dsimp only[jA,jD,qM,qL,qN,qF,qK,qO,qV,qG,qm,qR];repeat' (first|refine aV trivial ?_|(first|apply ah|apply af)<;>intro a)
 refine cO ff (MV c d) (by first | exact wN | (apply wG;(simp only[lk,Nat.reduceEqDiff,reduceIte,h0,h1];(try rfl);done))) ef (λb a=>⟨by first | trivial | (simp only[dG,aK,bq.run,Env.aB,Env.cp,u6,Nat.reduceEqDiff,Nat.reduceAdd,Nat.reduceLeDiff,reduceIte,bG,iI,List.map,cu,beq_self_eq_true,reduceCtorEq,false_or,true_and,and_true,Option.some.injEq, *];done),?_⟩);simp only[Env.aB];cases b<;>simp only[decide_eq_true_eq,decide_eq_false_iff_not]at a
 ·repeat' (first|refine aV trivial ?_|(first|apply ah|apply af)<;>intro a)
  refine⟨.inr trivial,?_⟩;simp only[lk,Nat.reduceEqDiff,if_false,if_true];exact cg λh=>a h.1
 ·repeat' (first|refine aV trivial ?_|(first|apply ah|apply af)<;>intro a)
  refine cO ff (uV c m) (by first | exact wN | (apply wG;(simp only[lk,Nat.reduceEqDiff,reduceIte];(try rfl);done))) ef (λb a=>⟨by first | trivial | (simp only[dG,aK,bq.run,Env.aB,Env.cp,u6,Nat.reduceEqDiff,Nat.reduceAdd,Nat.reduceLeDiff,reduceIte,bG,iI,List.map,cu,beq_self_eq_true,reduceCtorEq,false_or,true_and,and_true,Option.some.injEq, *];done),?_⟩);simp only[Env.aB];cases b<;>simp only[decide_eq_true_eq,decide_eq_false_iff_not]at a
  ·repeat' (first|refine aV trivial ?_|(first|apply ah|apply af)<;>intro a)
   refine⟨.inr trivial,?_⟩;simp only[lk,Nat.reduceEqDiff,if_false,if_true];exact cg λh=>a h.2.1
  ·repeat' (first|refine aV trivial ?_|(first|apply ah|apply af)<;>intro a)
   refine cO ff (uV d m) (by first | exact wN | (apply wG;(simp only[lk,Nat.reduceEqDiff,reduceIte];(try rfl);done))) ef (λb a=>⟨by first | trivial | (simp only[dG,aK,bq.run,Env.aB,Env.cp,u6,Nat.reduceEqDiff,Nat.reduceAdd,Nat.reduceLeDiff,reduceIte,bG,iI,List.map,cu,beq_self_eq_true,reduceCtorEq,false_or,true_and,and_true,Option.some.injEq, *];done),?_⟩);simp only[Env.aB];cases b<;>simp only[decide_eq_true_eq,decide_eq_false_iff_not]at a
   ·repeat' (first|refine aV trivial ?_|(first|apply ah|apply af)<;>intro a)
    refine⟨.inr trivial,?_⟩;simp only[lk,Nat.reduceEqDiff,if_false,if_true];exact cg λh=>a h.2.2
   ·repeat' (first|refine aV trivial ?_|(first|apply ah|apply af)<;>intro a)
    refine⟨.inr trivial,?_⟩;simp only[lk,Nat.reduceEqDiff,if_false,if_true];exact gK ⟨by assumption,by assumption,a⟩
theorem Ug {l:List Int}(hl:l.length<=64) (a:∀ x∈l,bU x):aP (.aF (ints l) l.length) l:=by
 have:maxLen=9223372036854775807:=by decide
 exact⟨.aF _ _,by omega,a⟩
theorem RQ {e:Env}{t:Nat}{s:St}{j n:Nat}{l:List Int}(b:e.at t = .aE j 0 n 1) (c:n=l.length) (hs:s.get j=some (.cells .mut (ints l))) (a:aP (.aF (ints l) l.length) l) :
 ∃ r s',cY bp (e.at t) s=some (r,s')/\r.closed=true/\aP r l:=by
 subst c;rw[b];exact⟨_,_,FU hs (by simp) (bI l),a.closed,a⟩
theorem K2 {v:LV}{l:List Int}(b:aP v l) (hl:l.length<=64):PE 37 [v] (λr=>aP r l):=by
 refine HF (t:=2) hm Tryz.func37 br c37 bw (by simp[LV.closed.au,b.closed]) rfl ?_;have c:=b.sl;have g:=b.tQ;have d:=Ug hl g;clear b;have f:v = .aq/\l=[]∨mw .Li v .aq=some false/\o8 v=some l.length/\∀ s,rowOf s 1 l.length v=some (ints l):=by
  generalize h:ints l=cs at c;generalize j:l.length=n at c;cases c with
  | nil=>exact .inl ⟨rfl,by simpa[ints] using h⟩
  | zs=>exact .inr ⟨rfl,rfl,λ_=>rfl⟩
  | aF=>exact .inr ⟨rfl,rfl,λ_=>yc (by rw[<- h];simpa using j)⟩
 refine pg λe h0=>?_;unfold l37;dsimp only[jA,qJ,qX,qm,qR];rcases f with⟨rfl,rfl⟩ | ⟨dB,a,k⟩
 ·repeat' (first|refine dg trivial ?_|(first|apply ah|apply af)<;>intro i)
  refine⟨.inr trivial, .aq,St.empty,?_,rfl, .nil,by simp,g⟩;simp only[lk,Nat.reduceEqDiff,if_false,if_true];exact bk rfl
 ·repeat' (first|refine dg trivial ?_|(first|apply ah|apply af)<;>intro i)
  refine eD wN (xv:=.aE 0 0 0 1) (yv:=v) ef ef a (k _) (gw (bI l))
   (sZ (cs:=[]) (by rw[St.aA,bJ,if_pos rfl]) rfl (by simp) (by decide) om) ?_
  repeat' (first|refine dg trivial ?_|(first|apply ah|apply af)<;>intro i)
  exact⟨.inr trivial,RQ ef (Nat.zero_add _) (by simp only[St.aA,St.eo,if_true];rfl) d⟩
end Go.Proofs.YtkbiecjdcjfhaaaGreat
end
