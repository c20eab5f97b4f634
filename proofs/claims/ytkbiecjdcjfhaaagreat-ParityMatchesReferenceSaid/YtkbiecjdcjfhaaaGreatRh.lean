/- The document's trimmed, of a list in memory. -/
import Derived.Test.YtkbiecjdcjfhaaaGreatRd
import Derived.Test.YtkbiecjdcjfhaaaGreatTval
import Derived.Test.YtkbiecjdcjfhaaaGreatRtr
set_option linter.unusedSimpArgs false
set_option linter.unusedVariables false
set_option maxRecDepth 100000
set_option maxHeartbeats 16000000
section
namespace Go.Proofs.YtkbiecjdcjfhaaaGreat
open Go Go.Pv Go.pR
open Classical
theorem Oo (t:List Nd) (i:Nat) (x:Int) {n:Nat}(h:1<=n):D4 t i x (n+1)↔D4 t i x n∨((t.getD n default).par=(t.getD i default).par/\x∈(t.getD n default).set):=by
 constructor
 ·rintro⟨k,h1,h2,h3,a⟩;by_cases e:k=n
  ·subst e;exact .inr ⟨h3,a⟩
  ·exact .inl ⟨k,h1,by omega,h3,a⟩
 ·rintro (⟨k,h1,h2,h3,a⟩ | ⟨h3,a⟩)
  ·exact⟨k,h1,by omega,h3,a⟩
  ·exact⟨n,h,by omega,h3,a⟩
theorem Lp {s:St}{j:Nat}{t:List Nd}{rs:List (Int × Int × LV)}(U:TM s j t rs) (cS:∀ n∈t,n.set.length<=3000) {i:Nat}(Y:i<t.length) (Mt:0<i->0<=(t.getD i default).par/\(t.getD i default).par<(i:Int)) :
 aM Tryz.prog GL (.fn (.func 57) [] []) [.aE j 0 t.length 3, .int .i64 (i:Int)] s (λr s'=>aP r (Cu t i)/\s.n<=s'.n/\∀ id,id<s.n->s'.get id=s.get id):=by
 have je:=lG;have mK:=U.lim;have iK:=cS _ (fK Y);obtain⟨-,E,B,V⟩:=U.ld Y;have nS:∀ x∈Cu t i,bU x:=λx hx=>V.tQ x (List.mem_filter.1 hx).1;refine zQ (bM (first:=[]) (caps:=[]) Tryz.func57 br c57 bw (aX.mono (Q:=λo e s'=>(o = .normal∨o = .jmp .ret)/\∃ w,e.at 4=w/\∃ r F,cY bp w s'=some (r,F)/\aP r (Cu t i)/\s.n<=F.n/\∀ id,id<s.n->F.get id=s.get id) ?_ λo e s' hh=>by
  obtain⟨h1,w,h2,h3⟩:=hh;exact⟨h1,w,by simp[l57,aW,bD,h2],h3⟩))
 refine Cd.out (mH λe b c=>?_);have iQ:(i:Int)<(t.length:Int):=by omega
 generalize gV:(t.getD i default).set=st at *;generalize Mn:(rs.getD i default).2.2=sv at *;have G:=Bx.mk Mn;have Z:=Bx.mk gV;clear Mn gV;have jQ:=V.sl.len;clear B E;unfold l57;dsimp only[jA,jB,jC,jD,jF,qM,qL,qF,qS,qI,qA,qB,qC,qP,qV,qH,qJ,qT,qX,qm,ql,qR];repeat' (first|refine aG trivial ?_|(first|apply ah|apply af)<;>intro a)
 refine aN (λm e s1=>∃ (k:Nat) (w:LV),m=st.length - k/\k<=st.length/\s.n<=s1.n/\(∀ id,id<s.n->s1.get id=s.get id)/\Sx s1 w (ints ((st.take k).filter λx=>decide (AJ t i x))) ((st.take k).filter λx=>decide (AJ t i x)).length/\(∀ id,aQ w id->s.n<=id)/\e.at 0 = .aE j 0 t.length 3/\e.at 1 = .int .i64 (i:Int)/\e.at 5=w/\e.at 6 = .int .i64 (k:Int)) _
  ⟨0, .aE s.n 0 0 1,rfl,Nat.zero_le _,by simp,λid C=>by rw[St.aA,if_neg om],⟨rfl, .inr ⟨s.n,rfl,by simp,by simp[ints]⟩⟩,λid f=>by have:=aI.1 f;omega,ef,ef,ef,by simp only[lk,Nat.reduceEqDiff,if_false,if_true];rfl⟩ ?_
 clear b c;clear e;rintro m e s1 ⟨k,w,rfl,hk,eu,ho,H,hU,b,c,g,l⟩;have wF:=U.keep eu (ho j U.lt);obtain⟨-,E,B,-⟩:=wF.ld Y;rw[G.out]at B;have d:=Bx.mk (And.intro H (And.intro hU ho));have sK:=List.length_filter_le (λx=>decide (AJ t i x)) (st.take k);rw[List.length_take]at sK;clear H hU ho;by_cases cG:k<st.length
 ·have iN : (k : Int) < (st.length : Int) := by omega
  have y:=@bQ k om;have jR:=bB iN;have ep:=G6 cG;generalize st.getD k 0=x at *;have lY:=Bx.mk ep;clear ep;have I:AJ t i x->Bx ((st.take (k+1)).filter (λx=>decide (AJ t i x))=(st.take k).filter (λx=>decide (AJ t i x))++[x]):=λh=>⟨by rw[lY.out,List.filter_append];simp[h]⟩;have J:¬ AJ t i x->Bx ((st.take (k+1)).filter (λx=>decide (AJ t i x))=(st.take k).filter (λx=>decide (AJ t i x))):=λh=>⟨by rw[lY.out,List.filter_append];simp[h]⟩;by_cases h0:i=0
  ·have FH:AJ t i x:=⟨.inl h0,λ⟨k,h1,h2,_⟩=>by omega⟩;have u:=I FH;have K:=Bx.mk h0;clear FH I J h0;repeat' (first|refine aH (aj @eF (aj @B (aj @jQ (aj (@cU _ _ _ V.sl) @jR)))) ?_|(first|apply ah|apply af)<;>intro a)
   ·exfalso;have:=K.out;omega
   refine aN (λm e s2=>s2=s1/\m=0/\e.at 0 = .aE j 0 t.length 3/\e.at 1 = .int .i64 (i:Int)/\e.at 5=w/\e.at 6 = .int .i64 (k:Int)/\e.at 7 = .int .i64 x/\e.at 8 = .bool true/\e.at 9 = .int .i64 1) _ ⟨rfl,rfl,ef,ef,ef,ef,ef,ef,ef⟩ ?_;clear b c g l a;clear e;rintro m e s2 ⟨hs,-,b,c,g,l,L,e8,e9⟩;subst hs;have hile:(i:Int)<=0:=by have:=K.out;omega
   repeat' (first|refine aH trivial ?_|(first|apply ah|apply af)<;>intro a)
   refine nK (v:=x) (yv:=w) ef ef d.out.1 (by unfold big;omega) (λM r4 A k2 N O=>?_);have h1:Bx (Sx M r4 (ints ((st.take (k+1)).filter λx=>decide (AJ t i x))) ((st.take (k+1)).filter λx=>decide (AJ t i x)).length):=⟨by rw[u.out];unfold ints at A ⊢;rw[List.map_append,List.length_append];exact A⟩;have h2:Bx (∀ id,id<s.n->M.get id=s.get id):=⟨λid C=>(N id om λf=>by have:=d.out.2.1 id f;omega).trans (d.out.2.2 id C)⟩;have h3:Bx (∀ id,aQ r4 id->s.n<=id):=⟨λid f=>by have:=O id f;omega⟩;clear A N O;repeat' (first|refine aH @y ?_|(first|apply ah|apply af)<;>intro a)
   refine⟨st.length - (k+1),by omega,k+1,r4,rfl,by omega,by omega,h2.out,h1.out,h3.out,?_⟩;simp only[lk,Nat.reduceEqDiff,if_false,if_true,y,b,c,and_self]
  ·obtain⟨BP,Zd⟩:=Mt om;have vn:AJ t i x↔x∈(t.getD (t.getD i default).par.toNat default).set/\¬ D4 t i x i:=by
    unfold AJ;exact⟨λh=>⟨h.1.resolve_left h0,h.2⟩,λh=>⟨.inr h.1,h.2⟩⟩
   have z:¬ D4 t i x 1:=λ⟨k,h1,h2,_⟩=>by omega
   have P:=λn h=>Oo t i x (n:=n) h;have yW:∀ n,n<=i->D4 t i x n->D4 t i x i:=λn hn ⟨k,h1,h2,h3⟩=>⟨k,h1,by omega,h3⟩;have KF:=Bx.mk (rfl:(t.getD i default).par=(t.getD i default).par);generalize UP:(t.getD i default).par=pi at *;obtain⟨q,rfl⟩:∃ q:Nat,pi=(q:Int):=⟨pi.toNat,by omega⟩;rw[Int.toNat_natCast]at vn;have hq:q<t.length:=by omega
   have SF:(q:Int)<(t.length:Int):=by omega
   obtain⟨-,-,Ft,hiq⟩:=wF.ld hq;have R:=Bx.mk (And.intro vn (And.intro z (And.intro P yW)));have hpiB:=Bx.mk UP;clear vn z P yW UP KF;generalize WQ:(t.getD q default).set=setq at *;generalize (rs.getD q default).2.2=svzq at *;have hsqB:=Bx.mk WQ;clear WQ;have hi1:(1:Int)<=(i:Int):=by omega
   clear h0;repeat' (first|refine aH (aj @eF (aj @B (aj @jQ (aj (@cU _ _ _ V.sl) (aj @jR (aj @E @Ft)))))) ?_|(first|apply ah|apply af)<;>intro a)
   refine cO ff (nI hiq x) (by first | exact wN | (apply wG;(simp only[lk,Nat.reduceEqDiff,reduceIte];(try rfl);done))) ef (λbb a=>⟨by first | trivial | (simp only[dG,aK,bq.run,Env.aB,Env.cp,u6,Nat.reduceEqDiff,Nat.reduceAdd,Nat.reduceLeDiff,reduceIte,bG,iI,List.map,cu,beq_self_eq_true,reduceCtorEq,false_or,true_and,and_true,Option.some.injEq, *];done),?_⟩);simp only[Env.aB];cases bb<;>simp only[decide_eq_true_eq,decide_eq_false_iff_not]at a
   ·have GI:=J λh=>a (R.out.1.1 h).1;clear I J a;repeat' (first|refine aH trivial ?_|(first|apply ah|apply af)<;>intro a)
    refine aN (λm e s2=>s2=s1/\m=0/\e.at 0 = .aE j 0 t.length 3/\e.at 1 = .int .i64 (i:Int)/\e.at 5=w/\e.at 6 = .int .i64 (k:Int)/\e.at 7 = .int .i64 x/\e.at 8 = .bool false/\e.at 9 = .int .i64 1) _ ⟨rfl,rfl,ef,ef,ef,ef,ef,ef,ef⟩ ?_;clear b c g l;clear e;rintro m e s2 ⟨hs,-,b,c,g,l,L,e8,e9⟩;subst hs;repeat' (first|refine aH @y ?_|(first|apply ah|apply af)<;>intro a)
    all_goals
     refine⟨st.length - (k+1),by omega,k+1,w,rfl,by omega,eu,d.out.2.2,by rw[GI.out];exact d.out.1,d.out.2.1,?_⟩;simp only[lk,Nat.reduceEqDiff,if_false,if_true,y,b,c,g,and_self]
   ·have Dd:Bx (AJ t i x↔¬ D4 t i x i):=⟨by rw[R.out.1];exact⟨λh=>h.2,λh=>⟨a,h⟩⟩⟩;have u:=Bx.mk (And.intro I J);clear I J a;repeat' (first|refine aH trivial ?_|(first|apply ah|apply af)<;>intro a)
    refine aN (λm e s2=>s2=s1/\∃ (n:Nat) (ok:Bool),m=i - n/\1<=n/\n<=i/\ok=decide (¬ D4 t i x n)/\e.at 0 = .aE j 0 t.length 3/\e.at 1 = .int .i64 (i:Int)/\e.at 5=w/\e.at 6 = .int .i64 (k:Int)/\e.at 7 = .int .i64 x/\e.at 8 = .bool ok/\e.at 9 = .int .i64 (n:Int)) _
     ⟨rfl,1,true,rfl,by omega,by omega,(decide_eq_true R.out.2.1).symm,ef,ef,ef,ef,ef,ef,by simp only[lk,Nat.reduceEqDiff,if_false,if_true];rfl⟩ ?_
    clear b c g l;clear e;rintro m e s2 ⟨hs,n,ok,rfl,Ir,Zk,fC,b,c,g,l,L,e8,e9⟩;subst hs;have yU:=Bx.mk fC;clear fC;cases ok with
    | false=>
      have GI:=u.out.2 λh=>by
       have h2:¬ ¬ D4 t i x n:=λh3=>by have:=yU.out;rw[decide_eq_true h3]at this;cases this
       exact h2 λh3=>Dd.out.1 h (R.out.2.2.2 n Zk h3)
      repeat' (first|refine aH @y ?_|(first|apply ah|apply af)<;>intro a)
      all_goals
       refine⟨st.length - (k+1),by omega,k+1,w,rfl,by omega,eu,d.out.2.2,by rw[GI.out];exact d.out.1,d.out.2.1,?_⟩;simp only[lk,Nat.reduceEqDiff,if_false,if_true,y,b,c,g,and_self]
    | true=>
      have Zg:Bx (¬ D4 t i x n):=⟨of_decide_eq_true yU.out.symm⟩;by_cases fH:n<i
      ·have hnI:(n:Int)<(i:Int):=by omega
       have hnt:n<t.length:=by omega
       have hntI:(n:Int)<(t.length:Int):=by omega
       have D:=@bQ n om;obtain⟨-,NH,tS,kH⟩:=wF.ld hnt;have P:=R.out.2.2.1 n Ir;generalize (t.getD n default).par=pn at *;generalize (t.getD n default).set=sn at *;generalize (rs.getD n default).2.2=svn at *;have YQ:=Bx.mk P;clear P;by_cases X:pn=(q:Int)
       ·have S:=Bx.mk X;rw[X]at NH;clear X;repeat' (first|refine aH (aj @eF (aj @NH (aj @E @tS))) ?_|(first|apply ah|apply af)<;>intro a)
        refine cO ff (nI kH x) (by first | exact wN | (apply wG;(simp only[lk,Nat.reduceEqDiff,reduceIte];(try rfl);done))) ef (λbb a=>⟨by first | trivial | (simp only[dG,aK,bq.run,Env.aB,Env.cp,u6,Nat.reduceEqDiff,Nat.reduceAdd,Nat.reduceLeDiff,reduceIte,bG,iI,List.map,cu,beq_self_eq_true,reduceCtorEq,false_or,true_and,and_true,Option.some.injEq, *];done),?_⟩);simp only[Env.aB];cases bb<;>simp only[decide_eq_true_eq,decide_eq_false_iff_not]at a
        ·have T:Bx (true=decide (¬ D4 t i x (n+1))):=⟨(decide_eq_true (p:=¬ D4 t i x (n+1)) λh=>(YQ.out.1 h).elim Zg.out λh2=>a h2.2).symm⟩;clear a;repeat' (first|refine aH @D ?_|(first|apply ah|apply af)<;>intro a)
         refine⟨i - (n+1),by omega,trivial,n+1,true,rfl,by omega,by omega,T.out,?_⟩;simp only[lk,dM,Nat.reduceEqDiff,if_false,if_true,D,b,c,g,l,L,and_self]
        ·have T:Bx (false=decide (¬ D4 t i x (n+1))):=⟨(decide_eq_false λh=>h (YQ.out.2 (.inr ⟨S.out,a⟩))).symm⟩;clear a;repeat' (first|refine aH @D ?_|(first|apply ah|apply af)<;>intro a)
         refine⟨i - (n+1),by omega,trivial,n+1,false,rfl,by omega,by omega,T.out,?_⟩;simp only[lk,dM,Nat.reduceEqDiff,if_false,if_true,D,b,c,g,l,L,and_self]
       ·have T:Bx (true=decide (¬ D4 t i x (n+1))):=⟨(decide_eq_true (p:=¬ D4 t i x (n+1)) λh=>(YQ.out.1 h).elim Zg.out λh2=>X h2.1).symm⟩;repeat' (first|refine aH (aj @eF (aj @NH (aj @E (aj @tS @D)))) ?_|(first|apply ah|apply af)<;>intro a)
        refine⟨i - (n+1),by omega,trivial,n+1,true,rfl,by omega,by omega,T.out,?_⟩;simp only[lk,Nat.reduceEqDiff,if_false,if_true,D,b,c,g,l,L,and_self]
      ·have hyC:=u.out.1 (Dd.out.2 (by rw[show i=n by omega];have:=Zg.out;rwa[show i=n by omega]at this));repeat' (first|refine aH trivial ?_|(first|apply ah|apply af)<;>intro a)
       refine nK (v:=x) (yv:=w) ef ef d.out.1 (by unfold big;omega) (λM r4 A k2 N O=>?_);have h1:Bx (Sx M r4 (ints ((st.take (k+1)).filter λx=>decide (AJ t i x))) ((st.take (k+1)).filter λx=>decide (AJ t i x)).length):=⟨by rw[hyC.out];unfold ints at A ⊢;rw[List.map_append,List.length_append];exact A⟩;have h2:Bx (∀ id,id<s.n->M.get id=s.get id):=⟨λid C=>(N id om λf=>by have:=d.out.2.1 id f;omega).trans (d.out.2.2 id C)⟩;have h3:Bx (∀ id,aQ r4 id->s.n<=id):=⟨λid f=>by have:=O id f;omega⟩;clear A N O;repeat' (first|refine aH @y ?_|(first|apply ah|apply af)<;>intro a)
       refine⟨st.length - (k+1),by omega,k+1,r4,rfl,by omega,by omega,h2.out,h1.out,h3.out,?_⟩;simp only[lk,Nat.reduceEqDiff,if_false,if_true,y,b,c,and_self]
 ·have nX:k=st.length:=by omega
  subst nX;rw[List.take_length]at sK;have H:Sx s1 w (ints (Cu t i)) (Cu t i).length:=by
   have:=d.out.1;rw[List.take_length]at this;unfold Cu;rw[Z.out];exact this
  have fX:(Cu t i).length<=3000:=by
   have:=List.length_filter_le (λx=>decide (AJ t i x)) (t.getD i default).set;rw[Z.out]at this;unfold Cu;rw[Z.out];omega
  obtain⟨r,F,h1,h2,h3,h4⟩:=kK H om nS;have hB:=Bx.mk (And.intro h1 (And.intro h2 (And.intro h3 h4)));clear h1 h2 h3 h4 H fX;repeat' (first|refine aH (aj @eF (aj @B @jQ)) ?_|(first|apply ah|apply af)<;>intro a)
  refine⟨.inr trivial,w,ef,r,F,hB.out.1,hB.out.2.1,by have:=hB.out.2.2.1;omega,λid C=>?_⟩;rw[hB.out.2.2.2 id λf=>by have:=d.out.2.1 id f;omega];exact d.out.2.2 id C
def LO (m:Nat->Bool) (k:Nat):Nat->LV:=λj=>.int .i64 (if j<k/\m j=true then (fB m j:Int) else 0)
theorem Ya {m:Nat->Bool}{k:Nat}(h:m k=false):LO m (k+1)=LO m k:=by
 funext j;unfold LO;by_cases e:j=k
 ·subst e;simp[h]
 ·have:(j<k+1/\m j=true)↔(j<k/\m j=true):=⟨λh=>⟨by omega,h.2⟩,λh=>⟨by omega,h.2⟩⟩;simp only[this]
theorem TW {m:Nat->Bool}{k:Nat}(h:m k=true) (j:Nat):LO m (k+1) j=if j=k then .int .i64 (fB m k:Int) else LO m k j:=by
 unfold LO;by_cases e:j=k
 ·subst e;simp[h]
 ·have:(j<k+1/\m j=true)↔(j<k/\m j=true):=⟨λh=>⟨by omega,h.2⟩,λh=>⟨by omega,h.2⟩⟩;simp only[this,e,if_false]
theorem ET {rs:List (Int × Int × LV)}{t:List Nd}(hl:rs.length=t.length) (h:∀ i,i<t.length->vM (rs.getD i default) (t.getD i default)) {r:Int × Int × LV}{n:Nd}(a:vM r n):∀ i,i<(t++[n]).length->vM ((rs++[r]).getD i default) ((t++[n]).getD i default):=by
 intro i b;rw[List.length_append,List.length_singleton]at b;by_cases e:i<t.length
 ·rw[dz e,dz om];exact h i e
 ·have e:i=t.length:=by omega
  subst e;rw[bZ (Nat.le_refl _),bZ om,hl,Nat.sub_self];exact a
theorem Qd {r:Int × Int × LV}{n:Nd}(h:vM r n) (m:Nat->Bool) {p:Int}(a:p=(u9 m n).par) (b : -1<=p/\p<=3000):vM (r.1,p,r.2.2) (u9 m n) :=
 ⟨h.name,a,h.set,h.nr,by rw[<- a];constructor<;>omega⟩
theorem Bj {s:St}{j jm:Nat}{t:List Nd}{rs:List (Int × Int × LV)}(E:TM s j t rs) {m:Nat->Bool}(hM:s.get jm=some (.cells .mut (cJ t.length m))) (U:jm<s.n) (hw:Ji t) :
 aM Tryz.prog GL (.fn (.func 59) [] []) [.aE j 0 t.length 3, .aE jm 0 t.length 1] s (λr s'=>∃ a b,r = .aE a 0 (kp t m).length 3/\s.n<=a/\TM s' a (kp t m) b/\s.n<=s'.n/\∀ id,id<s.n->s'.get id=s.get id):=by
 have je:=lG;have mK:=E.lim;refine bM (first:=[]) (caps:=[]) Tryz.func59 br c59 bw (aX.mono (Q:=λo e s'=>(o = .normal∨o = .jmp .ret)/\∃ a b,e.at 4 = .aE a 0 (kp t m).length 3/\s.n<=a/\TM s' a (kp t m) b/\s.n<=s'.n/\∀ id,id<s.n->s'.get id=s.get id) ?_ λo e s' hh=>by
  obtain⟨h1,a,b,h2,h3⟩:=hh;exact⟨h1,_,by simp[l59,aW,bD,h2],a,b,rfl,h3⟩)
 refine Cd.out (mH λe w x=>?_);have zc:=E.lt;unfold l59;dsimp only[jA,jG,qN,qF,qS,qI,qA,qB,qC,qJ,qT,qX,qm,ql,qR];repeat' (first|refine aG trivial ?_|(first|apply ah|apply af)<;>intro l)
 refine vP (n:=t.length) (k:=s.n+1) (z:=.int .i64 0) wN rfl ef ef om (by decide) ?_;repeat' (first|refine aG trivial ?_|(first|apply ah|apply af)<;>intro l)
 refine aN (λmm e s1=>∃ (k a:Nat) (b:List (Int × Int × LV)),mm=t.length - k/\k<=t.length/\(s.n+1<s1.n/\(∀ id,id<s.n->s1.get id=s.get id)/\s1.get (s.n+1)=some (.cells .mut (bz t.length (LO m k)))/\TM s1 a (tR t m k) b/\s.n<=a/\a≠s.n+1)/\e.at 0 = .aE j 0 t.length 3/\e.at 1 = .aE jm 0 t.length 1/\e.at 5 = .aE a 0 (tR t m k).length 3/\e.at 6 = .aE (s.n+1) 0 t.length 1/\e.at 7 = .int .i64 (k:Int)) _
  ⟨0,s.n,[],rfl,Nat.zero_le _,⟨by simp,λid g=>by rw[St.aA,if_neg (by simp;omega),St.aA,if_neg om],by rw[St.aA,if_pos (by simp)];congr 2,⟨by rw[St.aA,if_neg (by simp),St.aA,if_pos rfl];rfl,by simp;omega,rfl,by simp[tR],λi hi=>by simp[tR]at hi⟩,Nat.le_refl _,by omega⟩,ef,ef,ef,ef,by simp only[lk,Nat.reduceEqDiff,if_false,if_true];rfl⟩ ?_
 clear w x;clear e;rintro mm e s1 ⟨k,a,b,rfl,hk,hI,w,x,F,B,K⟩;by_cases L:k<t.length
 ·have iN:(k:Int)<(t.length:Int):=by omega
  have M:=@bQ k om;obtain⟨eu,ho,p,d,V,rP⟩:=hI;have G:=(ho jm U).trans hM;have u:(cJ t.length m)[k]? = some (.bool (m k)):=iA L;have C:=ke t m k;cases y:m k with
  | false=>
    have H:Bx (s.n+1<s1.n/\(∀ id,id<s.n->s1.get id=s.get id)/\s1.get (s.n+1)=some (.cells .mut (bz t.length (LO m (k+1))))/\TM s1 a (tR t m (k+1)) b/\s.n<=a/\a≠s.n+1):=⟨by
     rw[C,y,if_neg (by decide),Ya y];exact⟨eu,ho,p,d,V,rP⟩⟩
    have QU:Bx ((tR t m (k+1)).length=(tR t m k).length):=⟨by rw[C,y,if_neg (by decide)]⟩;rw[y]at u;clear p d C y ho;repeat' (first|refine aH (aj @eF (aj @G (aj @u @M))) ?_|(first|apply ah|apply af)<;>intro l)
    refine⟨t.length - (k+1),by omega,k+1,a,b,rfl,by omega,H.out,?_⟩;rw[QU.out];simp only[lk,dM,Nat.reduceEqDiff,if_false,if_true,M,w,x,F,B,and_self]
  | true=>
    have wF:=E.keep (s':=s1) om (ho j zc);have lZ:rs[k]? = some (rs.getD k default):=by rw[gD,gE (by rw[E.len];omega)];rfl
    have c:=E.nd k L;have hpk:=hw k L;rw[y,if_pos rfl]at C;rw[y]at u;generalize t.getD k default=n at *;generalize rs.getD k default=r at *;have kG:cz (some 3) (.aO j (k*3)) s1=some (.agg [.int .i64 n.name, .int .i64 n.par,r.2.2]):=by
     have:=lV (s:=s1) (md:=.mut) (j:=j) fN lZ (rest:=[]) (by rw[List.append_nil];exact wF.get);rw[this];unfold eO;rw[c.name,c.par]
    have qu:=c.set.sl.cell;have UN:=c.set.closed;have jk:((s1.new (.cells .mut [.int .i64 0, .int .i64 0, .aq])).put s1.n (.cells .mut [.int .i64 n.name, .int .i64 n.par,r.2.2])).n=s1.n+1:=rfl;have I:((s1.new (.cells .mut [.int .i64 0, .int .i64 0, .aq])).put s1.n (.cells .mut [.int .i64 n.name, .int .i64 n.par,r.2.2])).get s1.n=some (.cells .mut [.int .i64 n.name, .int .i64 n.par,r.2.2]):=by rw[St.az,if_pos rfl]
    have N:∀ id,id<s1.n->((s1.new (.cells .mut [.int .i64 0, .int .i64 0, .aq])).put s1.n (.cells .mut [.int .i64 n.name, .int .i64 n.par,r.2.2])).get id=s1.get id:=λid g=>by rw[St.az,if_neg om,St.aA,if_neg om]
    have X:=(N _ om).trans p;have hB:=Bx.mk (And.intro ho (And.intro p (And.intro d (And.intro c C))));clear ho p d C wF lZ;repeat' (first|refine aG (aj @eF (aj @G (aj @u @kG))) ?_|(first|apply ah|apply af)<;>intro l)
    generalize (s1.new (.cells .mut [.int .i64 0, .int .i64 0, .aq])).put s1.n (.cells .mut [.int .i64 n.name, .int .i64 n.par,r.2.2])=s2 at *;refine lQ (λD s'=>(s'.n=s2.n/\s'.get s1.n=some (.cells .mut (eO (n.name,(u9 m n).par,r.2.2)))/\∀ id,id≠s1.n->s'.get id=s2.get id)/\D.at 0 = .aE j 0 t.length 3/\D.at 1 = .aE jm 0 t.length 1/\D.at 5 = .aE a 0 (tR t m k).length 3/\D.at 6 = .aE (s.n+1) 0 t.length 1/\D.at 7 = .int .i64 (k:Int)/\D.at 8 = .aO s1.n 0) ?_ ?_
    ·by_cases vm:0<=n.par
     ·obtain⟨q,Y⟩:∃ q:Nat,n.par=(q:Int):=⟨n.par.toNat,by omega⟩;have Z:q<k:=by omega
      have SF:(q:Int)<(t.length:Int):=by omega
      have nU:(bz t.length (LO m k))[q]? = some (.int .i64 (u9 m n).par):=by
       rw[cQ om];unfold LO u9;simp only[Y,Int.toNat_natCast];rw[if_pos (show (0:Int)<=(q:Int) by omega)];by_cases h:m q=true
       ·rw[if_pos ⟨Z,h⟩,if_pos h]
       ·rw[if_neg λh2=>h h2.2,if_neg h]
      rw[Y]at I vm;rw[Y];clear c;repeat' (first|refine aG (aj @eF (aj @I (aj @X @nU))) ?_|(first|apply ah|apply af)<;>intro l)
      refine⟨⟨rfl,by rw[St.az,if_pos rfl];rfl,λid g=>by rw[St.az,if_neg g]⟩,?_⟩;simp only[lk,dM,Nat.reduceEqDiff,if_false,if_true,w,x,F,B,K,and_self]
     ·have hkn:Bx ((u9 m n).par=n.par):=⟨uo om⟩;have Vl:=Bx.mk I;repeat' (first|refine aG (aj @eF @I) ?_|(first|apply ah|apply af)<;>intro l)
      refine⟨⟨trivial,by rw[hkn.out];exact Vl.out,λid g=>trivial⟩,?_⟩;simp only[lk,dM,Nat.reduceEqDiff,if_false,if_true,w,x,F,B,K,and_self]
    ·clear w x F B K;clear e;rintro e s3 ⟨⟨o9,xG,O⟩,w,x,F,B,K,e8⟩;obtain⟨ho,p,d,c⟩:=hB.out;have J:=d.lt;have Xl:=(O _ om).trans X;have IF:=d.keep (s':=s3) om ((O a om).trans (N a J));have QJ:∀ id,id<s.n->s3.get id=s.get id:=λid g=>(O id om).trans ((N id om).trans (ho id g));have DJ : -1<=(u9 m n).par/\(u9 m n).par<=3000:=by
      unfold u9;simp only;have:=CC m n.par.toNat;split
      ·split<;>omega
      ·omega
     have w6:=Bx.mk (And.intro IF (And.intro QJ DJ));clear ho p d IF QJ DJ N O X I;have hkl2:(tR t m k).length<=k:=by rw[oF];exact CC m k
     have wZ:=Bx.mk (oF t m k);repeat' (first|refine aG @eF ?_|(first|apply ah|apply af)<;>intro l)
     refine jZ (q:=k) (f:=LO m k) (f':=LO m (k+1)) ef ef rfl Xl L (λjj=>by rw[TW y,<- wZ.out]) (λs4 od nY P=>?_);have R:=(P s1.n om).trans xG;have Ai:=w6.out.1.keep (s':=s4) om (P a om);have A:∀ id,id<s.n->s4.get id=s.get id:=λid g=>(P id om).trans (w6.out.2.1 id g);have v:=Bx.mk (And.intro Ai (And.intro A nY));clear Ai A nY P Xl xG;unfold eO at R;simp only at R;repeat' (first|refine aG @R ?_|(first|apply ah|apply af)<;>intro l)
     refine qb (n:=(tR t m k).length) (aZ:=3) (xv:=.agg (eO (n.name,(u9 m n).par,r.2.2))) (yv:=.aE a 0 (tR t m k).length 3) (vs:=eO (n.name,(u9 m n).par,r.2.2)) (cells:=dm eO b) ef (n8 _ _ qu) rfl rfl (kQ.closed (by simp[eO,LV.closed.au,LV.closed,UN])) ef ⟨by rw[eN fN,v.out.1.len], .inr ⟨a,[],rfl,v.out.1.lt,by rw[List.append_nil];exact v.out.1.get⟩⟩ (by decide) om (λS T a1 a2 a3 a4 a5 a6=>?_);have y9:(tR t m (k+1)).length=(tR t m k).length+1:=by rw[c.2,List.length_append,List.length_singleton]
     have H:Bx (s.n+1<S.n/\(∀ id,id<s.n->S.get id=s.get id)/\S.get (s.n+1)=some (.cells .mut (bz t.length (LO m (k+1))))/\TM S T (tR t m (k+1)) (b++[(n.name,(u9 m n).par,r.2.2)])/\s.n<=T/\T≠s.n+1):=⟨by
      refine⟨by omega,λid g=>?_,?_,⟨?_,a2,?_,by omega,?_⟩,by omega,by omega⟩
      ·rw[a6 id om (λhu=>by have:=aI.1 hu;omega)];exact v.out.2.1 id g
      ·rw[a6 _ om (λhu=>by have:=aI.1 hu;omega)];exact v.out.2.2
      ·rw[gh,oq];exact a3
      ·rw[y9,List.length_append,List.length_singleton,v.out.1.len]
      ·rw[c.2];refine ET v.out.1.len v.out.1.nd ?_;have:=Qd c.1 m rfl w6.out.2.2;rw[c.1.name]at this;exact this⟩
     clear a3 a4 a6 R c v;repeat' (first|refine aG @M ?_|(first|apply ah|apply af)<;>intro l)
     refine⟨t.length - (k+1),by omega,k+1,T,_,rfl,by omega,H.out,?_⟩;rw[y9];simp only[lk,Nat.reduceEqDiff,if_false,if_true,M,w,x,B,and_self]
 ·have nX:k=t.length:=by omega
  subst nX;obtain⟨eu,ho,p,d,V,rP⟩:=hI;have H:Bx (s.n<=a/\TM s1 a (kp t m) b/\s.n<=s1.n/\∀ id,id<s.n->s1.get id=s.get id):=⟨⟨V,d,by omega,ho⟩⟩;clear ho p d;repeat' (first|refine aG trivial ?_|(first|apply ah|apply af)<;>intro l)
  exact⟨.inr trivial,a,b,ef,H.out⟩
def irow (x:Int):List LV:=[.int .i64 x]
theorem yN (x:Int):(irow x).length=1:=rfl
theorem uw (l:List Int):ints l=dm irow l:=by
 unfold ints dm;induction l with
 | nil=>rfl
 | cons x l ih=>rw[List.map_cons,ih];rfl
theorem yb {v:LV}{l:List Int}(G:aP v l) (hl:l.length<=6000):PE 61 [v] (λr=>aP r (Lf l)):=by
 have je:=lG;have T:=G.sl.len;refine dS Tryz.func61 br c61 bw (by simp[LV.closed.au,G.closed]) ?_;refine pg λe q=>?_;unfold l61;dsimp only[jA,jB,jE,jH,qM,qL,qS,qI,qA,qB,qC,qV,qU,qJ,qX,qm,ql,qR];repeat' (first|refine aG trivial ?_|(first|apply ah|apply af)<;>intro f)
 refine aN (λm e s1=>∃ (k j:Nat) (S:List Int),m=l.length - k/\k<=l.length/\(Sx s1 (.aE j 0 k 1) (ints S) k/\S.Pairwise (· <= ·)/\S.Perm (l.take k))/\e.at 0=v/\e.at 3 = .aE j 0 k 1/\e.at 4 = .int .i64 (k:Int)) _
  ⟨0,0,[],rfl,Nat.zero_le _,⟨⟨rfl, .inr ⟨0,rfl,by simp[bJ],by simp[ints,bJ]⟩⟩, .nil, .nil⟩,ef,ef,by simp only[lk,Nat.reduceEqDiff,if_false,if_true];rfl⟩ ?_
 clear q;clear e;rintro m e s1 ⟨k,j,S,rfl,hk,g,q,w,K⟩;by_cases cG:k<l.length
 ·have iN:(k:Int)<(l.length:Int):=by omega
  have H:=@bQ k om;have jR:=bB iN;have U:=G6 cG;generalize l.getD k 0=x at *;have lY:=Bx.mk U;have I:=Bx.mk g;clear g U;repeat' (first|refine aH (aj @T (aj (@cU _ _ _ G.sl) @jR)) ?_|(first|apply ah|apply af)<;>intro f)
  refine nK (v:=x) (yv:=.aE j 0 k 1) ef ef I.out.1 (by unfold big;omega) (λJ r4 k1 k2 k3 k4=>?_);obtain⟨L,⟨_,h0⟩ | ⟨o,rfl,h2,h3⟩⟩:=k1
  ·omega
  have M:S.length=k:=by simpa using I.out.1.1
  have z:J.get o=some (.cells .mut (ints (S++[x]))):=by unfold ints at h3 ⊢;rw[List.map_append];exact h3
  clear L k3 k4 h3;repeat' (first|refine aH trivial ?_|(first|apply ah|apply af)<;>intro f)
  refine aN (λm e s=>∃ (A B:List Int),m=A.length/\A++B=S/\(∀ b∈B,x<=b)/\o<s.n/\s.get o=some (.cells .mut (ints (A++x::B)))/\e.at 0=v/\e.at 3 = .aE o 0 (k+1) 1/\e.at 4 = .int .i64 (k:Int)/\e.at 5 = .int .i64 (A.length:Int)) _
   ⟨S,[],rfl,by simp,by simp,h2,z,ef,ef,ef,by rw[M];exact ef⟩ ?_
  clear q w K h2 z k2;clear e J;rintro m e J ⟨A,B,rfl,t,hB,h2,h3,q,w,K,V⟩;have C:(A=[]∨∃ d y,A=d++[y]/\y<=x)->Bx (∃ u,Sx J (.aE o 0 (k+1) 1) (ints u) (k+1)/\u.Pairwise (· <= ·)/\u.Perm (l.take (k+1))):=λh=>⟨by
   refine⟨A++x::B,⟨?_, .inr ⟨o,rfl,h2,h3⟩⟩,?_,?_⟩
   ·have:=congrArg List.length t;simp at this ⊢;omega
   ·have hs:=I.out.2.1;rw[<- t]at hs;rcases h with rfl | ⟨d,y,rfl,N⟩
    ·exact Fc hs hB (by simp)
    ·exact Qn hs hB N
   ·rw[lY.out];exact Qm t I.out.2.2⟩
  rcases List.eq_nil_or_concat A with rfl | ⟨d,y,X⟩
  ·obtain⟨u,D⟩:=(C (.inl rfl)).out;have O:=Bx.mk D;clear C D h3;simp only[List.length_nil]at V;repeat' (first|refine aH @H ?_|(first|apply ah|apply af)<;>intro f)
   refine⟨l.length - (k+1),by omega,k+1,o,u,rfl,by omega,O.out,?_⟩;simp only[lk,Nat.reduceEqDiff,if_false,if_true,H,q,w,and_self]
  ·rw[List.concat_eq_append]at X;subst X;have E:(d++[y]).length=d.length+1:=by simp
   have hkA:d.length+1<=k:=by
    have:=congrArg List.length t;simp at this;omega
   have F:IntKind.i64.wrap (((d.length+1:Nat):Int) - 1)=(d.length:Int):=by rw[wrap_i64 _ om om];omega
   have hA0:(d.length:Int)<((k+1:Nat):Int):=by omega
   have hA1:((d.length+1:Nat):Int)<((k+1:Nat):Int):=by omega
   have P:(ints (d++[y]++x::B))[d.length]? = some (.int .i64 y):=by simp[ints]
   have Q:(ints (d++[y]++x::B))[d.length+1]? = some (.int .i64 x):=by simp[ints]
   rw[E]at V;by_cases Uz:x<y
   ·have Y:((d++[y]++x::B).set d.length x).set (d.length+1) y=d++x::y::B:=by
     rw[List.append_assoc];exact Ot
    have GF:=Bx.mk Y;have p:=Bx.mk (And.intro t hB);clear C Y t hB;repeat' (first|refine aH (aj @eF (aj @h3 (aj @F (aj @P @Q)))) ?_|(first|apply ah|apply af)<;>intro f)
    rw[uw]at h3;refine dJ yN (i:=d.length) (k:=0) (c:=y) (c':=x) (rest:=[]) (v:=.int .i64 x) ef om ef rfl (by rw[List.append_nil];exact h3) (by simp) (by decide) rfl (λs5 vI Z eL=>?_);repeat' (first|refine aH (aj @eF @F) ?_|(first|apply ah|apply af)<;>intro f)
    refine dJ yN (i:=d.length+1) (k:=0) (c:=x) (c':=y) (rest:=[]) (v:=.int .i64 y) ef om ef rfl Z (by simp) (by decide) rfl (λs6 W0 Va Fz=>?_);rw[List.append_nil,GF.out,<- uw]at Va;clear h3 Z P Q;repeat' (first|refine aH @F ?_|(first|apply ah|apply af)<;>intro f)
    refine⟨d.length,by omega,d,y::B,rfl,by simpa using p.out.1,λb R=>?_,by omega,Va,?_⟩
    ·rcases List.mem_cons.1 R with rfl | R
     ·omega
     ·exact p.out.2 b R
    ·simp only[lk,Nat.reduceEqDiff,if_false,if_true,F,q,w,K,and_self]
   ·obtain⟨u,D⟩:=(C (.inr ⟨d,y,rfl,by omega⟩)).out;have O:=Bx.mk D;clear C D t hB;repeat' (first|refine aH (aj @eF (aj @h3 (aj @F (aj @P (aj @Q @H))))) ?_|(first|apply ah|apply af)<;>intro f)
    refine⟨l.length - (k+1),by omega,k+1,o,u,rfl,by omega,O.out,?_⟩;simp only[lk,Nat.reduceEqDiff,if_false,if_true,H,q,w,and_self]
 ·have nX:k=l.length:=by omega
  subst nX;rw[List.take_length]at g;have hu:=Ld g.2.1 g.2.2;obtain⟨r,lD,h1,h2,-⟩:=kK g.1 om (λy N=>G.tQ y (g.2.2.mem_iff.1 N));rw[hu]at h2;have hB:=Bx.mk (And.intro h1 h2);clear h1 h2 g hu;repeat' (first|refine aH @T ?_|(first|apply ah|apply af)<;>intro f)
  have hq:∀ (e:Env) (s:St) (a:LV),e.at 2=a->aW l61.results e s=some a:=λe s a h=>by simp[l61,aW,bD,h]
  refine⟨.inr trivial,_,hq _ _ _ ef,r,lD,hB.out.1,hB.out.2.closed,hB.out.2⟩
end Go.Proofs.YtkbiecjdcjfhaaaGreat
end
