/- Steps that stop ahead of a branch that returns. -/
import Derived.Test.YtkbiecjdcjfhaaaGreatBase
import Derived.Test.YtkbiecjdcjfhaaaGreatValid
import Derived.Test.YtkbiecjdcjfhaaaGreatPvKM
import Derived.Test.YtkbiecjdcjfhaaaGreatTre
set_option linter.unusedSimpArgs false
set_option linter.unusedVariables false
set_option maxRecDepth 100000
set_option maxHeartbeats 16000000
section
namespace Go.Proofs.YtkbiecjdcjfhaaaGreat
open Go Go.Pv
open Classical
theorem gN {X p q:Prop}(x:X) (k:q) (h:X->Bx q->p:=by
 intro hx k;repeat1' (first
  | apply ED
  | (first | apply mN | apply JN | apply JP | apply JO | apply Ey | apply Ex | apply Ew)
  | apply iC hm | apply Ez
  | ((first | apply JM | apply JQ | apply OW | apply Wv);try simp only[Cg,Dz,reduceIte,Nat.reduceEqDiff,Nat.succ_ne_self])
  | (apply EB;(focus (simp only[lk,Nat.reduceEqDiff,reduceIte,Bool.not_true,Bool.not_false];(all_goals first | (apply sN;assumption) | rfl)))) | (apply EC;(focus (simp only[lk,Nat.reduceEqDiff,reduceIte,Bool.not_true,Bool.not_false];(all_goals first | (apply sN;assumption) | rfl))))
  | ((first | apply u_skip | apply Js);(focus (simp only[lk,Nat.reduceEqDiff,reduceIte,Bool.not_true,Bool.not_false];(all_goals first | (apply sN;assumption) | rfl)));(focus rfl)) | ((first | apply Jr | apply DZ);(focus (simp only[lk,Nat.reduceEqDiff,reduceIte,Bool.not_true,Bool.not_false];(all_goals first | (apply sN;assumption) | rfl))))
  | ((first | apply q_mv | apply Jv | apply A8 | apply Ju | apply Oh | apply VX | apply VY | apply u_un | apply Od | apply Jt | apply u_conv | apply D0 | apply VZ | apply Ol | apply Oe | apply Og | apply Jq | apply JT | apply u_mm | apply Oi | apply Oj | apply O4)<;>(first
    | with_reducible exact wN | (apply wG;(simp only[lk,Nat.reduceEqDiff,reduceIte,Bool.not_true,Bool.not_false];(all_goals first | (apply sN;assumption) | rfl))) | (show W _ _ _ _ _ _)
    | ((first | apply ev_I | apply WA | apply sN);(simp only[lk,Nat.reduceEqDiff,reduceIte,Bool.not_true,Bool.not_false];(all_goals first | (apply sN;assumption) | rfl))) | (apply n_I;(first | (simp only[u1,eq_self,Nat.reduceAdd,Nat.reduceEqDiff,reduceIte,hx, *];(try rfl);done) | rfl))
    | (apply K3;(first | rfl | (simp only[u3,u4,if_true,eq_self,reduceIte, *];(try rfl);done))) | (apply Gh;(first | assumption | (simp only[u5,eq_self, *];done)))
    | (apply fa_I;simp only[rT,Nat.zero_add,Nat.reduceAdd];rfl)
    | (apply Pj;simp only[Br];(try rfl);done) | (apply N7;(first | assumption | (simp only[u1,eq_self,Nat.reduceAdd,Nat.reduceEqDiff,reduceIte,hx, *];(try rfl);done) | rfl)) | exact PR | exact PN
    | (apply iX;(first | rfl | (simp only[u1,eq_self,Nat.reduceAdd,Nat.reduceEqDiff,reduceIte,hx, *];(try rfl);done))) | (apply rM rfl;simp only[u2,hx];(try rfl);done)
    | (apply iW;(focus (simp only[u1,eq_self,Nat.reduceAdd,Nat.reduceEqDiff,reduceIte,hx, *];(try rfl);done));(focus (first | rfl | (simp only[u1,eq_self,Nat.reduceAdd,Nat.reduceEqDiff,reduceIte,hx, *];(try rfl);done)))) | (apply BG;(focus (simp only[u1,eq_self,Nat.reduceAdd,Nat.reduceEqDiff,reduceIte,hx, *];(try rfl);done));(focus rfl);(focus (simp only[u2,hx];(try rfl);done)))
    | (apply Ba;(focus (first | rfl | (simp only[u3,u4,if_true,eq_self,reduceIte, *];(try rfl);done)));(focus (simp only[u1,eq_self,Nat.reduceAdd,Nat.reduceEqDiff,reduceIte,hx, *];(try rfl);done));(focus rfl);(focus rfl);(focus (simp only[splice,List.set_cons_zero,List.set_cons_succ];(try rfl);done)))
    | assumption | rfl | (simp only[u1,eq_self,Nat.reduceAdd,Nat.reduceEqDiff,reduceIte,hx, *];(try rfl);done)))
  | fail)
 exact k.out):p:=h x ⟨k⟩
theorem aG {X p q:Prop}(x:X) (k:q) (h:X->Bx q->p:=by
 intro hx k;(first | exact gN @hx k.out | exact Xx @hx k.out | fail)):p:=h x ⟨k⟩
theorem cC {P:Program}{G:bP}{K:Env->St->Prop}{l:List bC}{e:Env}{s:St}{fl:Bool}{d:Nat}{g:Option (Nat × Bool)}{z vs:List LV}{ps:List (Nat × Nat × bF)}(a:aK g e=some true) (b:aU z (bt e ps)=some vs) (k:W P G K l (Tr.set e d (.agg vs)) s):W P G K (⟨some d, .build z ps,g,[],fl⟩::l) e s:=
 q_op a (by cases fl<;>rfl) (by simp[bq.run,b]) k
open Go Go.Pv Go.pR
def fQ (B:Bu) (q a:Nat):rE:=(B.next.getD q []).getD a []
theorem I7 {mv fv:LV}{ms:rE}(x:si mv ms) (hl:ms.length<=1000000) {p:Int × Bool->Bool}{s:St}(H:∀ (m:Int × Bool) (s1:St),aM Tryz.prog GL fv [.agg [.int .i64 m.1, .bool m.2]] s1 (λr s'=>s'=s1/\r = .bool (p m))) :
 aM Tryz.prog GL (.fn (.func 113) [] []) [mv,fv] s (λr s'=>Sg s' r 2 (dh (ms.filter p)) (ms.filter p).length/\(∀ id,aQ r id->s.n<=id)/\s.n<=s'.n/\∀ id,id<s.n->s'.get id=s.get id):=by
 have I:=x.sl.len;have P:=lG;refine bM (first:=[]) (caps:=[]) Tryz.func113 br c113 bw (aX.mono (Q:=λo e s'=>(o = .normal∨o = .jmp .ret)/\∃ lv,e.at 4=lv/\Sg s' lv 2 (dh (ms.filter p)) (ms.filter p).length/\(∀ id,aQ lv id->s.n<=id)/\s.n<=s'.n/\∀ id,id<s.n->s'.get id=s.get id) ?_ λo e s' q=>by
  obtain⟨h1,lv,h2,h3⟩:=q;exact⟨h1,_,by simp[Yo,aW,bD,h2],h3⟩)
 refine Cd.out (mH λe J g=>?_);unfold Yo;dsimp only[jA,jG,qN,qS,qI,qA,qB,qC,qJ,qX,qm,qR];repeat' (first|refine aV @I ?_|(first|apply ah|apply af)<;>intro c)
 refine aN (λm e s1=>∃ (k:Nat) (lv:LV),m=ms.length - k/\k<=ms.length/\(Sg s1 lv 2 (dh ((ms.take k).filter p)) ((ms.take k).filter p).length/\(∀ id,aQ lv id->s.n<=id)/\s.n<=s1.n/\∀ id,id<s.n->s1.get id=s.get id)/\e.at 1=fv/\e.at 5=lv/\e.at 8=mv/\e.at 9 = .int .i64 (ms.length:Int)/\e.at 10 = .int .i64 (k:Int)) _
  ⟨0, .aq,rfl,by omega,⟨Sg.nil _ _,λid h=>absurd h (bE id),Nat.le_refl _,λ_ _=>rfl⟩,ef,ef,ef,ef,by simp only[lk,Nat.reduceEqDiff,if_false,if_true];rfl⟩ ?_
 clear J g;clear e;rintro m e s1 ⟨k,lv,rfl,R,⟨d,i,j,ho⟩,g,K,y,z,S⟩;by_cases A:k<ms.length
 ·have T:(k:Int)<(ms.length:Int):=by omega
  have B:=@bQ k om;have t:=λs=>j9 (s:=s) A;have C:ms.take (k+1)=ms.take k++[ms.getD k (0,false)]:=by rw[List.take_add_one,gD,gE A];rfl
  have L:=List.length_filter_le p (ms.take k);rw[List.length_take]at L;generalize ms.getD k (0,false)=a at *;have D:=Bx.mk C;have b:=Bx.mk (And.intro i (And.intro j ho));have M:=λid=>d.lt (id:=id);clear C i j ho;repeat' (first|refine aV (aj (@cU _ _ _ x.sl) @t) ?_|(first|apply ah|apply af)<;>intro c)
  all_goals first | (exfalso;first | omega | exact c.elim) | skip
  have E:Sg ((s1.new (.cells .mut [.int .i64 0, .bool false])).put s1.n (.cells .mut [.int .i64 a.1, .bool a.2])) lv 2 (dh ((ms.take k).filter p)) ((ms.take k).filter p).length:=d.mono (by simp) λid f=>by
   have:=M id f;rw[St.az,if_neg om,St.aA,if_neg om]
  have F:∀ id,id<s1.n->((s1.new (.cells .mut [.int .i64 0, .bool false])).put s1.n (.cells .mut [.int .i64 a.1, .bool a.2])).get id=s1.get id:=λid f=>by rw[St.az,if_neg om,St.aA,if_neg om]
  have U:((s1.new (.cells .mut [.int .i64 0, .bool false])).put s1.n (.cells .mut [.int .i64 a.1, .bool a.2])).get s1.n=some (.cells .mut [.int .i64 a.1, .bool a.2]):=by rw[St.az,if_pos rfl]
  have V:((s1.new (.cells .mut [.int .i64 0, .bool false])).put s1.n (.cells .mut [.int .i64 a.1, .bool a.2])).n=s1.n+1:=rfl;generalize (s1.new (.cells .mut [.int .i64 0, .bool false])).put s1.n (.cells .mut [.int .i64 a.1, .bool a.2])=s2 at *;clear d;refine bK wN (fv:=fv) (vs:=[.agg [.int .i64 a.1, .bool a.2]]) ef ef (aM.mono (H a _) λr G q=>⟨trivial,?_⟩);obtain⟨h3,rfl⟩:=q;subst G;simp only[Env.aB];cases l:p a with
  | true=>
    have u:Bx ((ms.take (k+1)).filter p=(ms.take k).filter p++[a]):=⟨by rw[D.out,List.filter_append];simp[l]⟩;clear l t;generalize (ms.take k).filter p=v at *;repeat' (first|refine aV trivial ?_|(first|apply ah|apply af)<;>intro c)
    refine qb (n:=v.length) (aZ:=2) (xv:=.agg [.int .i64 a.1, .bool a.2]) (yv:=lv) (vs:=[.int .i64 a.1, .bool a.2]) (cells:=dh v) ef rfl rfl rfl (kQ.closed rfl) ef E (by decide) om (λG N a1 a2 a3 a4 a5 a6=>?_);repeat' (first|refine aV trivial ?_|(first|apply ah|apply af)<;>intro c)
    refine⟨ms.length - (k+1),by omega,k+1, .aE N 0 (v.length+1) 2,rfl,by omega,⟨?_,λid w=>by have:=aI.1 w;have:=b.out.2.1;omega,by have:=b.out.2.1;omega,λid f=>?_⟩,?_⟩
    ·rw[u.out,sU];simpa[dh] using a4
    ·have h1:=b.out.2.1;rw[a6 id om (λw=>by have:=b.out.1 id w;omega),F id om];exact b.out.2.2 id f
    ·simp only[lk,Nat.reduceEqDiff,if_false,if_true,B,g,y,z,and_self]
  | false=>
    have u:Bx ((ms.take (k+1)).filter p=(ms.take k).filter p):=⟨by rw[D.out,List.filter_append];simp[l]⟩;clear l t;repeat' (first|refine aV trivial ?_|(first|apply ah|apply af)<;>intro c)
    refine⟨ms.length - (k+1),by omega,k+1,lv,rfl,by omega,⟨by rw[u.out];exact E,b.out.1,by have:=b.out.2.1;omega,λid f=>?_⟩,?_⟩
    ·have h1:=b.out.2.1;rw[F id om];exact b.out.2.2 id f
    ·simp only[lk,Nat.reduceEqDiff,if_false,if_true,B,g,K,y,z,and_self]
 ·have O:k=ms.length:=by omega
  subst O;rw[List.take_length]at d;have b:=Bx.mk (And.intro d (And.intro i (And.intro j ho)));clear d i j ho;repeat' (first|refine aV trivial ?_|(first|apply ah|apply af)<;>intro c)
  all_goals first | (exfalso;first | omega | exact c.elim) | skip
  exact⟨.inr trivial,lv,ef,b.out⟩
theorem gr1_ok (m:Int × Bool) (s:St):aM Tryz.prog GL (.fn (.func 104) [] []) [.agg [.int .i64 m.1, .bool m.2]] s (λr s'=>s'=s/\r = .bool true):=by
 refine bM (first:=[]) (caps:=[]) Tryz.func104 br c104 bw (aX.mono (Q:=λo e s'=>(o = .normal∨o = .jmp .ret)/\s'=s/\e.at 2 = .bool true) ?_ λo e s' a=>by
  obtain⟨h1,h2,h3⟩:=a;exact⟨h1,_,by simp[Yu,aW,bD,h3],h2,rfl⟩)
 refine Cd.out (pg λe b=>?_);unfold Yu;dsimp only[jA,qK,qO,qR];repeat' (first|refine aV trivial ?_|(first|apply ah|apply af)<;>intro c)
 exact⟨.inr trivial,trivial,ef⟩
theorem gr2_ok (m:Int × Bool) (s:St):aM Tryz.prog GL (.fn (.func 105) [] []) [.agg [.int .i64 m.1, .bool m.2]] s (λr s'=>s'=s/\r = .bool m.2):=by
 refine bM (first:=[]) (caps:=[]) Tryz.func105 br c105 bw (aX.mono (Q:=λo e s'=>(o = .normal∨o = .jmp .ret)/\s'=s/\e.at 2 = .bool m.2) ?_ λo e s' a=>by
  obtain⟨h1,h2,h3⟩:=a;exact⟨h1,_,by simp[Yt,aW,bD,h3],h2,rfl⟩)
 refine Cd.out (pg λe b=>?_);unfold Yt;dsimp only[jA,qF,qK,qO,qm,ql,qR];repeat' (first|refine aV trivial ?_|(first|apply ah|apply af)<;>intro c)
 exact⟨.inr trivial,trivial,ef⟩
def HQ (m:Int × Bool):List LV:=[.int .i64 m.1, .bool m.2]
theorem PL (m:Int × Bool):(HQ m).length=2:=rfl
theorem yE:∀ l:List (Int × Bool),dh l=dm HQ l
 | []=>rfl
 | m::l=>by
   have:dm HQ (m::l)=HQ m++dm HQ l:=by simp[dm]
   rw[this,<- yE l];rfl
theorem En (mv:Nat->Mv) (l:List Int) (x:Int) (p:Int × Bool->Bool):vz mv (l++[x]) p=vz mv l p++((mv x.toNat).filter p).map (·.1):=by simp[vz]
theorem HA {bv:LV}{B:Bu}{H I A fv:LV}(hB:vo bv B H I) {set:List Int}(C:aP A set) {a:Nat}{p:Int × Bool->Bool}(hr:∀ x∈set,0<=x/\x<B.next.length) (ct:∀ q,q<B.next.length->a<(B.next.getD q []).length) (mK:∀ q,(fQ B q a).length<=1000000)
 (hp:∀ (m:Int × Bool) (s1:St),aM Tryz.prog GL fv [.agg [.int .i64 m.1, .bool m.2]] s1 (λr s'=>s'=s1/\r = .bool (p m))) (s:St) :
 aM Tryz.prog GL (.fn (.func 103) [] []) [bv,A, .int .i64 (a:Int),fv] s (λr s'=>∃ M,r = .aR M/\s.n<=M/\M<s'.n/\ey s' M (vz (λq=>fQ B q a) set p)/\∀ id,id<s.n->s'.get id=s.get id):=by
 have bV:=hB.closed;obtain⟨rfl,hs,hn⟩:=hB;have mD:=hn.closed;have m9:=hs.closed;have WR:=C.closed;obtain⟨vs,D⟩:=hn;have mJ:=hs.sl.cell;have nW:=D.sl.cell;have iK:=C.sl.len;have hsm:=C.len;have je:=lG;refine bM (first:=[]) (caps:=[]) Tryz.func103 br c103 bw (aX.mono (Q:=λo e s'=>(o = .normal∨o = .jmp .ret)/\∃ M,e.at 8 = .aR M/\s.n<=M/\M<s'.n/\ey s' M (vz (λq=>fQ B q a) set p)/\∀ id,id<s.n->s'.get id=s.get id) ?_ λo e s' J=>by
  obtain⟨h1,M,h2,h3⟩:=J;exact⟨h1,_,by simp[Yv,aW,bD,h2],M,rfl,h3⟩)
 refine Cd.out (ev4 λe e0 e1 u v=>?_);unfold Yv;dsimp only[jA,jG,qN,qF,qS,qI,qA,qB,qC,qO,qm,ql,qR];repeat' (first|refine aG @iK ?_|(first|apply ah|apply af)<;>intro l)
 refine jM wN rfl ?_;repeat' (first|refine aG @iK ?_|(first|apply ah|apply af)<;>intro l)
 refine aN (λm e s1=>∃ k:Nat,m=set.length - k/\k<=set.length/\s.n<s1.n/\ey s1 s.n (vz (λq=>fQ B q a) (set.take k) p)/\(∀ id,id<s.n->s1.get id=s.get id)/\e.at 2 = .int .i64 (a:Int)/\e.at 3=fv/\e.at 4 = .aY [.int .i64 B.L,H,I] 0/\e.at 9 = .aR s.n/\e.at 15=A/\e.at 16 = .int .i64 (set.length:Int)/\e.at 17 = .int .i64 (k:Int)) _
  ⟨0,rfl,by omega,by simp,ey.nil (by simp),λid w=>by rw[St.aA,if_neg om],ef,ef,ef,ef,ef,ef,by simp only[lk,Nat.reduceEqDiff,if_false,if_true];rfl⟩ ?_
 clear e0 e1 u v;clear e;rintro m e s1 ⟨k,rfl,hk,eu,b,ho,u,v,E,F,G,f,t⟩;by_cases cG:k<set.length
 ·have iN:(k:Int)<(set.length:Int):=by omega
  have cD:=@bQ k om;have jR:=bB iN;have ep:=take_one set 0 cG;have Nz:=hr (set.getD k 0) (by rw[gD,gE cG];simp);generalize set.getD k 0=x at *;obtain⟨q,rfl⟩:∃ q:Nat,x=(q:Int):=⟨x.toNat,by omega⟩;have K:q<B.next.length:=by omega
  have SF:(q:Int)<(B.next.length:Int):=by omega
  have N:=D.get K;obtain⟨O,P⟩:=D.row q K;have ha:=ct q K;have haI:(a:Int)<((B.next.getD q []).length:Int):=by omega
  have FM:=P.get ha;have tH:=P.row a ha;have hl:=mK q;have oJ:=λs=>I7 tH hl (p:=p) (s:=s) hp;unfold fQ at hl;have lY:Bx (vz (λq=>fQ B q a) (set.take (k+1)) p=vz (λq=>fQ B q a) (set.take k) p++(((B.next.getD q []).getD a []).filter p).map (·.1)):=⟨by rw[ep,En,Int.toNat_natCast];rfl⟩;generalize (B.next.getD q []).getD a []=ms at *;have sK:=List.length_filter_le p ms;generalize hL:ms.filter p=L at *;generalize vz (λq=>fQ B q a) (set.take k) p=K0 at *;generalize vs.getD q .top=rv at *;generalize O.getD a .top=mv at *;have g:=Bx.mk (And.intro b ho);clear ep b ho;repeat' (first|refine aG (aj (@cU _ _ _ C.sl) (aj @jR (aj (@cU _ _ _ D.sl) (aj @N (aj (@cU _ _ _ P.sl) @FM))))) ?_|(first|apply ah|apply af)<;>intro l)
  refine bK wN (fv:=.fn (.func 113) [] []) (vs:=[mv,fv]) ef ef (aM.mono (oJ _) λr s2 J=>⟨trivial,?_⟩);obtain⟨d,hU,jk,R⟩:=J;have fX:=d.len;simp only[Env.aB];clear oJ;repeat' (first|refine aG @fX ?_|(first|apply ah|apply af)<;>intro l)
  refine aN (λm e c=>∃ i:Nat,m=L.length - i/\i<=L.length/\s1.n<=c.n/\Sg c r 2 (dh L) L.length/\ey c s.n (K0++(L.take i).map (·.1))/\(∀ id,id<s.n->c.get id=s.get id)/\e.at 2 = .int .i64 (a:Int)/\e.at 3=fv/\e.at 4 = .aY [.int .i64 B.L,H,I] 0/\e.at 9 = .aR s.n/\e.at 15=A/\e.at 16 = .int .i64 (set.length:Int)/\e.at 17 = .int .i64 (k:Int)/\e.at 30=r/\e.at 31 = .int .i64 (L.length:Int)/\e.at 32 = .int .i64 (i:Int)) _
   ⟨0,rfl,by omega,by omega,d,by simpa using g.out.1.keep (R _ om),λid w=>(R id om).trans (g.out.2 id w),ef,ef,ef,ef,ef,ef,ef,ef,ef,by simp only[lk,Nat.reduceEqDiff,if_false,if_true];rfl⟩ ?_
  clear u v E F G f t d R jk g;clear e s2;rintro m e c ⟨i,rfl,hi,o9,d,b,ho,u,v,E,F,G,f,t,S,T,NW⟩;by_cases cy:i<L.length
  ·have iQ:(i:Int)<(L.length:Int):=by omega
   have dO:=@bQ i om;obtain⟨j,rest,U,hj,y⟩:=d.pos om;subst U;have hjs:s1.n<=j:=hU j (aI.2 rfl);have W4:L[i]? = some (L.getD i (0,false)):=by rw[gD,gE cy];rfl
   have V:Bx ((L.take (i+1)).map (·.1)=(L.take i).map (·.1)++[(L.getD i (0,false)).1]):=⟨by rw[take_one L (0,false) cy,List.map_append];rfl⟩;have X:=lV (row:=HQ) PL W4 (rest:=rest) (s:=c) (j:=j) (md:=.mut) (by rw[<- yE];exact y);unfold HQ at X;generalize L.getD i (0,false)=mm at *;have hB:=Bx.mk (And.intro d (And.intro b (And.intro ho y)));clear d b ho y W4;repeat' (first|refine aG (aj @eF @X) ?_|(first|apply ah|apply af)<;>intro l)
   obtain⟨d,b,ho,y⟩:=hB.out;have z:=b.keep (s':=(c.new (.cells .mut [.int .i64 0, .bool false])).put c.n (.cells .mut [.int .i64 mm.1, .bool mm.2])) (by rw[St.az,if_neg om,St.aA,if_neg om]);refine ov z ef ef ef (λY od W6 fD=>?_);have hn4':Y.n=c.n+1:=od;have Z:∀ id,id<c.n->id≠s.n->Y.get id=c.get id:=λid h1 h2=>by rw[fD id h2,St.az,if_neg om,St.aA,if_neg om]
   have h:=d.mono (s':=Y) om λid w=>by
    have:=aI.1 w;exact Z id om om
   have qE:=Bx.mk (And.intro h (And.intro W6 λid (w:id<s.n)=>(Z id om om).trans (ho id w)));clear z Z W6 fD od h d b ho y hB X;repeat' (first|refine aG @dO ?_|(first|apply ah|apply af)<;>intro l)
   refine⟨L.length - (i+1),by omega,i+1,rfl,by omega,by omega,qE.out.1,by rw[V.out,<- List.append_assoc];exact qE.out.2.1,qE.out.2.2,?_⟩;simp only[lk,Nat.reduceEqDiff,if_false,if_true,dO,u,v,E,F,G,f,t,S,T,and_self]
  ·have eU:i=L.length:=by omega
   subst eU;rw[List.take_length,<- lY.out]at b;have g:=Bx.mk (And.intro b ho);clear b ho lY;repeat' (first|refine aG @cD ?_|(first|apply ah|apply af)<;>intro l)
   refine⟨set.length - (k+1),by omega,k+1,rfl,by omega,by omega,g.out.1,g.out.2,?_⟩;simp only[lk,Nat.reduceEqDiff,if_false,if_true,cD,u,v,E,F,G,f,and_self]
 ·have rO:k=set.length:=by omega
  subst rO;rw[List.take_length]at b;have g:=Bx.mk (And.intro b ho);clear b ho;repeat' (first|refine aG trivial ?_|(first|apply ah|apply af)<;>intro l)
  exact⟨.inr trivial,s.n,ef,Nat.le_refl _,eu,g.out⟩
end Go.Proofs.YtkbiecjdcjfhaaaGreat
end
