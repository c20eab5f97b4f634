/- Steps that stop ahead of a branch that returns. -/
import Derived.Test.YtkbiecjdcjfhaaaBase
import Derived.Test.YtkbiecjdcjfhaaaValid
import Derived.Test.YtkbiecjdcjfhaaaPvKM
import Derived.Test.YtkbiecjdcjfhaaaTre
set_option linter.unusedSimpArgs false
set_option linter.unusedVariables false
set_option maxRecDepth 100000
set_option maxHeartbeats 16000000
section
namespace Go.Proofs.Ytkbiecjdcjfhaaa
open Go Go.Pv
open Classical
theorem gN {X p q:Prop}(x:X) (k:q) (h:X->Bx q->p:=by
 intro hx k;repeat1' (first
  | apply Dy
  | (first | apply lX | apply Ib | apply Ie | apply Ic | apply Dt | apply Ds | apply Dr)
  | apply ig hm | apply Du
  | ((first | apply Ia | apply Ig | apply Na | apply Nf);try simp only[zi,CK,reduceIte,Nat.reduceEqDiff,Nat.succ_ne_self])
  | (apply Dw;(focus (simp only[lk,Nat.reduceEqDiff,reduceIte,Bool.not_true,Bool.not_false];(all_goals first | (apply rA;assumption) | rfl)))) | (apply Dx;(focus (simp only[lk,Nat.reduceEqDiff,reduceIte,Bool.not_true,Bool.not_false];(all_goals first | (apply rA;assumption) | rfl))))
  | ((first | apply u_skip | apply HL);(focus (simp only[lk,Nat.reduceEqDiff,reduceIte,Bool.not_true,Bool.not_false];(all_goals first | (apply rA;assumption) | rfl)));(focus rfl)) | ((first | apply HK | apply C6);(focus (simp only[lk,Nat.reduceEqDiff,reduceIte,Bool.not_true,Bool.not_false];(all_goals first | (apply rA;assumption) | rfl))))
  | ((first | apply ZU | apply HO | apply z8 | apply HN | apply MA | apply Ub | apply Uc | apply Zs | apply Mx | apply HM | apply u_conv | apply C7 | apply Ud | apply MD | apply My | apply Mz | apply HJ | apply Ik | apply Zu | apply MB | apply MC | apply Ni)<;>(first
    | exact wN | (apply wG;(simp only[lk,Nat.reduceEqDiff,reduceIte,Bool.not_true,Bool.not_false];(all_goals first | (apply rA;assumption) | rfl))) | (show W _ _ _ _ _ _)
    | ((first | apply XV | apply UM | apply rA);(simp only[lk,Nat.reduceEqDiff,reduceIte,Bool.not_true,Bool.not_false];(all_goals first | (apply rA;assumption) | rfl))) | (apply n_I;(first | (simp only[u1,eq_self,Nat.reduceAdd,Nat.reduceEqDiff,reduceIte,hx, *];(try rfl);done) | rfl))
    | (apply Jk;(first | rfl | (simp only[u3,u4,if_true,eq_self,reduceIte, *];(try rfl);done))) | (apply E0;(first | assumption | (simp only[u5,eq_self, *];done)))
    | (apply fa_I;simp only[qy,Nat.zero_add,Nat.reduceAdd];rfl)
    | (apply Nx;simp only[Ax];(try rfl);done) | (apply Mm;(first | assumption | (simp only[u1,eq_self,Nat.reduceAdd,Nat.reduceEqDiff,reduceIte,hx, *];(try rfl);done) | rfl)) | exact NW | exact NV
    | (apply D1;(first | rfl | (simp only[u1,eq_self,Nat.reduceAdd,Nat.reduceEqDiff,reduceIte,hx, *];(try rfl);done))) | (apply AS rfl;simp only[u2,hx];(try rfl);done)
    | (apply xW;(focus (simp only[u1,eq_self,Nat.reduceAdd,Nat.reduceEqDiff,reduceIte,hx, *];(try rfl);done));(focus (first | rfl | (simp only[u1,eq_self,Nat.reduceAdd,Nat.reduceEqDiff,reduceIte,hx, *];(try rfl);done)))) | (apply AR;(focus (simp only[u1,eq_self,Nat.reduceAdd,Nat.reduceEqDiff,reduceIte,hx, *];(try rfl);done));(focus rfl);(focus (simp only[u2,hx];(try rfl);done)))
    | (apply Ad;(focus (first | rfl | (simp only[u3,u4,if_true,eq_self,reduceIte, *];(try rfl);done)));(focus (simp only[u1,eq_self,Nat.reduceAdd,Nat.reduceEqDiff,reduceIte,hx, *];(try rfl);done));(focus rfl);(focus rfl);(focus (simp only[splice,List.set_cons_zero,List.set_cons_succ];(try rfl);done)))
    | assumption | rfl | (simp only[u1,eq_self,Nat.reduceAdd,Nat.reduceEqDiff,reduceIte,hx, *];(try rfl);done)))
  | fail)
 exact k.out):p:=h x ⟨k⟩
theorem iF {P:Program}{G:bG}{K:Env->St->Prop}{l:List bx}{e:Env}{s:St}{fl:Bool}{d:Nat}{g:Option (Nat × Bool)}{z vs:List LV}{ps:List (Nat × Nat × bz)}(a:aE g e=some true) (b:aW z (bB e ps)=some vs) (k:W P G K l (Tr.set e d (.agg vs)) s):W P G K (⟨some d, .build z ps,g,[],fl⟩::l) e s:=
 q_op a (by cases fl<;>rfl) (by simp[aR.run,b]) k
open Go Go.Pv Go.Jo
def iV (B:Bu) (q a:Nat):nQ:=(B.next.getD q []).getD a []
theorem Hq {mv fv:LV}{ms:nQ}(u:oI mv ms) (hl:ms.length<=1000000) {p:Int × Bool->Bool}{s:St}(K:∀ (m:Int × Bool) (a:St),aJ Try.prog GL fv [.agg [.int .i64 m.1, .bool m.2]] a (λr s'=>s'=a/\r = .bool (p m))) :
 aJ Try.prog GL (.fn (.func 83) [] []) [mv,fv] s (λr s'=>Sg s' r 2 (cT (ms.filter p)) (ms.filter p).length/\(∀ id,aP r id->s.n<=id)/\s.n<=s'.n/\∀ id,id<s.n->s'.get id=s.get id):=by
 have A:=u.sl.len;have T:maxLen=9223372036854775807:=by decide
 refine bL (first:=[]) (caps:=[]) Try.func83 (by decide +kernel) c83 (Nat.le_of_ble_eq_true rfl) (aQ.mono (Q:=λo e s'=>(o = .normal∨o = .jmp .ret)/\∃ lv,e.at 4=lv/\Sg s' lv 2 (cT (ms.filter p)) (ms.filter p).length/\(∀ id,aP lv id->s.n<=id)/\s.n<=s'.n/\∀ id,id<s.n->s'.get id=s.get id) ?_ λo e s' v=>by
  obtain⟨h1,lv,h2,h3⟩:=v;exact⟨h1,_,by simp[l83,br,bO,h2],h3⟩)
 refine Cd.out (pF λe L i=>?_);unfold l83;dsimp only[jA,jG,qN,qS,qI,qA,qB,qC,qm];repeat' (first | refine gA @A ?_ | (refine gB @A ?_;rintro (_|_) c<;>try simp only[aG,reduceCtorEq]at c) | apply aA | fail)
 refine aS (λm e a=>∃ (k:Nat) (lv:LV),m=ms.length - k/\k<=ms.length/\(Sg a lv 2 (cT ((ms.take k).filter p)) ((ms.take k).filter p).length/\(∀ id,aP lv id->s.n<=id)/\s.n<=a.n/\∀ id,id<s.n->a.get id=s.get id)/\e.at 1=fv/\e.at 5=lv/\e.at 8=mv/\e.at 9 = .int .i64 (ms.length:Int)/\e.at 10 = .int .i64 (k:Int)) _
  ⟨0, .aj,rfl,by omega,⟨Sg.nil _ _,λid h=>absurd h (bq id),Nat.le_refl _,λ_ _=>rfl⟩,ef,ef,ef,ef,by simp only[lk,Nat.reduceEqDiff,if_false,if_true];rfl⟩ ?_
 clear L i;clear e;rintro m e a ⟨k,lv,rfl,U,⟨f,j,l,ho⟩,i,M,B,C,V⟩;by_cases D:k<ms.length
 ·have X:(k:Int)<(ms.length:Int):=by omega
  have E:IntKind.i64.wrap ((k:Int)+1)=((k+1:Nat):Int):=by rw[wrap_i64 _ om om];rfl
  have q:=λs=>eW (s:=s) D;have F:ms.take (k+1)=ms.take k++[ms.getD k (0,false)]:=by rw[List.take_add_one,gD,gE D];rfl
  have N:=List.length_filter_le p (ms.take k);rw[List.length_take]at N;generalize ms.getD k (0,false)=b at *;have G:=Bx.mk F;have d:=Bx.mk (And.intro j (And.intro l ho));have O:=λid=>f.lt (id:=id);clear F j l ho;repeat' (first | refine gA (And.intro (@cw _ _ _ u.sl) @q) ?_ | (refine gB (And.intro (@cw _ _ _ u.sl) @q) ?_;intro w c;cases w<;>(try simp only[aG]at c)) | apply aA | fail)
  all_goals first | (exfalso;first | omega | exact c.elim) | skip
  have H:Sg ((a.new (.cells .mut [.int .i64 0, .bool false])).put a.n (.cells .mut [.int .i64 b.1, .bool b.2])) lv 2 (cT ((ms.take k).filter p)) ((ms.take k).filter p).length:=f.mono (by simp) λid g=>by
   have:=O id g;rw[St.ah,if_neg om,St.az,if_neg om]
  have I:∀ id,id<a.n->((a.new (.cells .mut [.int .i64 0, .bool false])).put a.n (.cells .mut [.int .i64 b.1, .bool b.2])).get id=a.get id:=λid g=>by rw[St.ah,if_neg om,St.az,if_neg om]
  have Y:((a.new (.cells .mut [.int .i64 0, .bool false])).put a.n (.cells .mut [.int .i64 b.1, .bool b.2])).get a.n=some (.cells .mut [.int .i64 b.1, .bool b.2]):=by rw[St.ah,if_pos rfl]
  have Z:((a.new (.cells .mut [.int .i64 0, .bool false])).put a.n (.cells .mut [.int .i64 b.1, .bool b.2])).n=a.n+1:=rfl;generalize (a.new (.cells .mut [.int .i64 0, .bool false])).put a.n (.cells .mut [.int .i64 b.1, .bool b.2])=s2 at *;clear f;refine bH wN (fv:=fv) (vs:=[.agg [.int .i64 b.1, .bool b.2]]) ef (by simp only[List.map,lk,Nat.reduceEqDiff,if_false,if_true,List.map]) (aJ.mono (K b _) λr J v=>⟨trivial,?_⟩);obtain⟨h3,rfl⟩:=v;subst J;simp only[Env.au];cases t:p b with
  | true=>
    have x:Bx ((ms.take (k+1)).filter p=(ms.take k).filter p++[b]):=⟨by rw[G.out,List.filter_append];simp[t]⟩;clear t q;generalize (ms.take k).filter p=y at *;repeat' (first | refine gA trivial ?_ | (refine gB trivial ?_;rintro (_|_) c<;>try simp only[aG,reduceCtorEq]at c) | apply aA | fail)
    refine uJ (n:=y.length) (aU:=2) (xv:=.agg [.int .i64 b.1, .bool b.2]) (yv:=lv) (vs:=[.int .i64 b.1, .bool b.2]) (cells:=cT y) ef rfl rfl rfl (qi.closed rfl) ef H (by decide) om (λJ P a1 a2 a3 a4 a5 a6=>?_);repeat' (first | refine gA trivial ?_ | (refine gB trivial ?_;rintro (_|_) c<;>try simp only[aG,reduceCtorEq]at c) | apply aA | fail)
    refine⟨ms.length - (k+1),by omega,k+1, .aD P 0 (y.length+1) 2,rfl,by omega,⟨?_,λid z=>by have:=aC.1 z;have:=d.out.2.1;omega,by have:=d.out.2.1;omega,λid g=>?_⟩,?_⟩
    ·rw[x.out,rI];simpa[cT] using a4
    ·have h1:=d.out.2.1;rw[a6 id om (λz=>by have:=d.out.1 id z;omega),I id om];exact d.out.2.2 id g
    ·simp only[lk,Nat.reduceEqDiff,if_false,if_true,E,i,B,C,and_self]
  | false=>
    have x:Bx ((ms.take (k+1)).filter p=(ms.take k).filter p):=⟨by rw[G.out,List.filter_append];simp[t]⟩;clear t q;repeat' (first | refine gA trivial ?_ | (refine gB trivial ?_;rintro (_|_) c<;>try simp only[aG,reduceCtorEq]at c) | apply aA | fail)
    refine⟨ms.length - (k+1),by omega,k+1,lv,rfl,by omega,⟨by rw[x.out];exact H,d.out.1,by have:=d.out.2.1;omega,λid g=>?_⟩,?_⟩
    ·have h1:=d.out.2.1;rw[I id om];exact d.out.2.2 id g
    ·simp only[lk,Nat.reduceEqDiff,if_false,if_true,E,i,M,B,C,and_self]
 ·have R:k=ms.length:=by omega
  subst R;rw[List.take_length]at f;have d:=Bx.mk (And.intro f (And.intro j (And.intro l ho)));clear f j l ho;repeat' (first | refine gA trivial ?_ | (refine gB trivial ?_;intro w c;cases w<;>(try simp only[aG]at c)) | apply aA | fail)
  all_goals first | (exfalso;first | omega | exact c.elim) | skip
  exact⟨.inr trivial,lv,ef,d.out⟩
theorem XS (m:Int × Bool) (s:St):aJ Try.prog GL (.fn (.func 74) [] []) [.agg [.int .i64 m.1, .bool m.2]] s (λr s'=>s'=s/\r = .bool true):=by
 refine bL (first:=[]) (caps:=[]) Try.func74 (by decide +kernel) c74 (Nat.le_of_ble_eq_true rfl) (aQ.mono (Q:=λo e s'=>(o = .normal∨o = .jmp .ret)/\s'=s/\e.at 2 = .bool true) ?_ λo e s' a=>by
  obtain⟨h1,h2,h3⟩:=a;exact⟨h1,_,by simp[l74,br,bO,h3],h2,rfl⟩)
 refine Cd.out (sJ λe c=>?_);unfold l74;dsimp only[jA,qK,qO];repeat' (first | refine gA trivial ?_ | (refine gB trivial ?_;rintro (_|_) b<;>try simp only[aG,reduceCtorEq]at b) | apply aA | fail)
 exact⟨.inr trivial,trivial,ef⟩
theorem XR (m:Int × Bool) (s:St):aJ Try.prog GL (.fn (.func 75) [] []) [.agg [.int .i64 m.1, .bool m.2]] s (λr s'=>s'=s/\r = .bool m.2):=by
 refine bL (first:=[]) (caps:=[]) Try.func75 (by decide +kernel) c75 (Nat.le_of_ble_eq_true rfl) (aQ.mono (Q:=λo e s'=>(o = .normal∨o = .jmp .ret)/\s'=s/\e.at 2 = .bool m.2) ?_ λo e s' a=>by
  obtain⟨h1,h2,h3⟩:=a;exact⟨h1,_,by simp[l75,br,bO,h3],h2,rfl⟩)
 refine Cd.out (sJ λe c=>?_);unfold l75;dsimp only[jA,qF,qK,qO,qm,ql];repeat' (first | refine gA trivial ?_ | (refine gB trivial ?_;rintro (_|_) b<;>try simp only[aG,reduceCtorEq]at b) | apply aA | fail)
 exact⟨.inr trivial,trivial,ef⟩
def Gg (m:Int × Bool):List LV:=[.int .i64 m.1, .bool m.2]
theorem NU (m:Int × Bool):(Gg m).length=2:=rfl
theorem xU:∀ l:List (Int × Bool),cT l=eG Gg l
 | []=>rfl
 | m::l=>by
   have:eG Gg (m::l)=Gg m++eG Gg l:=by simp[eG]
   rw[this,<- xU l];rfl
theorem M6 (mv:Nat->Mv) (l:List Int) (x:Int) (p:Int × Bool->Bool):CN mv (l++[x]) p=CN mv l p++((mv x.toNat).filter p).map (·.1):=by simp[CN]
theorem F3 {bv:LV}{B:Bu}{N O D fv:LV}(hB:zW bv B N O) {set:List Int}(y:aM D set) {a:Nat}{p:Int × Bool->Bool}(hr:∀ x∈set,0<=x/\x<B.next.length) (bV:∀ q,q<B.next.length->a<(B.next.getD q []).length) (q8:∀ q,(iV B q a).length<=1000000)
 (hp:∀ (m:Int × Bool) (g:St),aJ Try.prog GL fv [.agg [.int .i64 m.1, .bool m.2]] g (λr s'=>s'=g/\r = .bool (p m))) (s:St) :
 aJ Try.prog GL (.fn (.func 73) [] []) [bv,D, .int .i64 (a:Int),fv] s (λr s'=>∃ M,r = .aI M/\s.n<=M/\M<s'.n/\dV s' M (CN (λq=>iV B q a) set p)/\∀ id,id<s.n->s'.get id=s.get id):=by
 have cx:=hB.closed;obtain⟨rfl,hs,hn⟩:=hB;have uz:=hn.closed;have vK:=hs.closed;have P:=y.closed;obtain⟨vs,z⟩:=hn;have zG:=hs.sl.cell;have zI:=z.sl.cell;have E:=y.sl.len;have hsm:=y.len;have tN:maxLen=9223372036854775807:=by decide
 refine bL (first:=[]) (caps:=[]) Try.func73 (by decide +kernel) c73 (Nat.le_of_ble_eq_true rfl) (aQ.mono (Q:=λo e s'=>(o = .normal∨o = .jmp .ret)/\∃ M,e.at 8 = .aI M/\s.n<=M/\M<s'.n/\dV s' M (CN (λq=>iV B q a) set p)/\∀ id,id<s.n->s'.get id=s.get id) ?_ λo e s' R=>by
  obtain⟨h1,M,h2,h3⟩:=R;exact⟨h1,_,by simp[l73,br,bO,h2],M,rfl,h3⟩)
 refine Cd.out (ev4 λe e0 e1 u v=>?_);unfold l73;dsimp only[jA,jG,qN,qF,qS,qI,qA,qB,qC,qO,qm,ql];repeat' (first | refine gN @E ?_ | (refine gB @E ?_;rintro (_|_) b<;>try simp only[aG,reduceCtorEq]at b<;>try first | (exfalso;omega) | exact b.elim) | fail)
 refine ju wN rfl ?_;repeat' (first | refine gN @E ?_ | (refine gB @E ?_;rintro (_|_) b<;>try simp only[aG,reduceCtorEq]at b<;>try first | (exfalso;omega) | exact b.elim) | fail)
 refine aS (λm e g=>∃ k:Nat,m=set.length - k/\k<=set.length/\s.n<g.n/\dV g s.n (CN (λq=>iV B q a) (set.take k) p)/\(∀ id,id<s.n->g.get id=s.get id)/\e.at 2 = .int .i64 (a:Int)/\e.at 3=fv/\e.at 4 = .aX [.int .i64 B.L,N,O] 0/\e.at 9 = .aI s.n/\e.at 15=D/\e.at 16 = .int .i64 (set.length:Int)/\e.at 17 = .int .i64 (k:Int)) _
  ⟨0,rfl,by omega,by simp,dV.nil (by simp),λid w=>by rw[St.az,if_neg om],ef,ef,ef,ef,ef,ef,by simp only[lk,Nat.reduceEqDiff,if_false,if_true];rfl⟩ ?_
 clear e0 e1 u v;clear e;rintro m e g ⟨k,rfl,hk,gH,c,ho,u,v,F,G,H,I,T⟩;by_cases fB:k<set.length
 ·have uB:(k:Int)<(set.length:Int):=by omega
  have U:IntKind.i64.wrap ((k:Int)+1)=((k+1:Nat):Int):=by rw[wrap_i64 _ om om];rfl
  have yl:=bu uB;have fO:=take_one set 0 fB;have Wy:=hr (set.getD k 0) (by rw[gD,gE fB];simp);generalize set.getD k 0=x at *;obtain⟨q,rfl⟩:∃ q:Nat,x=(q:Int):=⟨x.toNat,by omega⟩;have V:q<B.next.length:=by omega
  have YF:(q:Int)<(B.next.length:Int):=by omega
  have YR:=z.get V;obtain⟨X,J⟩:=z.row q V;have ha:=bV q V;have haI:(a:Int)<((B.next.getD q []).length:Int):=by omega
  have Xi:=J.get ha;have W9:=J.row a ha;have hl:=q8 q;have kJ:=λs=>Hq W9 hl (p:=p) (s:=s) hp;unfold iV at hl;have uS:Bx (CN (λq=>iV B q a) (set.take (k+1)) p=CN (λq=>iV B q a) (set.take k) p++(((B.next.getD q []).getD a []).filter p).map (·.1)):=⟨by rw[fO,M6,Int.toNat_natCast];rfl⟩;generalize (B.next.getD q []).getD a []=ms at *;have uX:=List.length_filter_le p ms;generalize hL:ms.filter p=L at *;generalize CN (λq=>iV B q a) (set.take k) p=K0 at *;generalize vs.getD q .top=rv at *;generalize X.getD a .top=mv at *;have h:=Bx.mk (And.intro c ho);clear fO c ho;repeat' (first | refine gN (And.intro (@cw _ _ _ y.sl) (And.intro @yl (And.intro (@cw _ _ _ z.sl) (And.intro @YR (And.intro (@cw _ _ _ J.sl) @Xi))))) ?_ | (refine gB (And.intro (@cw _ _ _ y.sl) (And.intro @yl (And.intro (@cw _ _ _ z.sl) (And.intro @YR (And.intro (@cw _ _ _ J.sl) @Xi))))) ?_;intro t b;cases t<;>(try simp only[aG]at b)<;>(try first | omega | exact b.elim)) | fail)
  refine bH wN (fv:=.fn (.func 83) [] []) (vs:=[mv,fv]) ef (by simp only[List.map,lk,Nat.reduceEqDiff,if_false,if_true,List.map]) (aJ.mono (kJ _) λr s2 R=>⟨trivial,?_⟩);obtain⟨f,hU,jY,Y⟩:=R;have fN:=f.len;simp only[Env.au];clear kJ;repeat' (first | refine gN @fN ?_ | (refine gB @fN ?_;rintro (_|_) b<;>try simp only[aG,reduceCtorEq]at b<;>try first | (exfalso;omega) | exact b.elim) | fail)
  refine aS (λm e d=>∃ i:Nat,m=L.length - i/\i<=L.length/\g.n<=d.n/\Sg d r 2 (cT L) L.length/\dV d s.n (K0++(L.take i).map (·.1))/\(∀ id,id<s.n->d.get id=s.get id)/\e.at 2 = .int .i64 (a:Int)/\e.at 3=fv/\e.at 4 = .aX [.int .i64 B.L,N,O] 0/\e.at 9 = .aI s.n/\e.at 15=D/\e.at 16 = .int .i64 (set.length:Int)/\e.at 17 = .int .i64 (k:Int)/\e.at 30=r/\e.at 31 = .int .i64 (L.length:Int)/\e.at 32 = .int .i64 (i:Int)) _
   ⟨0,rfl,by omega,by omega,f,by simpa using h.out.1.keep (Y _ om),λid w=>(Y id om).trans (h.out.2 id w),ef,ef,ef,ef,ef,ef,ef,ef,ef,by simp only[lk,Nat.reduceEqDiff,if_false,if_true];rfl⟩ ?_
  clear u v F G H I T f Y jY h;clear e s2;rintro m e d ⟨i,rfl,hi,nG,f,c,ho,u,v,F,G,H,I,T,Q8,X3,Mb⟩;by_cases cM:i<L.length
  ·have tP:(i:Int)<(L.length:Int):=by omega
   have Z:IntKind.i64.wrap ((i:Int)+1)=((i+1:Nat):Int):=by rw[wrap_i64 _ om om];rfl
   obtain⟨j,rest,hrj,hj,A⟩:=f.pos om;subst hrj;have hjs:g.n<=j:=hU j (aC.2 rfl);have U4:L[i]? = some (L.getD i (0,false)):=by rw[gD,gE cM];rfl
   have htL:Bx ((L.take (i+1)).map (·.1)=(L.take i).map (·.1)++[(L.getD i (0,false)).1]):=⟨by rw[take_one L (0,false) cM,List.map_append];rfl⟩;have K:=nB (row:=Gg) NU U4 (rest:=rest) (s:=d) (j:=j) (md:=.mut) (by rw[<- xU];exact A);unfold Gg at K;generalize L.getD i (0,false)=mm at *;have hB:=Bx.mk (And.intro f (And.intro c (And.intro ho A)));clear f c ho A U4;repeat' (first | refine gN (And.intro @cG @K) ?_ | (refine gB (And.intro @cG @K) ?_;intro t b;cases t<;>(try simp only[aG]at b)<;>(try first | omega | exact b.elim)) | fail)
   obtain⟨f,c,ho,A⟩:=hB.out;have Vx:=c.keep (s':=(d.new (.cells .mut [.int .i64 0, .bool false])).put d.n (.cells .mut [.int .i64 mm.1, .bool mm.2])) (by rw[St.ah,if_neg om,St.az,if_neg om]);refine n7 Vx ef ef ef (λs4 qv C gQ=>?_);have hn4':s4.n=d.n+1:=qv;have jO:∀ id,id<d.n->id≠s.n->s4.get id=d.get id:=λid h1 h2=>by rw[gQ id h2,St.ah,if_neg om,St.az,if_neg om]
   have l:=f.mono (s':=s4) om λid w=>by
    have:=aC.1 w;exact jO id om om
   have A3:=Bx.mk (And.intro l (And.intro C λid (w:id<s.n)=>(jO id om om).trans (ho id w)));clear Vx jO C gQ qv l f c ho A hB K;repeat' (first | refine gN @Z ?_ | (refine gB @Z ?_;rintro (_|_) b<;>try simp only[aG,reduceCtorEq]at b<;>try first | (exfalso;omega) | exact b.elim) | fail)
   refine⟨L.length - (i+1),by omega,i+1,rfl,by omega,by omega,A3.out.1,by rw[htL.out,<- List.append_assoc];exact A3.out.2.1,A3.out.2.2,?_⟩;simp only[lk,Nat.reduceEqDiff,if_false,if_true,Z,u,v,F,G,H,I,T,Q8,X3,and_self]
  ·have dc:i=L.length:=by omega
   subst dc;rw[List.take_length,<- uS.out]at c;have h:=Bx.mk (And.intro c ho);clear c ho uS;repeat' (first | refine gN @U ?_ | (refine gB @U ?_;intro t b;cases t<;>(try simp only[aG]at b)<;>(try first | omega | exact b.elim)) | fail)
   refine⟨set.length - (k+1),by omega,k+1,rfl,by omega,by omega,h.out.1,h.out.2,?_⟩;simp only[lk,Nat.reduceEqDiff,if_false,if_true,U,u,v,F,G,H,I,and_self]
 ·have lU:k=set.length:=by omega
  subst lU;rw[List.take_length]at c;have h:=Bx.mk (And.intro c ho);clear c ho;repeat' (first | refine gN trivial ?_ | (refine gB trivial ?_;intro t b;cases t<;>(try simp only[aG]at b)<;>(try first | omega | exact b.elim)) | fail)
  exact⟨.inr trivial,s.n,ef,Nat.le_refl _,gH,h.out⟩
end Go.Proofs.Ytkbiecjdcjfhaaa
end
