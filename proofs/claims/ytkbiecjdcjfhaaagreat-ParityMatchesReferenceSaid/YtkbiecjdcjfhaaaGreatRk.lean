/- The document's flash, of a list in memory. -/
import Derived.Test.YtkbiecjdcjfhaaaGreatRh
import Derived.Test.YtkbiecjdcjfhaaaGreatTnam
set_option linter.unusedSimpArgs false
set_option linter.unusedVariables false
set_option maxRecDepth 100000
set_option maxHeartbeats 16000000
section
namespace Go.Proofs.YtkbiecjdcjfhaaaGreat
open Go Go.Pv Go.pR
open Classical
theorem fU {d:Nat}{n:Option Nat}{x:bF}{p v:LV}{e:Env}{s:St}(hx:x.ev e=p) (hl:cz n p s=some v) (a:e.at d=v):aK none e=some false∨(aK none e=some true/\(bq.load n x).run e s=some (e.at d,s)) :=
 .inr ⟨rfl,by
  rw[a];cases p<;>simp only[cz,reduceCtorEq]at hl
  ·simp[bq.run,hx,hl]
  ·simp only[bq.run,hx];split at hl
   ·rename_i h;simp[h,hl]
   ·cases hl⟩
theorem BI {t:List Nd}{m:Nat->Bool}(h:∀ n∈t,n.set.length<=3000):∀ n∈kp t m,n.set.length<=3000:=
 Yx (P:=λn=>n.set.length<=3000) h λn a h1 h2 _=>by rw[h2];exact h1
structure FL (s s1:St) (T:List Nd) (Gd:List Int) (i:Nat) (tt:List Nd) (jt:Nat) (Lr:List (Int × Int × LV)) (w:LV) (gg:List Int):Prop where
  wf:Ji tt
  P5:tt.length<=30
  set:∀ n∈tt,n.set.length<=3000
  fl:∃ f,yf f tt gg i=(T,Gd)/\tt.length<=i+f
  tm:TM s1 jt tt Lr
  gs:Sx s1 w (ints gg) gg.length
  gu:∀ id,aQ w id->s.n<=id
  gj:¬ aQ w jt
  n:s.n<=s1.n
  o:∀ id,id<s.n->s1.get id=s.get id
  gl:gg.length<=i
  il:i<=30
theorem FL.end {s s1:St}{T:List Nd}{a:List Int}{i:Nat}{tt:List Nd}{c:Nat}{d:List (Int × Int × LV)}{w:LV}{b:List Int}(h:FL s s1 T a i tt c d w b) (e:tt.length<=i):tt=T/\b=a:=by
 obtain⟨f,h1,h2⟩:=h.fl;cases f with
 | zero=>exact⟨congrArg Prod.fst h1,congrArg Prod.snd h1⟩
 | succ f=>
   unfold yf at h1;rw[if_neg om]at h1;exact⟨congrArg Prod.fst h1,congrArg Prod.snd h1⟩
theorem FL.skip {s s1 s2:St}{T:List Nd}{a:List Int}{i:Nat}{tt:List Nd}{b:Nat}{c:List (Int × Int × LV)}{w:LV}{d:List Int}(h:FL s s1 T a i tt b c w d) (g:i<tt.length) (j:(below tt (i:Int)).length<(tt.getD i default).set.length) (e:s1.n<=s2.n) (ho:∀ id,id<s1.n->s2.get id=s1.get id):FL s s2 T a (i+1) tt b c w d:=by
 obtain⟨f,h1,h2⟩:=h.fl;have P5:=h.P5;have gl:=h.gl;have m:=h.n;refine⟨h.wf,h.P5,h.set,?_,h.tm.keep e (ho _ h.tm.lt),h.gs.mono e λid k=>ho id (h.gs.lt k),h.gu,h.gj,by omega,λid l=>(ho id om).trans (h.o id l),by omega,by omega⟩;cases f with
 | zero=>omega
 | succ f=>
   unfold yf at h1;rw[if_pos g,if_pos j]at h1;exact⟨f,h1,by omega⟩
theorem FL.cut {s s1 s2:St}{T:List Nd}{c:List Int}{i:Nat}{tt:List Nd}{e:Nat}{g:List (Int × Int × LV)}{w:LV}{a:List Int}(h:FL s s1 T c i tt e g w a) (j:i<tt.length) (k:¬ (below tt (i:Int)).length<(tt.getD i default).set.length)
 {j2:Nat}{d:List (Int × Int × LV)}{b:LV}(l:TM s2 j2 (Cy tt i) d) (m:Sx s2 b (ints (a++[(tt.getD i default).name])) (a.length+1)) (o:∀ id,aQ b id->s.n<=id) (p:¬ aQ b j2) (q:s.n<=s2.n) (ho:∀ id,id<s.n->s2.get id=s.get id):FL s s2 T c (i+1) (Cy tt i) j2 d b (a++[(tt.getD i default).name]):=by
 obtain⟨f,h1,h2⟩:=h.fl;have P5:=h.P5;have gl:=h.gl;have r:=VN tt i;refine⟨cut_wf h.wf i,by omega,BI h.set,?_,l,by rw[List.length_append,List.length_singleton];exact m,o,p,q,ho,by rw[List.length_append,List.length_singleton];omega,by omega⟩;cases f with
 | zero=>omega
 | succ f=>
   unfold yf at h1;rw[if_pos j,if_neg k]at h1;exact⟨f,h1,by omega⟩
theorem Hv {s:St}{j:Nat}{t:List Nd}{rs:List (Int × Int × LV)}(hT:TM s j t rs) (hw:Ji t) (Zw:t.length<=30) (cS:∀ n∈t,n.set.length<=3000) {T:List Nd}{y:List Int}(hR:yf t.length t [] 0=(T,y)) :
 aM Tryz.prog GL (.fn (.func 58) [] []) [.aE j 0 t.length 3] s (λr s'=>∃ u H l,r = .cE [.aE u 0 T.length 3,l]/\T.length<=30/\y.length<=30/\TM s' u T H/\Sx s' l (ints y) y.length/\(∀ id,aQ l id->s.n<=id)/\¬ aQ l u/\s.n<=s'.n/\∀ id,id<s.n->s'.get id=s.get id):=by
 have je:=lG;refine bM (first:=[]) (caps:=[]) Tryz.func58 br c58 bw (aX.mono (Q:=λo e s'=>(o = .normal∨o = .jmp .ret)/\∃ u H l,(e.at 2 = .aE u 0 T.length 3/\e.at 3=l)/\T.length<=30/\y.length<=30/\TM s' u T H/\Sx s' l (ints y) y.length/\(∀ id,aQ l id->s.n<=id)/\¬ aQ l u/\s.n<=s'.n/\∀ id,id<s.n->s'.get id=s.get id) ?_ λo e s' A=>by
  obtain⟨h1,u,H,l,⟨h2,RC⟩,h3⟩:=A;exact⟨h1,_,by simp[l58,aW,bD,h2,RC],u,H,l,rfl,h3⟩)
 refine Cd.out (pg λe F=>?_);have zc:=hT.lt;unfold l58;dsimp only[jA,jB,jG,qM,qL,qF,qS,qI,qA,qB,qC,qJ,qT,qX,qm,ql,qR];repeat' (first|refine aG trivial ?_|(first|apply ah|apply af)<;>intro g)
 refine aN (λI e s1=>∃ (i:Nat) (tt:List Nd) (f:Nat) (O:List (Int × Int × LV)) (w:LV) (J:List Int),I=30 - i/\FL s s1 T y i tt f O w J/\e.at 0 = .aE f 0 tt.length 3/\e.at 4=w/\e.at 5 = .int .i64 (i:Int)) 30
  ⟨0,t,j,rs, .aE s.n 0 0 1,[],rfl,⟨hw,Zw,cS,⟨t.length,hR,by omega⟩,hT.keep (by simp) (by rw[St.aA,if_neg om]),⟨rfl, .inr ⟨s.n,rfl,by simp,by simp[ints]⟩⟩,λid d=>by have:=aI.1 d;omega,λd=>by have:=aI.1 d;omega,by simp,λid B=>by rw[St.aA,if_neg om],by simp,by omega⟩,ef,ef,by simp only[lk,Nat.reduceEqDiff,if_false,if_true];rfl⟩ ?_
 clear F;clear e;rintro I e s1 ⟨i,tt,f,O,w,J,rfl,x,F,K,V⟩;have W9:=x.P5;by_cases P:i<tt.length
 ·have iQ:(i:Int)<(tt.length:Int):=by omega
  have R:=@bQ i om;obtain⟨jd,vm,X,pN⟩:=x.tm.ld P;have L:=pN.sl.len;have a:=Bx.mk x;clear x;repeat' (first|refine aG (aj @eF (aj @X @L)) ?_|(first|apply ah|apply af)<;>intro g)
  refine bK wN (fv:=.fn (.func 83) [] []) (vs:=[.aE f 0 tt.length 3, .int .i64 (i:Int)]) rfl ef (aM.mono (Hj a.out.tm W9 a.out.set (i:Int)) λr s2 A=>?_);obtain⟨hr,Y,G⟩:=A;have Z:=hr.sl.len;have S:=a.out.tm.keep Y (G _ a.out.tm.lt);obtain⟨eu,BP,kU,-⟩:=S.ld P;refine⟨⟨fU (p:=.aO f (i*3+2)) (by simp only[Env.aB];exact ef) kU (by simp only[Env.aB];exact ef),trivial⟩,?_⟩;simp only[Env.aB];by_cases hb:(below tt (i:Int)).length<(tt.getD i default).set.length
  ·have hbI:((below tt (i:Int)).length:Int)<((tt.getD i default).set.length:Int):=by omega
   have KR:=Bx.mk (a.out.skip P hb Y G);clear S G jd vm X eu BP kU a;repeat' (first|refine aG @Z ?_|(first|apply ah|apply af)<;>intro g)
   repeat' (first|refine aG @R ?_|(first|apply ah|apply af)<;>intro g)
   refine⟨30 - (i+1),by omega,i+1,tt,f,O,w,J,rfl,KR.out,?_⟩;simp only[lk,Nat.reduceEqDiff,if_false,if_true,R,F,K,and_self]
  ·have hbI:((tt.getD i default).set.length:Int)<=((below tt (i:Int)).length:Int):=by omega
   have U:=Bx.mk (And.intro S G);have DM:=a.out.gl;have pO:=Bx.mk (a.out.gs.mono Y λid d=>G id (a.out.gs.lt d));have hfsn:=a.out.n;clear S G jd vm X BP kU;repeat' (first|refine aH (aj @Z (aj @eF @eu)) ?_|(first|apply ah|apply af)<;>intro g)
   refine nK (v:=(tt.getD i default).name) (yv:=w) ef ef pO.out (by unfold big;omega) (λm M k1 k2 k3 k4=>?_);have hjt:=U.out.1.lt;have IF:=U.out.1.keep k2 (k3 f om a.out.gj);have fR:∀ id,id<s.n->m.get id=s.get id:=λid B=>by
    rw[k3 id om (λd=>by have:=a.out.gu id d;omega),U.out.2 id om];exact a.out.o id B
   have MJ:Sx m M (ints (J++[(tt.getD i default).name])) (J.length+1):=by unfold ints at k1 ⊢;rw[List.map_append];exact k1
   have hjt2:=a.out.tm.lt;have C:=Bx.mk (And.intro IF (And.intro fR (And.intro MJ (And.intro (λid (d:aQ M id)=>(by have:=k4 id d;omega:s.n<=id)) (λ(d:aQ M f)=>(by have:=k4 f d;omega:False))))));clear IF fR MJ k1 k3 k4 U pO hr Z eu;repeat' (first|refine aH trivial ?_|(first|apply ah|apply af)<;>intro g)
   refine D1 (n:=tt.length) (k:=m.n) wN rfl ef ef om ?_;repeat' (first|refine aH trivial ?_|(first|apply ah|apply af)<;>intro g)
   refine aN (λI e D=>∃ (k:Nat),I=tt.length - k/\k<=tt.length/\(m.n<D.n/\(∀ id,id<m.n->D.get id=m.get id)/\D.get m.n=some (.cells .mut (cJ tt.length λc=>decide (c<k) && !jf tt (i:Int) (tt.length+1) (tt.getD c default).par)))/\e.at 0 = .aE f 0 tt.length 3/\e.at 4=M/\e.at 5 = .int .i64 (i:Int)/\e.at 6 = .aE m.n 0 tt.length 1/\e.at 7 = .int .i64 (k:Int)) _
    ⟨0,rfl,Nat.zero_le _,⟨by simp,λid B=>by rw[St.aA,if_neg om],by rw[St.aA,if_pos rfl];simp⟩,ef,ef,ef,ef,by simp only[lk,dM,Nat.reduceEqDiff,if_false,if_true];rfl⟩ ?_
   clear F K V;clear e;rintro I e D ⟨k,rfl,hk,E,F,K,V,e6,e7⟩;have Ai:=C.out.1.keep (s':=D) om (E.2.1 f om);by_cases cG:k<tt.length
   ·have iN:(k:Int)<(tt.length:Int):=by omega
    have cD:=@bQ k om;have z:=Bx.mk E;clear E;repeat' (first|refine aH trivial ?_|(first|apply ah|apply af)<;>intro g)
    refine bK wN (fv:=.fn (.func 84) [] []) (vs:=[.aE f 0 tt.length 3, .int .i64 (k:Int), .int .i64 (i:Int)]) rfl ef (aM.mono (HC Ai (λq hq=>(a.out.wf q hq).2) cG (i:Int)) λr s5 A=>⟨trivial,?_⟩);obtain⟨rfl,rfl⟩:=A;simp only[Env.aB];have jP:Bx (∀ c,(decide (c<k+1) && !jf tt (i:Int) (tt.length+1) (tt.getD c default).par)=if c=k then !jf tt (i:Int) (tt.length+1) (tt.getD k default).par else (decide (c<k) && !jf tt (i:Int) (tt.length+1) (tt.getD c default).par)):=⟨λc=>by
     by_cases h:c=k
     ·subst h;simp
     ·have:(c<k+1)↔c<k:=by omega
      simp[h,this]⟩
    generalize sL:jf tt (i:Int) (tt.length+1) (tt.getD k default).par=bv at *;clear sL;repeat' (first|refine aH @eF ?_|(first|apply ah|apply af)<;>intro g)
    refine lR (q:=k) (b:=!bv) (f':=λc=>decide (c<k+1) && !jf tt (i:Int) (tt.length+1) (tt.getD c default).par) ef ef z.out.2.2 cG jP.out λs6 h1 h2 h3=>?_;have N:=Bx.mk (And.intro h2 h3);have od:=z.out.1;clear h2 h3;repeat' (first|refine aH @cD ?_|(first|apply ah|apply af)<;>intro g)
    refine⟨tt.length - (k+1),by omega,k+1,rfl,by omega,⟨by omega,λid B=>(N.out.2 id om).trans (z.out.2.1 id B),N.out.1⟩,?_⟩;simp only[lk,Nat.reduceEqDiff,if_false,if_true,cD,F,K,V,e6,and_self]
   ·have nX:k=tt.length:=by omega
    subst nX;have W6:D.get m.n=some (.cells .mut (cJ tt.length λc=>!jf tt (i:Int) (tt.length+1) (tt.getD c default).par)):=by
     rw[E.2.2];congr 2;exact uW λc hjj=>by rw[decide_eq_true hjj,Bool.true_and]
    have z:=Bx.mk (And.intro E.1 E.2.1);have UX:=Bx.mk W6;clear E W6;repeat' (first|refine aH trivial ?_|(first|apply ah|apply af)<;>intro g)
    refine bK wN (fv:=.fn (.func 59) [] []) (vs:=[.aE f 0 tt.length 3, .aE m.n 0 tt.length 1]) rfl ef (aM.mono (Bj Ai UX.out z.out.1 a.out.wf) λr s5 A=>⟨trivial,?_⟩);obtain⟨j5,rs5,rfl,ZD,NN,vI,eL⟩:=A;simp only[Env.aB];have od:=z.out.1;have hF5:=Bx.mk (a.out.cut P hb (s2:=s5) NN ((C.out.2.2.1.mono (s':=D) om λid d=>z.out.2 id (C.out.2.2.1.lt d)).mono vI λid d=>eL id (by have:=C.out.2.2.1.lt d;omega)) C.out.2.2.2.1 (λd=>by have:=C.out.2.2.1.lt d;omega) om λid B=>by
     rw[eL id om,z.out.2 id om];exact C.out.2.1 id B)
    clear Ai NN eL;repeat' (first|refine aH @R ?_|(first|apply ah|apply af)<;>intro g)
    refine⟨30 - (i+1),by omega,i+1,Cy tt i,j5,rs5,M,_,rfl,hF5.out,?_⟩;simp only[lk,Nat.reduceEqDiff,if_false,if_true,R,K,and_self];exact⟨rfl,trivial⟩
 ·have KR:=x.end om;obtain⟨rfl,rfl⟩:=KR;have DM:=x.gl;have hil2:=x.il;have a:=Bx.mk x;clear x;repeat' (first|refine aH trivial ?_|(first|apply ah|apply af)<;>intro g)
  exact⟨.inr trivial,f,O,w,⟨ef,ef⟩,W9,by omega,a.out.tm,a.out.gs,a.out.gu,a.out.gj,a.out.n,a.out.o⟩
theorem LA {d:LV}{t:List Nd}{rs:List (Int × Int × LV)}(b:jK d t rs):PE 85 [d] (λr=>aP r (t.map (·.name))):=by
 have J:=lG;have K:=b.lim;have y:∀ x∈t.map (·.name),bU x:=λx hx=>by
  obtain⟨n,z,rfl⟩:=List.mem_map.1 hx;obtain⟨k,j,rfl⟩:=cF z;exact (b.nd k j).nr
 have l:=b.sl.len;refine dS Tryz.func85 br c85 bw (by simp[LV.closed.au,b.closed]) ?_;refine pg λe f=>?_;unfold l85;dsimp only[jA,qF,qS,qI,qA,qB,qC,qJ,qX,qm,ql,qR];repeat' (first|refine aG trivial ?_|(first|apply ah|apply af)<;>intro g)
 refine aN (λm e s1=>∃ (k:Nat) (w:LV),m=t.length - k/\k<=t.length/\Sx s1 w (ints ((t.take k).map (·.name))) k/\e.at 0=d/\e.at 3=w/\e.at 4 = .int .i64 (k:Int)) _
  ⟨0, .aE 0 0 0 1,rfl,Nat.zero_le _,⟨rfl, .inr ⟨0,rfl,by simp[bJ],by simp[ints,bJ]⟩⟩,ef,ef,by simp only[lk,Nat.reduceEqDiff,if_false,if_true];rfl⟩ ?_
 clear f;clear e;rintro m e s1 ⟨k,w,rfl,j,c,f,L,M⟩;by_cases o:k<t.length
 ·have N:(k:Int)<(t.length:Int):=by omega
  have p:=@bQ k om;obtain⟨q,-,-,-⟩:=gZ b.len b.nd o;have u:(t.take (k+1)).map (·.name)=(t.take k).map (·.name)++[(t.getD k default).name]:=by rw[take_one t default o,List.map_append];rfl
  generalize (t.getD k default).name=A at *;have B:=Bx.mk c;have C:=Bx.mk u;clear c u;repeat' (first|refine aH (aj @l (aj (@cU _ _ _ b.sl) @q)) ?_|(first|apply ah|apply af)<;>intro g)
  refine nK (v:=A) (yv:=w) ef ef B.out (by unfold big;omega) (λD r4 i O E F=>?_);have h1:Bx (Sx D r4 (ints ((t.take (k+1)).map (·.name))) (k+1)):=⟨by rw[C.out];unfold ints at i ⊢;rw[List.map_append];exact i⟩;clear i E F q;repeat' (first|refine aH @p ?_|(first|apply ah|apply af)<;>intro g)
  refine⟨t.length - (k+1),by omega,k+1,r4,rfl,by omega,h1.out,?_⟩;simp only[lk,dM,Nat.reduceEqDiff,if_false,if_true,p,f,and_self]
 ·have G:k=t.length:=by omega
  subst G;rw[List.take_length]at c;obtain⟨r,H,h1,h2,-⟩:=kK c om y;have hB:=Bx.mk (And.intro h1 h2);clear h1 h2 c;repeat' (first|refine aH @l ?_|(first|apply ah|apply af)<;>intro g)
  have I:∀ (e:Env) (s:St) (a:LV),e.at 2=a->aW l85.results e s=some a:=λe s a h=>by simp[l85,aW,bD,h]
  refine⟨.inr trivial,w,I _ _ _ ef,r,H,hB.out.1,hB.out.2.closed,hB.out.2⟩
theorem JF (used:List Int) (f:Nat) {n:Int}(h:1<=n):n<=Hq used f n/\Hq used f n<=max n (f+1):=by
 unfold Hq;have:=yy (used:=used) (f - (n - 1).toNat) (n:=n - 1);omega
theorem OL {used:List Int}{f:Nat}(a:∀ x∈used,x<=(f:Int)) {n:Int}(h:1<=n):Hq used f n=if n∈used then Hq used f (n+1) else n:=by
 unfold Hq;have:=ER (used:=used) (f:=f) a (n:=n - 1) om;rw[show n - 1+1=n by omega]at this;rw[this,show n+1 - 1=n by omega]
theorem yd (used:List Int) (f:Nat):∀ (l:List Nd) (n:Int),(qa used f n l).length=l.length
 | [],n=>rfl
 | x::l,n=>by
   show (if 0<x.name then _ else _:List Nd).length=_;split
   ·rw[List.length_cons,yd used f l,List.length_cons]
   ·rw[List.length_cons,yd used f l,List.length_cons]
theorem TM.name {s s':St}{j:Nat}{t:List Nd}{rs:List (Int × Int × LV)}(h:TM s j t rs) {i:Nat}(f:i<t.length) {v:Int}(c:bU v) (g:s'.n=s.n) (d:s'.get j=some (.cells .mut (dm eO (rs.set i (v,(rs.getD i default).2))))):TM s' j (t.set i { t.getD i default with name:=v }) (rs.set i (v,(rs.getD i default).2)):=by
 refine⟨d,by have:=h.lt;omega,by rw[List.length_set,List.length_set,h.len],by rw[List.length_set];exact h.lim,λk a=>?_⟩;rw[List.length_set]at a;have b:=h.nd k a;by_cases e:k=i
 ·subst e;have h1:(rs.set k (v,(rs.getD k default).2)).getD k default=(v,(rs.getD k default).2):=by simp[gD,h.len,a]
  have h2:(t.set k { t.getD k default with name:=v }).getD k default = { t.getD k default with name:=v } := by simp[gD,a]
  rw[h1,h2];exact⟨rfl,b.par,b.set,c,b.pr⟩
 ·have h1:(rs.set i (v,(rs.getD i default).2)).getD k default=rs.getD k default:=by simp[gD,List.getElem?_set_ne (Ne.symm e)]
  have h2:(t.set i { t.getD i default with name:=v }).getD k default=t.getD k default:=by simp[gD,List.getElem?_set_ne (Ne.symm e)]
  rw[h1,h2];exact b
theorem JE {P:List Nd}{l:List Nd}{i:Nat}(a:P.length=i) (b:i<l.length) (x:Nd):(P++l.drop i).set i x=P++[x]++l.drop (i+1):=by
 have h:l[i]? = some l[i]:=gE b;exact drop_set P l i x l[i] a h
theorem Uh {P:List Nd}{l:List Nd}{i:Nat}(a:P.length=i) (b:i<l.length):(P++l.drop i).getD i default=l.getD i default:=by
 rw[bZ om,a,Nat.sub_self];simp[gD]
theorem Ht {s:St}{tv:LV}{told:List Nd}{rso:List (Int × Int × LV)}(hO:jK tv told rso) {j:Nat}{t:List Nd}{rs:List (Int × Int × LV)}(hT:TM s j t rs) {f:Nat}(hf:f<=6000) (b:∀ x∈told.map (·.name),x<=(f:Int)) :
 aM Tryz.prog GL (.fn (.func 60) [] []) [tv, .aE j 0 t.length 3] s (λr s'=>∃ R H,r = .cE [.aE j 0 t.length 3,H]/\TM s' j (qa (told.map (·.name)) f 1 t) R/\aP H (Lf ((told.map (·.name)).filter λx=>decide (x ∉ t.map (·.name))))/\s.n<=s'.n/\∀ id,id<s.n->id≠j->s'.get id=s.get id):=by
 have je:=lG;have mK:=hT.lim;have I:=hO.lim;refine bM (first:=[]) (caps:=[]) Tryz.func60 br c60 bw (aX.mono (Q:=λo e s'=>(o = .normal∨o = .jmp .ret)/\∃ R H,(e.at 4 = .aE j 0 t.length 3/\e.at 5=H)/\TM s' j (qa (told.map (·.name)) f 1 t) R/\aP H (Lf ((told.map (·.name)).filter λx=>decide (x ∉ t.map (·.name))))/\s.n<=s'.n/\∀ id,id<s.n->id≠j->s'.get id=s.get id) ?_ λo e s' hh=>by
  obtain⟨h1,R,H,⟨h2,RC⟩,h3⟩:=hh;exact⟨h1,_,by simp[l60,aW,bD,h2,RC],R,H,rfl,h3⟩)
 refine Cd.out (mH λe e0 l=>?_);have zc:=hT.lt;have DK:=LA hO;have hUl:(told.map (·.name)).length<=3000:=by rw[List.length_map];exact I
 have hUr:∀ x∈told.map (·.name),bU x:=λx hx=>by
  obtain⟨n,hn,rfl⟩:=List.mem_map.1 hx;obtain⟨k,hk,rfl⟩:=cF hn;exact (hO.nd k hk).nr
 generalize told.map (·.name)=U at *;unfold l60;dsimp only[jA,jB,jG,qM,qL,qF,qS,qI,qA,qB,qC,qU,qJ,qT,qX,qG,qm,ql,qR];repeat' (first|refine aG trivial ?_|(first|apply ah|apply af)<;>intro a)
 refine cK ff DK wN ef λuv A huc=>⟨trivial,?_⟩;simp only[Env.aB];have Ij:=A.sl.len;repeat' (first|refine aG trivial ?_|(first|apply ah|apply af)<;>intro a)
 refine aN (λD e s1=>∃ (k:Nat) (w:LV),D=U.length - k/\k<=U.length/\(s.n<=s1.n/\(∀ id,id<s.n->s1.get id=s.get id)/\Sx s1 w (ints ((U.take k).filter λx=>decide (x ∉ t.map (·.name)))) ((U.take k).filter λx=>decide (x ∉ t.map (·.name))).length/\∀ id,aQ w id->s.n<=id)/\e.at 1 = .aE j 0 t.length 3/\e.at 6=uv/\e.at 7=w/\e.at 8 = .int .i64 (k:Int)) _
  ⟨0, .aE s.n 0 0 1,rfl,Nat.zero_le _,⟨by simp,λid B=>by rw[St.aA,if_neg om],⟨rfl, .inr ⟨s.n,rfl,by simp,by simp[ints]⟩⟩,λid b=>by have:=aI.1 b;omega⟩,ef,ef,ef,by simp only[lk,Nat.reduceEqDiff,if_false,if_true];rfl⟩ ?_
 clear e0 l;clear e;rintro D e s1 ⟨k,w,rfl,hk,J,l,y,z,e8⟩;have wF:=hT.keep J.1 (J.2.1 j hT.lt);by_cases cG:k<U.length
 ·have iN:(k:Int)<(U.length:Int):=by omega
  have cD:=@bQ k om;have jR:=bB iN;have ep:=G6 cG;generalize U.getD k 0=x at *;have lY:=Bx.mk ep;have g:=Bx.mk J;have sK:=List.length_filter_le (λx=>decide (x ∉ t.map (·.name))) (U.take k);rw[List.length_take]at sK;clear J ep;repeat' (first|refine aG (aj @Ij (aj (@cU _ _ _ A.sl) @jR)) ?_|(first|apply ah|apply af)<;>intro a)
  refine bK wN (fv:=.fn (.func 85) [] []) (vs:=[.aE j 0 t.length 3]) rfl ef (aM.mono (Hs wF) λr s2 hh=>?_);obtain⟨hr,jk,m⟩:=hh;refine⟨⟨fU (p:=.aY (ints U) k) (v:=.int .i64 x) (by simp only[Env.aB];exact ef) (iX jR) (by simp only[Env.aB];exact ef),trivial⟩,?_⟩;simp only[Env.aB];have Xp:=Bx.mk (And.intro (g.out.2.2.1.mono jk λid b=>m id (g.out.2.2.1.lt b)) (λid (B:id<s.n)=>(m id (by have:=g.out.1;omega)).trans (g.out.2.1 id B)));have S:=g.out.1;clear m wF;refine cO ff (nI hr x) (by first | exact wN | (apply wG;(simp only[lk,Nat.reduceEqDiff,reduceIte,l,y,z,e8];(try rfl);done))) ef (λbb a=>⟨by first | trivial | (simp only[dG,aK,bq.run,Env.aB,Env.cp,u6,Nat.reduceEqDiff,Nat.reduceAdd,Nat.reduceLeDiff,reduceIte,bG,iI,List.map,cu,beq_self_eq_true,reduceCtorEq,false_or,true_and,and_true,Option.some.injEq, *];done),?_⟩);simp only[Env.aB];cases bb<;>simp only[decide_eq_true_eq,decide_eq_false_iff_not]at a
  ·have jP:Bx ((U.take (k+1)).filter (λx=>decide (x ∉ t.map (·.name)))=(U.take k).filter (λx=>decide (x ∉ t.map (·.name)))++[x]):=⟨by rw[lY.out,List.filter_append,List.filter_cons,if_pos (decide_eq_true a)];rfl⟩;clear a;generalize (U.take k).filter (λx=>decide (x ∉ t.map (·.name)))=F at *;repeat' (first|refine aH (aj @Ij (aj (@cU _ _ _ A.sl) @jR)) ?_|(first|apply ah|apply af)<;>intro a)
   refine nK (v:=x) (yv:=w) ef ef Xp.out.1 (by unfold big;omega) (λT r4 k1 k2 k3 k4=>?_);have h1:Bx (s.n<=T.n/\(∀ id,id<s.n->T.get id=s.get id)/\Sx T r4 (ints ((U.take (k+1)).filter λx=>decide (x ∉ t.map (·.name)))) ((U.take (k+1)).filter λx=>decide (x ∉ t.map (·.name))).length/\∀ id,aQ r4 id->s.n<=id):=⟨by
    refine⟨by omega,λid B=>(k3 id om λb=>by have:=g.out.2.2.2 id b;omega).trans (Xp.out.2 id B),?_,λid b=>by have:=k4 id b;omega⟩;rw[jP.out];unfold ints at k1 ⊢;rw[List.map_append,List.length_append];exact k1⟩
   clear k1 k3 k4;repeat' (first|refine aH @cD ?_|(first|apply ah|apply af)<;>intro a)
   refine⟨U.length - (k+1),by omega,k+1,r4,rfl,by omega,h1.out,?_⟩;simp only[lk,dM,Nat.reduceEqDiff,if_false,if_true,cD,l,y,and_self]
  ·have jP:Bx ((U.take (k+1)).filter (λx=>decide (x ∉ t.map (·.name)))=(U.take k).filter (λx=>decide (x ∉ t.map (·.name)))):=⟨by rw[lY.out,List.filter_append,List.filter_cons,if_neg (by simpa using a)];simp⟩;clear a;have h1:Bx (s.n<=s2.n/\(∀ id,id<s.n->s2.get id=s.get id)/\Sx s2 w (ints ((U.take (k+1)).filter λx=>decide (x ∉ t.map (·.name)))) ((U.take (k+1)).filter λx=>decide (x ∉ t.map (·.name))).length/\∀ id,aQ w id->s.n<=id):=⟨by
    rw[jP.out];exact⟨by omega,Xp.out.2,Xp.out.1,g.out.2.2.2⟩⟩
   repeat' (first|refine aH @cD ?_|(first|apply ah|apply af)<;>intro a)
   refine⟨U.length - (k+1),by omega,k+1,w,rfl,by omega,h1.out,?_⟩;simp only[lk,dM,Nat.reduceEqDiff,if_false,if_true,cD,l,y,z,and_self]
 ·have nX:k=U.length:=by omega
  subst nX;rw[List.take_length]at J;have sK:=List.length_filter_le (λx=>decide (x ∉ t.map (·.name))) U;have xF:∀ x∈U.filter (λx=>decide (x ∉ t.map (·.name))),bU x:=λx hx=>hUr x (List.mem_filter.1 hx).1;generalize U.filter (λx=>decide (x ∉ t.map (·.name)))=F at *;have g:=Bx.mk J;clear J;repeat' (first|refine aG @Ij ?_|(first|apply ah|apply af)<;>intro a)
  refine aN (λD e s2=>∃ (i:Nat) (n:Int) (P:List Nd) (h:List (Int × Int × LV)),D=t.length - i/\i<=t.length/\((1<=n/\n<=f+1+i)/\P.length=i/\P++qa U f n (t.drop i)=qa U f 1 t/\TM s2 j (P++t.drop i) h/\s2.n=s1.n/\∀ id,id≠j->s2.get id=s1.get id)/\e.at 1 = .aE j 0 t.length 3/\e.at 6=uv/\e.at 7=w/\e.at 9 = .int .i64 n/\e.at 10 = .int .i64 (i:Int)) _
   ⟨0,1,[],rs,rfl,Nat.zero_le _,⟨⟨by omega,by omega⟩,rfl,by simp,wF,rfl,λ_ _=>rfl⟩,ef,ef,ef,ef,by simp only[lk,Nat.reduceEqDiff,if_false,if_true];rfl⟩ ?_
  clear l y z e8 wF;clear e;rintro D e s2 ⟨i,n,P,h,rfl,hi,hJ,l,y,z,e9,gW⟩;by_cases cy:i<t.length
  ·have iQ:(i:Int)<(t.length:Int):=by omega
   have dO:=@bQ i om;obtain⟨⟨eu,jk⟩,K,E,q,S,m⟩:=hJ;have G:(P++t.drop i).length=t.length:=by rw[List.length_append,List.length_drop];omega
   have U4:i<(P++t.drop i).length:=by omega
   obtain⟨jd,-,-,-⟩:=q.ld U4;have C:=Uh K cy;rw[C]at jd;have V:t.drop i=t.getD i default::t.drop (i+1):=by
    rw[List.drop_eq_getElem_cons cy,gD,gE cy];rfl
   have L:=JE K cy;have GM:=q.get;have lZ:h[i]? = some (h.getD i default):=by rw[gD,gE (by rw[q.len];omega)];rfl
   have hnv:=JF U f eu;by_cases WI:0<(t.getD i default).name
   ·have X:Bx (P++[t.getD i default]++qa U f n (t.drop (i+1))=qa U f 1 t):=⟨by
     rw[<- E,V,List.append_assoc];show _=P++if 0<(t.getD i default).name then _ else _
     rw[if_pos WI];rfl⟩
    have IF:Bx (TM s2 j (P++[t.getD i default]++t.drop (i+1)) h):=⟨by
     rw[List.append_assoc];rw[V]at q;exact q⟩
    have M:=Bx.mk (And.intro S (And.intro m K));clear E q V L m K GM lZ C G U4 S;repeat' (first|refine aH (aj @eF (aj @jd @dO)) ?_|(first|apply ah|apply af)<;>intro a)
    refine⟨t.length - (i+1),by omega,i+1,n,P++[t.getD i default],h,rfl,by omega,⟨⟨eu,by omega⟩,by rw[List.length_append,List.length_singleton,M.out.2.2],X.out,IF.out,M.out.1,M.out.2.1⟩,?_⟩;simp only[lk,dM,Nat.reduceEqDiff,if_false,if_true,dO,l,y,z,e9,and_self]
   ·have BK:(t.getD i default).name<=0:=by omega
    have NC:=Bx.mk (rfl:Hq U f n=Hq U f n);generalize hv:Hq U f n=v at *;have X:Bx (P++[{ t.getD i default with name:=v }]++qa U f (v+1) (t.drop (i+1))=qa U f 1 t):=⟨by
     rw[<- E,V,List.append_assoc];show _=P++if 0<(t.getD i default).name then _ else _
     rw[if_neg WI,hv];rfl⟩
    have hvr:bU v:=by constructor<;>omega
    have IF:Bx (∀ u:St,u.n=s2.n->u.get j=some (.cells .mut (dm eO (h.set i (v,(h.getD i default).2))))->TM u j (P++[{ t.getD i default with name:=v }]++t.drop (i+1)) (h.set i (v,(h.getD i default).2))):=⟨λu h1 h2=>by
     have:=q.name U4 hvr h1 h2;rw[C,L]at this;exact this⟩
    have N:=Bx.mk hv;have M:=Bx.mk (And.intro S (And.intro m K));have qE:=Bx.mk (And.intro GM lZ);have huB:=Bx.mk b;clear E q V L m K GM lZ C G U4 S hv NC b;repeat' (first|refine aH (aj @eF @jd) ?_|(first|apply ah|apply af)<;>intro a)
    refine aN (λD e u=>u=s2/\∃ d:Int,D=(v - d).toNat/\(n<=d/\d<=v/\Hq U f d=v)/\e.at 1 = .aE j 0 t.length 3/\e.at 6=uv/\e.at 7=w/\e.at 9 = .int .i64 d/\e.at 10 = .int .i64 (i:Int)) _
     ⟨rfl,n,rfl,⟨by omega,hnv.1,N.out⟩,ef,ef,ef,ef,ef⟩ ?_
    clear l y z e9 gW jd;clear e;rintro D e u ⟨WS,d,rfl,hnn,l,y,z,e9,gW⟩;subst WS;obtain⟨fy,lJ,xG⟩:=hnn;have gV:=OL huB.out (f:=f) (n:=d) om;rw[xG]at gV;have O:=JF U f (n:=d+1) om;have AL:=Bx.mk (And.intro gV xG);clear gV xG;repeat' (first|refine aG trivial ?_|(first|apply ah|apply af)<;>intro a)
    refine cO ff (nI A d) (by first | exact wN | (apply wG;(simp only[lk,Nat.reduceEqDiff,reduceIte,l,y,z,e9,gW];(try rfl);done))) ef (λbb a=>⟨by first | trivial | (simp only[dG,aK,bq.run,Env.aB,Env.cp,u6,Nat.reduceEqDiff,Nat.reduceAdd,Nat.reduceLeDiff,reduceIte,bG,iI,List.map,cu,beq_self_eq_true,reduceCtorEq,false_or,true_and,and_true,Option.some.injEq, *];done),?_⟩);simp only[Env.aB];cases bb<;>simp only[decide_eq_true_eq,decide_eq_false_iff_not]at a
    ·have Y:v=d:=by rw[AL.out.1,if_neg a]
     subst Y;have NA:IntKind.i64.wrap (v+1)=v+1:=wrap_i64 _ om om;clear a AL O N;repeat' (first|refine aG trivial ?_|(first|apply ah|apply af)<;>intro a)
     repeat' (first|refine aG @eF ?_|(first|apply ah|apply af)<;>intro a)
     refine dJ fN (i:=i) (k:=0) (c:=h.getD i default) (c':=(v,(h.getD i default).2)) (rest:=[]) (v:=.int .i64 v) ef om ef rfl (by rw[List.append_nil];exact qE.out.1) qE.out.2 (by decide) rfl (λT od nY fD=>?_);rw[List.append_nil]at nY;have Ai:=Bx.mk (IF.out T od nY);have Z:=Bx.mk fD;clear nY fD;repeat' (first|refine aG @NA ?_|(first|apply ah|apply af)<;>intro a)
     refine⟨t.length - (i+1),by omega,i+1,v+1,P++[{ t.getD i default with name:=v }],_,rfl,by omega,⟨⟨by omega,by omega⟩,by rw[List.length_append,List.length_singleton,M.out.2.2],X.out,Ai.out,by rw[od,M.out.1],λid B=>(Z.out id B).trans (M.out.2.1 id B)⟩,?_⟩;simp only[lk,dM,Nat.reduceEqDiff,if_false,if_true,NA,dO,l,y,z,and_self]
    ·have YP:Hq U f (d+1)=v:=by
      have:=AL.out.1;rw[if_pos a]at this;exact this.symm
     have DH:IntKind.i64.wrap (d+1)=d+1:=wrap_i64 _ om om;rw[YP]at O;have hvxB:=Bx.mk YP;clear a YP AL N;repeat' (first|refine aG trivial ?_|(first|apply ah|apply af)<;>intro a)
     repeat' (first|refine aG @DH ?_|(first|apply ah|apply af)<;>intro a)
     refine⟨(v - (d+1)).toNat,by omega,trivial,d+1,rfl,⟨by omega,by omega,hvxB.out⟩,?_⟩;simp only[lk,Nat.reduceEqDiff,if_false,if_true,DH,l,y,z,gW,and_self]
  ·have Af:i=t.length:=by omega
   subst Af;obtain⟨eu,K,E,q,jk,m⟩:=hJ;rw[List.drop_length,List.append_nil]at q;rw[List.drop_length]at E;have X:P=qa U f 1 t:=by rw[<- E];simp[qa]
   subst X;have pO:=g.out.2.2.1.mono (s':=s2) om λid b=>m id λe=>by
    have:=g.out.2.2.2 id b;omega
   obtain⟨r,u,h1,h2,h3,O⟩:=kK pO om xF;have dH:=g.out.1;have hF:Bx (TM u j (qa U f 1 t) h/\s.n<=u.n/\∀ id,id<s.n->id≠j->u.get id=s.get id):=⟨by
    refine⟨q.keep om (O j λb=>by have:=g.out.2.2.2 j b;omega),by omega,λid B dB=>?_⟩;rw[O id λb=>by have:=g.out.2.2.2 id b;omega,m id dB];exact g.out.2.1 id B⟩
   have eg:=Bx.mk h1;clear h1 h3 O q m pO E;repeat' (first|refine aG trivial ?_|(first|apply ah|apply af)<;>intro a)
   refine bK wN (fv:=.fn (.func 61) [] []) (vs:=[w]) rfl ef (n9 (args':=[r]) (s':=u) (by simp[cY.cM,eg.out]) (mP ff (yb h2 om) λr2 vj qu=>⟨trivial,?_⟩));simp only[Env.aB];repeat' (first|refine aH trivial ?_|(first|apply ah|apply af)<;>intro a)
   exact⟨.inr trivial,h,r2,⟨ef,ef⟩,hF.out.1,vj,hF.out.2⟩
end Go.Proofs.YtkbiecjdcjfhaaaGreat
end
