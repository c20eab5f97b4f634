/- The document's check of a tree, where it is one. -/
import Derived.Test.YtkbiecjdcjfhaaaGreatRk
import Derived.Test.YtkbiecjdcjfhaaaGreatRval
import Derived.Test.YtkbiecjdcjfhaaaGreatTval
import Derived.Test.YtkbiecjdcjfhaaaGreatTstp
import Derived.Test.YtkbiecjdcjfhaaaGreatPbd
set_option linter.unusedSimpArgs false
set_option linter.unusedVariables false
set_option maxRecDepth 100000
set_option maxHeartbeats 16000000
section
namespace Go.Proofs.YtkbiecjdcjfhaaaGreat
open Go Go.Pv Go.pR
open Classical
theorem OM {bv C:LV}{B:Bu}{I J:LV}(hB:vo bv B I J) {t:List Nd}{rs:List (Int × Int × LV)}(c:jK C t rs) (hN:B.next.length<=1500) (z:Tr B.next.length t) (hl:t.length<=30) {i:Nat}(O:i<t.length):PO 81 [bv,C, .int .i64 (i:Int)] (.bool true):=by
 have bV:=hB.closed;obtain⟨rfl,hs,hn⟩:=hB;have mD:=hn.closed;have m9:=hs.closed;obtain⟨vs,fI⟩:=hn;have mJ:=hs.sl.cell;have nW:=fI.sl.cell;have Q:=fI.sl.len;have kn:=c.sl.len;have BL:=c.closed;have je:=lG;have v:=z.1 i O;have FD:(t.take i).length=i:=by rw[List.length_take];omega
 have FA:=z.2 i O;have Vj:=gn (z.1.nodup (i:Int) om) (λx hx=>z.1.B9 O hx);obtain⟨AP,lI,Ag,R⟩:=gZ c.len c.nd O;refine gO (t:=6) hm Tryz.func81 br c81 bw (by simp[LV.closed.au,LV.closed,BL];exact⟨m9,mD⟩) rfl rfl ?_;refine ev3 λe e0 d f=>?_;have iQ:(i:Int)<(t.length:Int):=by omega
 have kG:=c.get O St.empty;have hcn:=R.sl.cell;have w:=R.sl.len;generalize (rs.getD i default).2.2=iv at *;generalize dB:t.getD i default=n at *;have wo:=v.name;have wk:IntKind.i64.wrap (2*(B.next.length:Int))=2*(B.next.length:Int):=wrap_i64 _ om om;have D:n.set.length<=1500:=by
  have h1:=gn (b:=(List.range B.next.length).map λ(q:Nat)=>(q:Int)) (v.inc.imp λh=>by omega) λx hx=>by
   have:=v.tQ x hx;exact List.mem_map.2 ⟨x.toNat,List.mem_range.2 om,by omega⟩
  rw[List.length_map,List.length_range]at h1;omega
 have E:0<n.set.length:=List.length_pos_iff.2 v.ne;have yT:(i=0/\n.par = -1)∨(0<i/\0<=n.par/\n.par<(i:Int)):=by
  rcases Nat.eq_zero_or_pos i with h | h
  ·exact .inl ⟨h,v.root om⟩
  ·have:=v.par om;rw[FD]at this;exact .inr ⟨h,this.1,this.2⟩
 have M:=Bx.mk (And.intro v (And.intro FA (And.intro Vj dB)));clear v FA Vj dB AP lI Ag;have S:1<=n.name:=wo.1;have T:n.name<=2*(B.next.length:Int):=by have:=wo.2.1;omega
 clear wo;unfold l81;dsimp only[jA,jB,jC,jE,jF,jG,qM,qL,qN,qF,qS,qI,qA,qB,qC,qK,qO,qP,qV,qU,qW,qH,qT,qm,ql,qR];repeat' (first|refine aG (aj @kn (aj (@cU _ _ _ c.sl) (aj @kG (aj @Q (aj @w @wk))))) ?_|(first|apply ah|apply af)<;>intro a)
 have g:((St.empty.new (.cells .mut [.int .i64 0, .int .i64 0, .aq])).put 0 (.cells .mut [.int .i64 n.name, .int .i64 n.par,iv])).get 0=some (.cells .mut [.int .i64 n.name, .int .i64 n.par,iv]):=by rw[St.az,if_pos rfl]
 generalize (St.empty.new (.cells .mut [.int .i64 0, .int .i64 0, .aq])).put 0 (.cells .mut [.int .i64 n.name, .int .i64 n.par,iv])=s1 at *;refine lQ (λe' s'=>s'=s1/\e'.at 1=C/\e'.at 2 = .int .i64 (i:Int)/\e'.at 3 = .aY [.int .i64 B.L,I,J] 0/\e'.at 7 = .aO 0 0) ?_ ?_
 ·rcases yT with⟨h1,h2⟩ | ⟨h1,h2,h3⟩
  ·have pN:(i:Int)<=0:=by omega
   have BP:n.par<=-1:=by omega
   have Zd : -1<=n.par:=by omega
   clear h1 h2;repeat' (first|refine aG (aj @kn (aj @g (aj @Q (aj @w @wk)))) ?_|(first|apply ah|apply af)<;>intro a)
   all_goals first
    | (exfalso;revert a;simp;done)
    | exact⟨trivial,ef,ef,ef,ef⟩
    | trace_state
  ·have pN:0<(i:Int):=by omega
   clear h1;repeat' (first|refine aG (aj @kn (aj @g (aj @Q (aj @w @wk)))) ?_|(first|apply ah|apply af)<;>intro a)
   all_goals first
    | (exfalso;revert a;simp;done)
    | exact⟨trivial,ef,ef,ef,ef⟩
    | trace_state
 ·clear e0 d f;clear e;rintro e s2 ⟨F,d,f,o,u⟩;subst F;have U:=Bx.mk yT;have FR:=Bx.mk (And.intro c (And.intro z (And.intro hN (And.intro hl D))));have Zu:=Bx.mk FD;clear yT z hN hl FD bV m9 mD mJ nW BL je wk S T E hcn iQ kG;repeat' (first|refine aG trivial ?_|(first|apply ah|apply af)<;>intro a)
  refine aN (λm e s=>s=s2/\∃ k:Nat,m=n.set.length - k/\k<=n.set.length/\e.at 1=C/\e.at 2 = .int .i64 (i:Int)/\e.at 3 = .aY [.int .i64 B.L,I,J] 0/\e.at 7 = .aO 0 0/\e.at 8 = .int .i64 (k:Int)) _ ⟨rfl,0,rfl,Nat.zero_le _,ef,ef,ef,ef,by simp only[lk,if_true];rfl⟩ ?_;clear d f o u;clear e;rintro m e s ⟨F,k,rfl,hk,d,f,o,u,e8⟩;subst F;by_cases V:k<n.set.length
  ·have iN:(k:Int)<(n.set.length:Int):=by omega
   have A:=@bQ k om;have jR:=bB iN;have N:n.set.getD k 0∈n.set:=by rw[gD,gE V];simp
   have Nz:=M.out.1.tQ _ N;have Mm:0<i->n.set.getD k 0∈(t.getD n.par.toNat default).set:=λh=>by
    have h1:=(M.out.1.sub (by have:=Zu.out;omega) _ N).1;have h2:=U.out;rwa[getD_take om]at h1
   have WW:0<k->n.set.getD (k - 1) 0<n.set.getD k 0:=λh=>by
    have:=List.pairwise_iff_getElem.1 M.out.1.inc (k - 1) k om V om;rw[gD,gD,gE om,gE V];exact this
   generalize n.set.getD k 0=x at *;have H:∀ (e:Env),e.at 1=C->e.at 2 = .int .i64 (i:Int)->e.at 3 = .aY [.int .i64 B.L,I,J] 0->e.at 7 = .aO 0 0->e.at 8 = .int .i64 (k:Int)->True:=λ_ _ _ _ _ _=>trivial;clear H;have vg:=Nz.1;have WH:=Nz.2;clear Nz N;have DL:=bB (l:=n.set) (i:=k - 1) om;have Qt:0<(k:Int)->IntKind.i64.wrap ((k:Int) - 1)=((k - 1:Nat):Int):=λh=>by rw[wrap_i64 _ om om];omega
   have hkpI:((k - 1:Nat):Int)<(n.set.length:Int):=by omega
   have NG:0<(k:Int)->n.set.getD (k - 1) 0<x:=λh=>WW om;generalize n.set.getD (k - 1) 0=y at *;generalize k - 1=k1 at *;clear WW;rcases U.out with⟨h1,h2⟩ | ⟨h1,h2,h3⟩
   ·have pN:(i:Int)<=0:=by omega
    clear h1 h2 Mm;repeat' (first|refine aG (aj @g (aj @Q (aj @w (aj (@cU _ _ _ R.sl) (aj @jR (aj @DL @Qt)))))) ?_|(first|apply ah|apply af)<;>intro a)
    all_goals
     repeat' (first|refine aG @A ?_|(first|apply ah|apply af)<;>intro a)
     refine⟨n.set.length - (k+1),by omega,trivial,k+1,rfl,by omega,?_⟩;simp only[lk,Nat.reduceEqDiff,if_false,if_true,A,d,f,o,u,and_self]
   ·have pN:0<(i:Int):=by omega
    obtain⟨q,X⟩:∃ q:Nat,n.par=(q:Int):=⟨n.par.toNat,by omega⟩;have hql:q<t.length:=by omega
    have SF:(q:Int)<(t.length:Int):=by omega
    have Y:=Mm h1;obtain⟨-,-,hgq,hiq⟩:=gZ c.len c.nd hql;rw[X,Int.toNat_natCast]at Y;rw[X]at g;clear h1 h2 h3 Mm X;generalize (rs.getD q default).2.2=qv at *;repeat' (first|refine aG (aj @g (aj @Q (aj @w (aj (@cU _ _ _ R.sl) (aj @jR (aj @DL (aj @Qt (aj (@cU _ _ _ c.sl) @hgq)))))))) ?_|(first|apply ah|apply af)<;>intro a)
    all_goals
     refine cO ff (nI hiq x) (by first | exact wN | (apply wG;(simp only[lk,Nat.reduceEqDiff,reduceIte];(try rfl);done))) ef (λbb a=>⟨by first | trivial | (simp only[dG,aK,bq.run,Env.aB,Env.cp,u6,Nat.reduceEqDiff,Nat.reduceAdd,Nat.reduceLeDiff,reduceIte,bG,iI,List.map,cu,beq_self_eq_true,reduceCtorEq,false_or,true_and,and_true,Option.some.injEq, *];done),?_⟩);simp only[Env.aB];cases bb<;>simp only[decide_eq_true_eq,decide_eq_false_iff_not]at a
     ·exact absurd Y a
     repeat' (first|refine aG trivial ?_|(first|apply ah|apply af)<;>intro a)
     repeat' (first|refine aG @A ?_|(first|apply ah|apply af)<;>intro a)
     refine⟨n.set.length - (k+1),by omega,trivial,k+1,rfl,by omega,?_⟩;simp only[lk,dM,Nat.reduceEqDiff,if_false,if_true,A,d,f,o,u,and_self]
  ·have nX:k=n.set.length:=by omega
   subst nX;repeat' (first|refine aG (aj @g @w) ?_|(first|apply ah|apply af)<;>intro a)
   have hi30:i<=30:=by have:=FR.out.2.2.2.1;omega
   refine aN (λm e s'=>s'=s/\∃ k:Nat,m=i - k/\k<=i/\e.at 1=C/\e.at 2 = .int .i64 (i:Int)/\e.at 3 = .aY [.int .i64 B.L,I,J] 0/\e.at 7 = .aO 0 0/\e.at 9 = .int .i64 (k:Int)) _ ⟨rfl,0,rfl,Nat.zero_le _,ef,ef,ef,ef,by simp only[lk,Nat.reduceEqDiff,if_false,if_true];rfl⟩ ?_;clear d f o u e8;clear e;rintro m e s3 ⟨F,k,rfl,hk,d,f,o,u,e9⟩;subst F;by_cases V:k<i
   ·have iN:(k:Int)<(i:Int):=by omega
    have hkT:(k:Int)<(t.length:Int):=by omega
    have A:=@bQ k om;obtain⟨Z,U8,hgk2,Df⟩:=gZ c.len c.nd (show k<t.length by omega);have Zz:t.getD k default∈t.take i:=by
     rw[<- getD_take V];exact fK (by have:=Zu.out;omega)
    have hnn:(t.getD k default).name≠n.name:=λe=>M.out.1.name.2.2 (List.mem_map.2 ⟨_,Zz,e⟩);have iP:∀ x∈n.set,(t.getD k default).par=n.par->x ∉ (t.getD k default).set:=λx hx hp hxk=>(M.out.1.sub (by have:=Zu.out;omega) x hx).2 (List.mem_flatMap.2 ⟨_,List.mem_filter.2 ⟨Zz,by simpa using hp⟩,hxk⟩);generalize (rs.getD k default).2.2=kv at *;generalize (t.getD k default).name=nk at *;generalize (t.getD k default).par=pk at *;generalize (t.getD k default).set=sk at *;have wY:=Bx.mk iP;clear iP Zz;repeat' (first|refine aH (aj @g (aj (@cU _ _ _ c.sl) @Z)) ?_|(first|apply ah|apply af)<;>intro a)
    refine aN (λm e s'=>s'=s3/\∃ j:Nat,m=n.set.length - j/\j<=n.set.length/\e.at 1=C/\e.at 2 = .int .i64 (i:Int)/\e.at 3 = .aY [.int .i64 B.L,I,J] 0/\e.at 7 = .aO 0 0/\e.at 9 = .int .i64 (k:Int)/\e.at 10 = .int .i64 (j:Int)) _ ⟨rfl,0,rfl,Nat.zero_le _,ef,ef,ef,ef,ef,by simp only[lk,dM,Nat.reduceEqDiff,if_false,if_true];rfl⟩ ?_;clear d f o u e9;clear e;rintro m e s4 ⟨F,j,rfl,hj,d,f,o,u,e9,gW⟩;subst F;by_cases zc:j<n.set.length
    ·have hjI:(j:Int)<(n.set.length:Int):=by omega
     have hwj:=@bQ j om;have jR:=bB hjI;have N:n.set.getD j 0∈n.set:=by rw[gD,gE zc];simp
     generalize n.set.getD j 0=x at *;have jP:=Bx.mk N;clear N;by_cases GG:pk=n.par
     ·rw[GG]at U8;have BK:=wY.out x jP.out GG;clear GG;repeat' (first|refine aH (aj @g (aj @w (aj (@cU _ _ _ c.sl) (aj @U8 (aj @hgk2 (aj (@cU _ _ _ R.sl) @jR)))))) ?_|(first|apply ah|apply af)<;>intro a)
      refine cO ff (nI Df x) (by first | exact wN | (apply wG;(simp only[lk,Nat.reduceEqDiff,reduceIte,d,f,o,u,e9,gW];(try rfl);done))) ef (λbb a=>⟨by first | trivial | (simp only[dG,aK,bq.run,Env.aB,Env.cp,u6,Nat.reduceEqDiff,Nat.reduceAdd,Nat.reduceLeDiff,reduceIte,bG,iI,List.map,cu,beq_self_eq_true,reduceCtorEq,false_or,true_and,and_true,Option.some.injEq, *];done),?_⟩);simp only[Env.aB];cases bb<;>simp only[decide_eq_true_eq,decide_eq_false_iff_not]at a
      ·repeat' (first|refine aH @hwj ?_|(first|apply ah|apply af)<;>intro a)
       refine⟨n.set.length - (j+1),by omega,trivial,j+1,rfl,by omega,?_⟩;simp only[lk,Nat.reduceEqDiff,if_false,if_true,hwj,d,f,o,u,e9,and_self]
      ·exact absurd a BK
     ·repeat' (first|refine aH (aj @g (aj @w (aj (@cU _ _ _ c.sl) (aj @U8 @A)))) ?_|(first|apply ah|apply af)<;>intro a)
      refine⟨i - (k+1),by omega,trivial,k+1,rfl,by omega,?_⟩;simp only[lk,Nat.reduceEqDiff,if_false,if_true,A,d,f,o,u,and_self]
    ·repeat' (first|refine aH (aj @g (aj @w (aj (@cU _ _ _ c.sl) (aj @U8 @A)))) ?_|(first|apply ah|apply af)<;>intro a)
     refine⟨i - (k+1),by omega,trivial,k+1,rfl,by omega,?_⟩;simp only[lk,Nat.reduceEqDiff,if_false,if_true,A,d,f,o,u,and_self]
   ·have nX:k=i:=by omega
    subst nX;obtain⟨v,Zl,Vj,dB⟩:=M.out;have dH:(below t (k:Int)).length<n.set.length:=by omega
    have hltI:((below t (k:Int)).length:Int)<(n.set.length:Int):=by omega
    obtain⟨-,z,hN,hl,-⟩:=FR.out;have GD:=Ll c hl (λm hm=>by
     obtain⟨q,X,rfl⟩:=cF hm;have hq':=z.1 q X;have h1:=gn (b:=(List.range B.next.length).map λ(q:Nat)=>(q:Int)) (hq'.inc.imp λh=>by omega) λx hx=>by
      have:=hq'.tQ x hx;exact List.mem_map.2 ⟨x.toNat,List.mem_range.2 om,by omega⟩
     rw[List.length_map,List.length_range]at h1;omega) (k:Int)
    clear v Zl Vj dB z hN hl;repeat' (first|refine aH (aj @g @w) ?_|(first|apply ah|apply af)<;>intro a)
    refine cK ff GD wN ef λr hr qu=>⟨⟨fU (p:=.aO 0 2) (by simp only[Env.aB];exact ef) (iW g rfl) (by simp only[Env.aB];exact ef),trivial⟩,?_⟩;simp only[Env.aB];have fX:=hr.sl.len;repeat' (first|refine aH @fX ?_|(first|apply ah|apply af)<;>intro a)
    exact⟨.inr trivial,ef⟩
theorem Es {n c:LV}{B:Bu}{o p:LV}(hB:vo n B o p) (q:Vb B) {t:List Nd}{rs:List (Int × Int × LV)}(d:jK c t rs) (I:B.next.length<=30) (y:Tr B.next.length t) (hl:t.length<=B.next.length):PO 55 [n,c] (.bool true):=by
 have z:=hB.closed;have f:=lP hB;have g:=λ(i:Nat) (h:i<t.length)=>OM hB d om y om h;rw[decide_eq_true q]at f;clear q;obtain⟨rfl,hs,r⟩:=hB;have J:=hs.closed;have M:=r.closed;obtain⟨vs,u⟩:=r;have N:=hs.sl.cell;have O:=u.sl.cell;have v:=u.sl.len;have a:=d.sl.len;have A:=d.closed;have Q:=lG;refine gO (t:=4) hm Tryz.func55 br c55 bw (by simp[LV.closed.au,z,A]) rfl rfl ?_;refine mH λe C j=>?_;have D:(t.length:Int)<=(B.next.length:Int):=by omega
 unfold l55;dsimp only[jA,jC,qM,qL,qN,qF,qS,qA,qB,qC,qK,qO,qP,qT,qG,qm,qR];repeat' (first|refine aH (aj @a @v) ?_|(first|apply ah|apply af)<;>intro b)
 refine dx f ?_;clear f;repeat' (first|refine aH (aj @a @v) ?_|(first|apply ah|apply af)<;>intro b)
 refine aN (λm e s=>s=St.empty/\∃ k:Nat,m=t.length - k/\k<=t.length/\e.at 1=c/\e.at 2 = .aY [.int .i64 B.L,o,p] 0/\e.at 5 = .int .i64 (k:Int)) _ ⟨rfl,0,rfl,Nat.zero_le _,ef,ef,by simp only[lk,dM,Nat.reduceEqDiff,if_false,if_true];rfl⟩ ?_;clear C j;clear e;rintro m e s ⟨E,k,rfl,R,j,F,S⟩;subst E;by_cases H:k<t.length
 ·have T:(k:Int)<(t.length:Int):=by omega
  have w:=@bQ k om;have x:=g k H;clear g;repeat' (first|refine aH @a ?_|(first|apply ah|apply af)<;>intro b)
  refine dx x ?_;clear x;repeat' (first|refine aH @w ?_|(first|apply ah|apply af)<;>intro b)
  refine⟨t.length - (k+1),by omega,trivial,k+1,rfl,by omega,?_⟩;simp only[lk,dM,Nat.reduceEqDiff,if_false,if_true,w,j,F,and_self]
 ·clear g;repeat' (first|refine aH @a ?_|(first|apply ah|apply af)<;>intro b)
  exact⟨.inr trivial,ef⟩
theorem Eu {c:LV}{B:Bu}{i j:LV}(hB:vo c B i j) (a:Vb B):PO 28 [c] (.int .i64 ((2*B.next.length:Nat):Int)):=by
 have k:=hB.closed;have b:=lP hB;obtain⟨rfl,hs,d⟩:=hB;have o:=hs.closed;have p:=d.closed;obtain⟨vs,f⟩:=d;have g:=f.sl.len;have q:=hs.sl.cell;have r:=f.sl.cell;have m:=a.2.2.1;have h:IntKind.i64.wrap (2*(B.next.length:Int))=((2*B.next.length:Nat):Int):=by rw[wrap_i64 _ om om];rfl
 rw[decide_eq_true a]at b;clear a;refine gO (t:=2) hm Tryz.func28 br c28 bw (by simp[LV.closed.au,k]) rfl rfl ?_;refine pg λe u=>?_;unfold l28;dsimp only[jA,qN,qF,qS,qC,qO,qT,qG,qm,ql,qR];repeat' (first|refine aH @g ?_|(first|apply ah|apply af)<;>intro n)
 refine dx b ?_;clear b;repeat' (first|refine aH (aj @g @h) ?_|(first|apply ah|apply af)<;>intro n)
 exact⟨.inr trivial,by rw[<- h];exact ef⟩
theorem Et {m:LV}{B:Bu}{a A:LV}(hB:vo m B a A) (o:Vb B):PE 26 [m] (λv=>∃ rs,jK v (xj B) rs):=by
 have C:=hB.closed;have b:=lP hB;obtain⟨rfl,hs,p⟩:=hB;have D:=hs.closed;have J:=p.closed;obtain⟨vs,E⟩:=p;have q:=hs.sl.len;have r:=hs.sl.cell;have L:=E.sl.cell;rw[decide_eq_true o]at b;clear o;refine dS Tryz.func26 br c26 bw (by simp[LV.closed.au,C]) ?_;refine pg λe M=>?_;unfold l26;dsimp only[jA,jC,qL,qN,qF,qS,qO,qP,qH,qT,qX,qG,qm,ql,qR];have t:Bx (B.start=[]↔B.start.length=0):=⟨List.length_eq_zero_iff.symm⟩;repeat' (first|refine aH @q ?_|(first|apply ah|apply af)<;>intro u)
 refine dx b ?_;clear b;repeat' (first|refine aH @q ?_|(first|apply ah|apply af)<;>intro u)
 ·have F:cells? (.agg [.int .i64 1, .int .i64 (-1),a])=some [.int .i64 1, .int .i64 (-1),a]:=by
   have:[LV.int .i64 1, .int .i64 (-1),a].all bf=true:=by simp only[List.all_cons,List.all_nil,Bool.and_true,r];rfl
   simp only[cells?,this,if_true]
  have H:cells? a=some [a]:=by
   revert r;cases a<;>simp[bf,cells?]
  refine cC (vs:=[.int .i64 1, .int .i64 (-1),a]) wN (by simp only[bt,List.map,lk,dM,Nat.reduceEqDiff,if_false,if_true,List.map];simp[aU,H,splice,show ∀ (k:IntKind) (x:Int),cells? (.int k x)=some [.int k x] from λ_ _=>rfl]) ?_;refine iw (v:=.aE St.empty.n 0 1 3) (s':=St.empty.new (.cells .mut [.int .i64 1, .int .i64 (-1),a])) (by
   simp only[bq.run,bt,List.map,lk,dM,rH,Nat.reduceEqDiff,if_false,if_true,List.map];simp[aU,F,splice,rep]) ?_
  have w:ek (St.empty.new (.cells .mut [.int .i64 1, .int .i64 (-1),a])) (.aE St.empty.n 0 1 3) 3 [.int .i64 1, .int .i64 (-1),a] 1:=⟨rfl, .inr ⟨_,rfl,by omega,by simp,by rw[St.aA,if_pos rfl]⟩⟩;obtain⟨x,c,y⟩:=FV.row (T:=λ_=>True) (d:=0) w (by simp[LV.closed.au,LV.closed,D]) (λ_ _=>trivial);obtain⟨s',z,-⟩:=rS om c;generalize St.empty.new (.cells .mut [.int .i64 1, .int .i64 (-1),a])=s1 at *;have f:=Bx.mk (And.intro z (And.intro c y));clear z c y w;repeat' (first|refine aH trivial ?_|(first|apply ah|apply af)<;>intro u)
  refine⟨.inr trivial, .aE St.empty.n 0 1 3,by simp[aW,bD],x,s',f.out.1,f.out.2.1.closed,[(1,-1,a)],?_⟩;have dB:B.start≠[]:=λh=>by
   have:=t.out.1 h;omega
  have g:xj B=[⟨1,-1,B.start⟩]:=by unfold xj;rw[if_neg dB]
  rw[g];refine⟨by simpa[dm,eO] using f.out.2.2,rfl,by simp,λi j=>?_⟩;have I:i=0:=by simp at j;omega
  subst I;exact⟨rfl,rfl,hs,by unfold bU;simp,by unfold bU;simp⟩
 ·have dB:B.start=[]:=t.out.2 om;have g:xj B=[]:=by unfold xj;rw[if_pos dB]
  rw[g];refine⟨.inr trivial, .aq,by simp[aW,bD], .aq,_,bk rfl,rfl,[],?_⟩;exact⟨.nil,rfl,by simp,λi j=>absurd j (by simp)⟩
section
variable {P:Program}{G:bP}{K:Env->St->Prop}{l:List bC}{e:Env}{s:St}{fl MZ:Bool}
theorem JU {a b bytes aZ n:Nat}{x y:bF}{z:List LV}{xv yv:LV}{vs cells:List LV}{jT:List (Nat × Option (Nat × Bool) × bq)}(hx:x.ev e=xv) (u:cells? xv=some vs) (k:z.length=aZ) (c:vs.length=aZ) (w:kQ vs) (m:y.ev (Tr.set e a (.aE s.n 0 1 aZ))=yv) (hs:Sg s yv aZ cells n) (A:bytes<=2 ^ 10) (hl:n<=2 ^ 20)
 (B:dG jT (Tr.set e a (.aE s.n 0 1 aZ)) (s.new (.cells .mut vs)))
 (h:∀ s' j,s.n<=j->j<s'.n->s'.get j=some (.cells .mut (cells++vs))->s.n<=s'.n->(∀ id,id<s.n->¬ aQ yv id->s'.get id=s.get id)->W P G K l (Tr.set (Tr.set e a (.aE s.n 0 1 aZ)) b (.aE j 0 (n+1) aZ)) s') :
 W P G K (⟨some a, .bu aZ 1 z [(0,(aZ,x))],none,jT,fl⟩::⟨some b, .append aZ bytes y (.t a),none,[],MZ⟩::l) e s:=by
 have C:aU (rep 1 z) (bt e [(0,(aZ,x))])=some vs:=by
  have h1:splice z 0 vs=vs:=lK (vs:=vs) (z:=z) (by rw[k,c]);have D:rep 1 z=z:=by simp[rep]
  simp only[bt,List.map,D,aU,hx,u,c];rw[if_pos ⟨trivial,by rw[k];omega⟩,h1]
 refine j7 (v:=.aE s.n 0 1 aZ) (s':=s.new (.cells .mut vs)) rfl (by simp only[bq.run,C,Option.bind_eq_bind,Option.bind_some]) (by cases fl<;>rfl) (by simp only[Env.aB];exact B) ?_;simp only[Env.aB];have o:rowOf (s.new (.cells .mut vs)) aZ 1 (.aE s.n 0 1 aZ)=some vs:=by
  simp only[rowOf,St.aA,if_true,Nat.le_refl,Nat.one_mul,Nat.zero_add,c,and_self,List.drop_zero];rw[List.take_of_length_le om]
 have p:=w (s.new (.cells .mut vs));have q:(n+1)*bytes<=big:=by
  have:(n+1)*bytes<=(2 ^ 20+1)*2 ^ 10:=Nat.mul_le_mul om A;unfold big;omega
 obtain⟨d,hs⟩:=hs;have I:(cells++vs).length=(n+1)*aZ:=by rw[List.length_append,d,c,Nat.add_mul,Nat.one_mul]
 rcases hs with⟨rfl,rfl⟩ | ⟨j,r,rfl,h2,h3⟩
 ·have E:cells=[]:=List.length_eq_zero_iff.1 (by rw[d,Nat.zero_mul]);subst E;have f:bT aZ bytes .aq vs 1 (s.new (.cells .mut vs))=some (.aE (s.n+1) 0 1 aZ,(s.new (.cells .mut vs)).new (.cells .mut vs)):=by
   simp only[bT];rw[if_neg om,if_pos ⟨by simpa using q,by rw[c];omega⟩];rfl
  refine eD rfl m (by simp) rfl o p f ?_;have g:((s.new (.cells .mut vs)).new (.cells .mut vs)).get (s.n+1)=some (.cells .mut ([]++vs)):=by rw[St.aA,St.fW,if_pos rfl];rfl
  refine h _ (s.n+1) om (by simp) g (by simp;omega) λid F _=>?_;rw[St.aA,St.fW,if_neg om,St.aA,if_neg om]
 ·have g:(s.new (.cells .mut vs)).get j=some (.cells .mut (cells++r)):=by rw[St.aA,if_neg om];exact h3
  have i:n*aZ<=(cells++r).length:=by rw[List.length_append,d];omega
  have f:bT aZ bytes (.aE j 0 n aZ) vs 1 (s.new (.cells .mut vs))=some (.aE (s.n+1) 0 (n+1) aZ,((s.new (.cells .mut vs)).put j (.cells .ro [])).new (.cells .mut (cells++vs))):=by
   simp only[bT,if_true,g,Nat.zero_add,i,q,c,Nat.one_mul,and_self,List.drop_zero];rw[List.take_append_of_le_length om,List.take_of_length_le om];rfl
  refine eD rfl m (by simp) rfl o p f ?_;refine h _ (s.n+1) om (by simp) (by rw[St.aA,St.eo,St.fW,if_pos rfl]) (by simp;omega) λid F H=>?_;have dB:id≠j:=λe=>H (aI.2 e);rw[St.aA,St.eo,St.fW,if_neg om,St.az,if_neg dB,St.aA,if_neg om]
end
theorem TM.snoc {s s':St}{j a:Nat}{t:List Nd}{rs:List (Int × Int × LV)}(h:TM s j t rs) {r:Int × Int × LV}{n:Nd}(b:vM r n) (c:s'.get a=some (.cells .mut (dm eO rs++eO r))) (d:a<s'.n) (hl:t.length+1<=3000):TM s' a (t++[n]) (rs++[r]) :=
 ⟨by rw[gh,oq];exact c,d,by rw[List.length_append,List.length_append,h.len];rfl,by rw[List.length_append];exact hl,ET h.len h.nd b⟩
theorem TM.kS {s s':St}{j:Nat}{t:List Nd}{rs:List (Int × Int × LV)}(h:TM s j t rs) {i:Nat}(f:i<t.length) {v:LV}{S:List Int}(c:aP v S) (g:s'.n=s.n) (d:s'.get j=some (.cells .mut (dm eO (rs.set i ((rs.getD i default).1,(rs.getD i default).2.1,v))))):TM s' j (t.set i { t.getD i default with set:=S }) (rs.set i ((rs.getD i default).1,(rs.getD i default).2.1,v)):=by
 refine⟨d,by have:=h.lt;omega,by rw[List.length_set,List.length_set,h.len],by rw[List.length_set];exact h.lim,λk b=>?_⟩;rw[List.length_set]at b;have a:=h.nd k b;by_cases e:k=i
 ·subst e;have h1:(rs.set k ((rs.getD k default).1,(rs.getD k default).2.1,v)).getD k default=((rs.getD k default).1,(rs.getD k default).2.1,v):=by simp[gD,h.len,b]
  have h2:(t.set k { t.getD k default with set:=S }).getD k default = { t.getD k default with set:=S } := by simp[gD,b]
  rw[h1,h2];exact⟨a.name,a.par,c,a.nr,a.pr⟩
 ·have h1:(rs.set i ((rs.getD i default).1,(rs.getD i default).2.1,v)).getD k default=rs.getD k default:=by simp[gD,List.getElem?_set_ne (Ne.symm e)]
  have h2:(t.set i { t.getD i default with set:=S }).getD k default=t.getD k default:=by simp[gD,List.getElem?_set_ne (Ne.symm e)]
  rw[h1,h2];exact a
theorem gt_old {N:Nat}{mv:Nat->Mv}{t:List Nd}{k:Nat}(h:k<t.length):((grown N mv t).map fO).take (k+1)=((grown N mv t).map fO).take k++[⟨(t.getD k default).name,(t.getD k default).par,Go.pR.canon N (vz mv (t.getD k default).set λ_=>true)⟩]:=by
 rw[take_one _ default (by rw[List.length_map,fh];omega),getD_map (by rw[fh];omega),kJ h];rfl
theorem gt_new {N:Nat}{mv:Nat->Mv}{t:List Nd}{k:Nat}(h:k<t.length):((grown N mv t).map fO).take (t.length+k+1)=((grown N mv t).map fO).take (t.length+k)++[⟨0,(k:Int),Go.pR.canon N (vz mv (t.getD k default).set λm=>m.2)⟩]:=by
 rw[take_one _ default (by rw[List.length_map,fh];omega),getD_map (by rw[fh];omega),ni h];rfl
theorem m0_eq (l:List Gn):(λk=>!decide (((aD l).getD k default).kept=[]))=Mk l 0:=funext λk=>by
 unfold Mk;have:¬ ∃ a,a<0/\An (Lk l) a k/\(Cl l a).bO=true:=λ⟨a,h,_⟩=>by omega
 rw[decide_eq_false this];simp
theorem uO {l:List Gn}{c:Nat}(h:∀ n∈l,n.kept.length<=c):∀ n∈aD l,n.kept.length<=c:=λn b=>by
 obtain⟨d,m,hm,rfl⟩:=vJ b;have a:=h m hm;show (eW d m).length<=c;unfold eW;split
 ·exact Nat.le_trans (List.length_filter_le _ _) a
 ·exact a
abbrev Ns (G:List Gn) (i:Nat):List Nd:=((aD G).take i).map fO++(G.drop i).map fO
theorem Jx {G:List Gn}{i:Nat}(h:i<=G.length):(Ns G i).length=G.length:=by
 rw[List.length_append,List.length_map,List.length_map,List.length_take,List.length_drop,bR];omega
theorem Jy {G:List Gn}{i:Nat}(h:i<G.length):(Ns G i).getD i default=fO (G.getD i default):=by
 have hl:(((aD G).take i).map fO).length=i:=by rw[List.length_map,List.length_take,bR];omega
 rw[Go.pR.bZ om,hl,Nat.sub_self,getD_map (by rw[List.length_drop];omega)];simp[gD]
theorem Ti {G:List Gn}{i:Nat}(h:i<G.length):(Ns G i).set i { (Ns G i).getD i default with set:=((aD G).getD i default).kept } = Ns G (i+1):=by
 have hl:(((aD G).take i).map fO).length=i:=by rw[List.length_map,List.length_take,bR];omega
 rw[Jy h];show (_++(G.drop i).map fO).set i _=_;rw[List.map_drop,JE hl (by rw[List.length_map];exact h)];have e:({ fO (G.getD i default) with set:=((aD G).getD i default).kept } : Nd)=fO ((aD G).getD i default):=by
  unfold fO;simp only;rw[rA h,fY h]
 rw[e];show _=((aD G).take (i+1)).map fO++(G.drop (i+1)).map fO;rw[take_one _ default (by rw[bR];exact h),List.map_append,List.map_drop];rfl
theorem D3 {G:List Gn}{c i:Nat}(h:∀ n∈G,n.kept.length<=c):∀ n∈Ns G i,n.set.length<=c:=λn a=>by
 rcases List.mem_append.1 a with a | a
 ·obtain⟨m,hm,rfl⟩:=List.mem_map.1 a;exact uO h m (List.mem_of_mem_take hm)
 ·obtain⟨m,hm,rfl⟩:=List.mem_map.1 a;exact h m (List.mem_of_mem_drop hm)
theorem Tj (G:List Gn):Ns G G.length=Lk G:=by
 show ((aD G).take G.length).map fO++(G.drop G.length).map fO=_;rw[List.drop_length,List.map_nil,List.append_nil,List.take_of_length_le (by rw[bR];exact Nat.le_refl _)]
theorem HE {DS tv:LV}{B:Bu}{Y Z:LV}(hB:vo DS B Y Z) (hv:Vb B) (hN:B.next.length<=10) {t:List Nd}{Hp:List (Int × Int × LV)}(J:jK tv t Hp) {a:Nat}(ha:(a:Int)<B.L) (fC:EP B t) :
 PE 29 [DS,tv, .int .i64 (a:Int)] (λr=>∃ DB gv A rs,r = .cE [DB, .agg [gv,A]]/\jK DB (kz B t a) rs/\aP gv (Ap B t a)/\aP A (Aq B t a)):=by
 have bV:=hB.closed;have BL:=J.closed;have dy:=Es hB hv J om fC.2 fC.1;have q7:=fC.2;have htl0:=fC.1;have Vx:=hv.2.1;have ct:∀ q,q<B.next.length->a<(B.next.getD q []).length:=λq hq=>by
  have:=(hv.2.2.2.2 q hq).1;omega
 have hto:∀ q x b,(x,b)∈fQ B q a->0<=x/\x<(B.next.length:Int):=λq x b h=>Ud hv om h;have yS:=λ(vu:LV) (set:List Int) (h1:aP vu set) (h2:∀ x∈set,0<=x/\x<(B.next.length:Int)) (w:Bool)=>Lw hB om h1 (a:=a) (tU:=w) h2 ct hto;have KA:∀ n∈t,∀ x∈n.set,0<=x/\x<(B.next.length:Int):=λn T x hx=>by
  obtain⟨i,H,rfl⟩:=cF T;exact (q7.1 i H).tQ x hx
 have D:kz B t a=Go.pR.step B.next.length (λq=>fQ B q a) t/\Ap B t a=evG B.next.length (λq=>fQ B q a) t/\Aq B t a=evB B.next.length (λq=>fQ B q a) t:=by simp[kz,Ap,Aq,fC]
 have O:=B1 (mv:=λq=>fQ B q a) q7;have U:=LB (mv:=λq=>fQ B q a) q7;have V:=IL (mv:=λq=>fQ B q a) q7;have DO:=Nk (mv:=λq=>fQ B q a) q7;have X:=A6 (N:=B.next.length) (mv:=λq=>fQ B q a) (t:=t);have gL:=λk (h:k<t.length)=>gt_old (N:=B.next.length) (mv:=λq=>fQ B q a) h;have FK:=λk (h:k<t.length)=>gt_new (N:=B.next.length) (mv:=λq=>fQ B q a) h;have Vy:(grown B.next.length (λq=>fQ B q a) t).length=2*t.length:=fh;have gq:∀ x∈t.map (·.name),x<=((2*B.next.length:Nat):Int):=λx hx=>by
  obtain⟨n,T,rfl⟩:=List.mem_map.1 hx;obtain⟨i,H,rfl⟩:=cF T;have:=(q7.1 i H).name.2.1;omega
 have wH:∀ n∈grown B.next.length (λq=>fQ B q a) t,n.kept.length<=3000:=λn T=>by
  obtain⟨i,H,rfl⟩:=cF T;rcases iq H with e | ⟨k,hk,rfl⟩
  ·rw[kJ e];have:=lq B.next.length (vz (λq=>fQ B q a) (t.getD i default).set λ_=>true);show (Go.pR.canon _ _).length<=3000;omega
  ·rw[ni hk];have:=lq B.next.length (vz (λq=>fQ B q a) (t.getD k default).set λm=>m.2);show (Go.pR.canon _ _).length<=3000;omega
 have hgin:∀ x∈cR (cW B.next.length (λq=>fQ B q a) t),bU x:=λx hx=>by
  obtain⟨i,H,-,-,rfl⟩:=(L4 O).1 hx;have:=(q7.1 i H).name;constructor<;>omega
 have hginB:=Bx.mk hgin;clear hgin;unfold kz Ap Aq at D;obtain⟨rfl,hs,T⟩:=hB;have m9:=hs.closed;have mD:=T.closed;obtain⟨vs,fI⟩:=T;have mJ:=hs.sl.cell;have nW:=fI.sl.cell;have kn:=J.sl.len;have je:=lG;refine dS Tryz.func29 br c29 bw (by simp[LV.closed.au,LV.closed,BL,m9,mD]) ?_;refine ev3 λe e0 e1 e2=>?_;generalize W3:(λq=>fQ B q a)=mv at *;have Zp:=Bx.mk W3;have FR:=Bx.mk (And.intro D (And.intro O (And.intro U (And.intro V (And.intro DO (And.intro X (And.intro gq wH)))))));have qE:=Bx.mk (And.intro gL (And.intro FK Vy));have w6:=Bx.mk (And.intro q7 (And.intro KA yS));have NC:=Bx.mk hv;clear D O U V DO X gL FK Vy gq q7 KA yS ct hto hv W3 wH;unfold l29;dsimp only[jA,jB,jC,jG,qM,qL,qN,qF,qS,qI,qA,qB,qC,qO,qP,qU,qW,qJ,qT,qD,qX,qG,qm,ql,qR];repeat' (first|refine aH trivial ?_|(first|apply ah|apply af)<;>intro g)
 refine dx dy ?_;clear dy;repeat' (first|refine aH trivial ?_|(first|apply ah|apply af)<;>intro g)
 generalize hGG:grown B.next.length mv t=G at *;have sy:((St.empty.new (.cells .mut [.aq, .aq])).new (.cells .mut [])).get 0=some (.cells .mut [.aq, .aq]):=by rw[St.aA,if_neg (by simp[bJ]),St.aA,if_pos (by simp[bJ])]
 have hT0:TM ((St.empty.new (.cells .mut [.aq, .aq])).new (.cells .mut [])) 1 ((G.map fO).take 0) []:=⟨by rw[St.aA,if_pos (by simp[bJ])];rfl,by simp[bJ],rfl,by simp,λi H=>by simp at H⟩;generalize (St.empty.new (.cells .mut [.aq, .aq])).new (.cells .mut [])=s0 at *;have fy:(λm:Int × Bool=>m.2 || !false)=λ_=>true:=by funext m;simp
 have lJ:(λm:Int × Bool=>m.2 || !true)=λm=>m.2:=by funext m;simp
 have Is:∀ s:St,cz (some 3) (.aY [.int .i64 B.L,Y,Z] 0) s=some (.agg [.int .i64 B.L,Y,Z]):=λs=>rM rfl rfl;have htl30:t.length<=10:=by omega
 refine aN (λm e s=>∃ (k d:Nat) (E:List (Int × Int × LV)),m=t.length - k/\k<=t.length/\(s.get 0=some (.cells .mut [.aq, .aq])/\TM s d ((G.map fO).take k) E/\0<d)/\e.at 1=tv/\e.at 2 = .int .i64 (a:Int)/\e.at 3 = .aY [.int .i64 B.L,Y,Z] 0/\e.at 7 = .aO 0 0/\e.at 8 = .aE d 0 k 3/\e.at 9 = .int .i64 (k:Int)) _
  ⟨0,1,[],rfl,Nat.zero_le _,⟨sy,hT0,by omega⟩,ef,ef,ef,ef,ef,by simp only[lk,dM,Nat.reduceEqDiff,if_false,if_true];rfl⟩ ?_
 clear e0 e1 e2 sy hT0;clear e s0;rintro m e s ⟨k,d,E,rfl,hk,F,e1,e2,e3,e7,e8,e9⟩;by_cases I:k<t.length
 ·have iN:(k:Int)<(t.length:Int):=by omega
  have cD:=@bQ k om;obtain⟨g0,g1,g2,Df⟩:=gZ J.len J.nd I;have hndk:=J.nd k I;have Q:=w6.out.2.2 _ _ Df (w6.out.2.1 _ (fK I)) false;have gL:=qE.out.1 k I;rw[fy]at Q;have FE:((G.map fO).take k).length=k:=by rw[List.length_take,List.length_map];have:=qE.out.2.2;omega
  generalize (Hp.getD k default).2.2=xv at *;have C9:=Bx.mk (And.intro hndk (And.intro gL (And.intro F FE)));have zc:=F.2.1.lt;clear hndk gL F FE;generalize t.getD k default=n at *;repeat' (first|refine aG (aj (@cU _ _ _ J.sl) (aj @g0 (aj @g1 @g2))) ?_|(first|apply ah|apply af)<;>intro g)
  refine cK ff Q wN ef λr QD qu=>⟨⟨fU (p:=.aY (dm eO Hp) (k*3)) (v:=.int .i64 n.name) (by simp only[Env.aB];exact ef) (iX g0) (by simp only[Env.aB];exact ef),fU (p:=.aY (dm eO Hp) (k*3+1)) (v:=.int .i64 n.par) (by simp only[Env.aB];exact ef) (iX g1) (by simp only[Env.aB];exact ef),trivial⟩,?_⟩;simp only[Env.aB];have tG:=QD.sl.cell;refine cC (vs:=[.int .i64 n.name, .int .i64 n.par,r]) wN (by
   simp only[bt,List.map,lk,dM,Nat.reduceEqDiff,if_false,if_true,List.map];simp[aU,fq,g6 QD.sl,splice]) ?_
  refine JU (n:=k) (aZ:=3) (xv:=.agg [.int .i64 n.name, .int .i64 n.par,r]) (yv:=.aE d 0 k 3) (vs:=[.int .i64 n.name, .int .i64 n.par,r]) (cells:=dm eO E) ef (n8 _ _ tG) rfl rfl (kQ.closed (by simp[LV.closed.au,LV.closed,qu])) ef ⟨by rw[eN fN,C9.out.2.2.1.2.1.len,C9.out.2.2.2], .inr ⟨d,[],rfl,zc,by rw[List.append_nil];exact C9.out.2.2.1.2.1.get⟩⟩ (by decide) om ⟨fU (p:=.aY (dm eO Hp) (k*3)) (v:=.int .i64 n.name) ef (iX g0) ef,fU (p:=.aY (dm eO Hp) (k*3+1)) (v:=.int .i64 n.par) ef (iX g1) ef,fU (p:=.aY [.int .i64 B.L,Y,Z] 0) (v:=.agg [.int .i64 B.L,Y,Z]) ef (Is _) ef,fU (p:=.aY (dm eO Hp) (k*3+2)) (v:=xv) ef (iX g2) ef,trivial⟩ (λR C a1 a2 a3 a5 a6=>?_);have hF:Bx (R.get 0=some (.cells .mut [.aq, .aq])/\TM R C ((G.map fO).take (k+1)) (E++[(n.name,n.par,r)])/\0<C):=⟨by
   obtain⟨b1,b2,⟨b3,b4,b5⟩,b6⟩:=C9.out;refine⟨(a6 0 om λhu=>by have:=aI.1 hu;omega).trans b3,?_,by omega⟩;rw[b2];refine b4.snoc (r:=(n.name,n.par,r)) ⟨rfl,rfl,QD,b1.nr,b1.pr⟩ a3 a2 (by rw[b6];omega)⟩
  clear a3 a6;repeat' (first|refine aG @cD ?_|(first|apply ah|apply af)<;>intro g)
  refine⟨t.length - (k+1),by omega,k+1,C,_,rfl,by omega,hF.out,?_⟩;simp only[lk,dM,Nat.reduceEqDiff,if_false,if_true,cD,e1,e2,e3,e7,and_self]
 have nX:k=t.length:=by omega
 subst nX;have ko:=Bx.mk F;clear F I hk;repeat' (first|refine aG @kn ?_|(first|apply ah|apply af)<;>intro g)
 refine aN (λm e s=>∃ (k d:Nat) (E:List (Int × Int × LV)),m=t.length - k/\k<=t.length/\(s.get 0=some (.cells .mut [.aq, .aq])/\TM s d ((G.map fO).take (t.length+k)) E/\0<d)/\e.at 1=tv/\e.at 2 = .int .i64 (a:Int)/\e.at 3 = .aY [.int .i64 B.L,Y,Z] 0/\e.at 7 = .aO 0 0/\e.at 8 = .aE d 0 (t.length+k) 3/\e.at 10 = .int .i64 (k:Int)) _
  ⟨0,d,E,rfl,Nat.zero_le _,ko.out,ef,ef,ef,ef,ef,by simp only[lk,Nat.reduceEqDiff,if_false,if_true];rfl⟩ ?_
 clear e1 e2 e3 e7 e8 e9 ko;clear e s d E;rintro m e s ⟨k,d,E,rfl,hk,F,e1,e2,e3,e7,e8,gW⟩;by_cases I:k<t.length
 ·have iN:(k:Int)<(t.length:Int):=by omega
  have cD:=@bQ k om;obtain⟨g0,g1,g2,Df⟩:=gZ J.len J.nd I;have Q:=w6.out.2.2 _ _ Df (w6.out.2.1 _ (fK I)) true;have FK:=qE.out.2.1 k I;rw[lJ]at Q;have FE:((G.map fO).take (t.length+k)).length=t.length+k:=by rw[List.length_take,List.length_map];have:=qE.out.2.2;omega
  generalize (Hp.getD k default).2.2=xv at *;have C9:=Bx.mk (And.intro FK (And.intro F FE));have zc:=F.2.1.lt;clear FK F FE;generalize t.getD k default=n at *;repeat' (first|refine aG (aj (@cU _ _ _ J.sl) @g2) ?_|(first|apply ah|apply af)<;>intro g)
  refine cK ff Q wN ef λr QD qu=>⟨trivial,?_⟩;simp only[Env.aB];have tG:=QD.sl.cell;refine cC (vs:=[.int .i64 0, .int .i64 (k:Int),r]) wN (by
   simp only[bt,List.map,lk,Nat.reduceEqDiff,if_false,if_true,List.map];simp[aU,fq,g6 QD.sl,splice]) ?_
  refine JU (n:=t.length+k) (aZ:=3) (xv:=.agg [.int .i64 0, .int .i64 (k:Int),r]) (yv:=.aE d 0 (t.length+k) 3) (vs:=[.int .i64 0, .int .i64 (k:Int),r]) (cells:=dm eO E) ef (n8 _ _ tG) rfl rfl (kQ.closed (by simp[LV.closed.au,LV.closed,qu])) ef ⟨by rw[eN fN,C9.out.2.1.2.1.len,C9.out.2.2], .inr ⟨d,[],rfl,zc,by rw[List.append_nil];exact C9.out.2.1.2.1.get⟩⟩ (by decide) om ⟨fU (p:=.aY [.int .i64 B.L,Y,Z] 0) (v:=.agg [.int .i64 B.L,Y,Z]) ef (Is _) ef,fU (p:=.aY (dm eO Hp) (k*3+2)) (v:=xv) ef (iX g2) ef,trivial⟩ (λR C a1 a2 a3 a5 a6=>?_);have hF:Bx (R.get 0=some (.cells .mut [.aq, .aq])/\TM R C ((G.map fO).take (t.length+(k+1))) (E++[(0,(k:Int),r)])/\0<C):=⟨by
   obtain⟨b2,⟨b3,b4,b5⟩,b6⟩:=C9.out;refine⟨(a6 0 om λhu=>by have:=aI.1 hu;omega).trans b3,?_,by omega⟩;rw[<- Nat.add_assoc,b2];refine b4.snoc (r:=(0,(k:Int),r)) ⟨rfl,rfl,QD,(by constructor<;>omega:bU (0:Int)),(by constructor<;>omega:bU (k:Int))⟩ a3 a2 (by rw[b6];omega)⟩
  clear a3 a6;repeat' (first|refine aG @cD ?_|(first|apply ah|apply af)<;>intro g)
  refine⟨t.length - (k+1),by omega,k+1,C,_,rfl,by omega,hF.out,?_⟩;simp only[lk,Nat.reduceEqDiff,if_false,if_true,cD,e1,e2,e3,e7,and_self,Nat.add_assoc]
 have nX:k=t.length:=by omega
 subst nX;obtain⟨D,O,U,V,DO,X,gq,wH⟩:=FR.out;have Vy:G.length=t.length+t.length:=by have:=qE.out.2.2;omega
 have hTM:TM s d (Ns G 0) E:=by
  have:=F.2.1;rw[List.take_of_length_le (by rw[List.length_map];omega)]at this;exact this
 have hj0:=F.2.2;have AP:=F.1;have zc:=hTM.lt;have S:=Bx.mk (And.intro D (And.intro O (And.intro U (And.intro V (And.intro DO (And.intro X (And.intro gq wH)))))));have hQ2:=Bx.mk (And.intro hTM AP);have jS:=Bx.mk Vy;clear F hTM AP D O U V DO X gq wH FR qE w6 Vy I hk hGG;generalize hM:t.length+t.length=M at *;have hM20:M<=20:=by omega
 have MO:=Bx.mk hM;clear hM;repeat' (first|refine aG @kn ?_|(first|apply ah|apply af)<;>intro g)
 refine D1 (n:=M) (k:=s.n) wN rfl ef ef om ?_;repeat' (first|refine aG @kn ?_|(first|apply ah|apply af)<;>intro g)
 refine aN (λm e s3=>∃ (i:Nat) (y:List (Int × Int × LV)),m=M - i/\i<=M/\(s3.get 0=some (.cells .mut [.aq, .aq])/\TM s3 d (Ns G i) y/\s3.get s.n=some (.cells .mut (cJ M λj=>decide (j<i) && !decide (((aD G).getD j default).kept=[])))/\s.n<s3.n)/\e.at 1=tv/\e.at 7 = .aO 0 0/\e.at 8 = .aE d 0 M 3/\e.at 11 = .aE s.n 0 M 1/\e.at 12 = .int .i64 (i:Int)) _
  ⟨0,E,rfl,Nat.zero_le _,⟨by rw[St.aA,if_neg om];exact hQ2.out.2,hQ2.out.1.keep (by simp) (by rw[St.aA,if_neg om]),by rw[St.aA,if_pos rfl];simp,by simp⟩,ef,ef,ef,ef,by simp only[lk,Nat.reduceEqDiff,if_false,if_true];rfl⟩ ?_
 clear e1 e2 e3 e7 e8 gW hQ2;clear e;rintro m e s3 ⟨i,y,rfl,H,hJ,e1,e7,e8,n6,AW⟩;have Vy:=jS.out;by_cases cy:i<M
 ·have iQ:(i:Int)<(M:Int):=by omega
  have dO:=@bQ i om;have hTl:(Ns G i).length=M:=by rw[Jx om];omega
  have Mt:=S.out.2.1.pw i om;have htg:=Jy (G:=G) (i:=i) om;have BL:=Lp hJ.2.1 (D3 (i:=i) S.out.2.2.2.2.2.2.2) (i:=i) om (λh=>by
   rw[htg];exact Mt.2 h)
  rw[Tw S.out.2.1 om,hTl]at BL;have cS:=Ti (G:=G) (i:=i) om;have DR:=Bx.mk hJ;have GF:=Bx.mk (And.intro cS hTl);have tS:=hJ.2.2.2;clear hJ cS Mt htg hTl Vy;repeat' (first|refine aG trivial ?_|(first|apply ah|apply af)<;>intro g)
  refine bK wN (fv:=.fn (.func 57) [] []) (vs:=[.aE d 0 M 3, .int .i64 (i:Int)]) rfl ef (aM.mono BL λr s4 hh=>⟨trivial,?_⟩);obtain⟨Q,od,fD⟩:=hh;simp only[Env.aB];clear BL;have Ai:=DR.out.2.1.keep od (fD d DR.out.2.1.lt);have nY:=Ai.get;have lZ:y[i]? = some (y.getD i default):=by rw[gD,gE (by rw[Ai.len,GF.out.2];omega)];rfl
  have Am:=Bx.mk (And.intro Ai fD);clear Ai fD;repeat' (first|refine aG @eF ?_|(first|apply ah|apply af)<;>intro g)
  refine dJ fN (i:=i) (k:=2) (c:=y.getD i default) (c':=((y.getD i default).1,(y.getD i default).2.1,r)) (rest:=[]) (v:=r) ef om ef (g6 Q.sl) (by rw[List.append_nil];exact nY) lZ (by decide) rfl (λR vI qQ eL=>?_);rw[List.append_nil]at qQ;have NN:=Am.out.1.kS (s':=R) (i:=i) (by rw[GF.out.2];omega) Q vI qQ;rw[GF.out.1]at NN;have hTl5:(Ns G (i+1)).length=M:=by rw[Jx (by have:=jS.out;omega)];exact jS.out
  obtain⟨-,-,l5,-⟩:=NN.ld (i:=i) om;have hrs5:(y.set i ((y.getD i default).1,(y.getD i default).2.1,r)).getD i default=((y.getD i default).1,(y.getD i default).2.1,r):=by
   have:i<y.length:=(List.getElem?_eq_some_iff.1 lZ).1;simp[gD,this]
  rw[hrs5]at l5;simp only at l5;have fX:=Q.sl.len;have hL5:R.get s.n=some (.cells .mut (cJ M λj=>decide (j<i) && !decide (((aD G).getD j default).kept=[]))):=by
   rw[eL _ om,Am.out.2 _ tS];exact DR.out.2.2.1
  have IK:R.get 0=some (.cells .mut [.aq, .aq]):=by
   rw[eL _ om,Am.out.2 _ om];exact DR.out.1
  have gV:∀ b:Bool,b = !decide (((aD G).getD i default).kept=[])->∀ o,(decide (o<i+1) && !decide (((aD G).getD o default).kept=[]))=if o=i then b else (decide (o<i) && !decide (((aD G).getD o default).kept=[])):=λb hb o=>by
   by_cases h:o=i
   ·subst h;rw[hb];simp
   ·have:(o<i+1)↔o<i:=by omega
    simp[h,this]
  have Ve:((aD G).getD i default).kept=[]↔((aD G).getD i default).kept.length=0:=List.length_eq_zero_iff.symm;have u:=Bx.mk (And.intro NN (And.intro IK (And.intro gV Ve)));clear NN IK gV Ve hrs5 qQ eL Am lZ nY hTl5;generalize hKl:((aD G).getD i default).kept.length=kl at *;have DQ:=Bx.mk hKl;clear hKl;repeat' (first|refine aG (aj @eF (aj @l5 @fX)) ?_|(first|apply ah|apply af)<;>intro g)
  all_goals
   first
    | refine lR (q:=i) (b:=true) (f':=λo=>decide (o<i+1) && !decide (((aD G).getD o default).kept=[])) ef ef hL5 cy (u.out.2.2.1 true (by
     have h0:¬ ((aD G).getD i default).kept=[]:=λh=>by have:=u.out.2.2.2.1 h;have:=DQ.out;omega
     rw[decide_eq_false h0];rfl)) λs6 h1 h2 h3=>?_
    | refine lR (q:=i) (b:=false) (f':=λo=>decide (o<i+1) && !decide (((aD G).getD o default).kept=[])) ef ef hL5 cy (u.out.2.2.1 false (by
     have h0:((aD G).getD i default).kept=[]:=u.out.2.2.2.2 (by have:=DQ.out;omega);rw[decide_eq_true h0];rfl)) λs6 h1 h2 h3=>?_
   have hF:Bx (s6.get 0=some (.cells .mut [.aq, .aq])/\TM s6 d (Ns G (i+1)) (y.set i ((y.getD i default).1,(y.getD i default).2.1,r))/\s6.get s.n=some (.cells .mut (cJ M λo=>decide (o<i+1) && !decide (((aD G).getD o default).kept=[])))/\s.n<s6.n):=⟨⟨(h3 0 om).trans u.out.2.1,u.out.1.keep om (h3 d om),h2,by omega⟩⟩;clear h2 h3;repeat' (first|refine aG @dO ?_|(first|apply ah|apply af)<;>intro g)
   refine⟨M - (i+1),by omega,i+1,_,rfl,by omega,hF.out,?_⟩;simp only[lk,Nat.reduceEqDiff,if_false,if_true,dO,e1,e7,e8,n6,and_self]
 ·have Af:i=M:=by omega
  subst Af;obtain⟨D,O,U,V,DO,X,gq,wH⟩:=S.out;obtain⟨AP,IF,Xo,sx⟩:=hJ;rw[<- Vy,Tj]at IF;have hLk:(Lk G).length=i:=qp.trans Vy;have hL3':s3.get s.n=some (.cells .mut (cJ (Lk G).length λk=>!decide (((aD G).getD k default).kept=[]))):=by
   rw[Xo,hLk];congr 2;exact uW λo hjj=>by rw[decide_eq_true hjj,Bool.true_and]
  have hwf:=Km O;have bV:ClP (Lk G) λk=>!decide (((aD G).getD k default).kept=[]):=by rw[m0_eq];exact Wz O 0
  have hkw:=Kn hwf bV;have NM:=Bj IF hL3' sx hwf;have I:(kp (Lk G) λk=>!decide (((aD G).getD k default).kept=[])).length<=30:=by
   rw[tE,hLk];have:=CC (λk=>!decide (((aD G).getD k default).kept=[])) i;omega
  have Iu:∀ n∈kp (Lk G) (λk=>!decide (((aD G).getD k default).kept=[])),n.set.length<=3000:=BI λn T=>by
   obtain⟨m,hm,rfl⟩:=List.mem_map.1 T;exact uO wH m hm
  have sK:=ON O (Nat.le_refl _);rw[hLk]at NM;generalize (kp (Lk G) λk=>!decide (((aD G).getD k default).kept=[]))=K at *;have hQ3:=Bx.mk (And.intro D (And.intro U (And.intro V (And.intro DO (And.intro X gq)))));have hg0B:=Bx.mk AP;have DQ:=Bx.mk (And.intro hkw (And.intro Iu sK));clear D O U V DO X gq wH S IF Xo hL3' hwf bV hkw Iu sK AP hLk;repeat' (first|refine aG trivial ?_|(first|apply ah|apply af)<;>intro g)
  refine bK wN (fv:=.fn (.func 59) [] []) (vs:=[.aE d 0 i 3, .aE s.n 0 i 1]) rfl ef (aM.mono NM λr s4 hh=>⟨trivial,?_⟩);obtain⟨j4,rs4,rfl,hj4,Ai,od,fD⟩:=hh;simp only[Env.aB];clear NM;have ng:=Hv Ai DQ.out.1 I DQ.out.2.1 DQ.out.2.2;repeat' (first|refine aG trivial ?_|(first|apply ah|apply af)<;>intro g)
  refine bK wN (fv:=.fn (.func 58) [] []) (vs:=[.aE j4 0 K.length 3]) rfl ef (aM.mono ng λr R hh=>⟨trivial,?_⟩);obtain⟨C,rs5,gv,rfl,hl5,hgl5,NN,hS5,hU5,ZD,vI,eL⟩:=hh;simp only[Env.aB];clear ng;have hj5l:=NN.lt;have DK:=Ht J NN (f:=2*B.next.length) om hQ3.out.2.2.2.2.2;have ZH:R.get 0=some (.cells .mut [.aq, .aq]):=by rw[eL 0 om,fD 0 om];exact hg0B.out
  have hj50:C≠0:=λe=>by
   subst e;have h:=NN.get;rw[ZH]at h;have h2:=congrArg (λb:Option jU=>match b with | some (.cells _ cs)=>cs.length | _=>0) h;simp only[eN fN]at h2;simp at h2;omega
  have hgok:∀ x∈cR (aJ (aD G)),bU x:=λx hx=>by
   rw[<- hQ3.out.2.2.1]at hx;exact hginB.out x hx
  generalize hCl:leave (aJ (aD G))=Cv at *;have u:=Bx.mk (And.intro hS5 (And.intro hU5 (And.intro ZD (And.intro ZH (And.intro hgok hgl5)))));clear hS5 hU5 ZD ZH eL fD Ai NN hgok;repeat' (first|refine aG trivial ?_|(first|apply ah|apply af)<;>intro g)
  refine bK wN (fv:=.fn (.func 60) [] []) (vs:=[tv, .aE C 0 Cv.length 3]) rfl ef (aM.mono DK λr s6 hh=>⟨trivial,?_⟩);obtain⟨XV,A,rfl,hT6,hbI,W0,Fz⟩:=hh;simp only[Env.aB];clear DK;have hS6:=u.out.1.mono W0 λid hu=>Fz id (u.out.1.lt hu) λe=>u.out.2.2.1 (e ▸ hu);obtain⟨gr,s7,BV,AO,hn7,Fy⟩:=kK hS6 (by have:=u.out.2.2.2.2.2;omega) u.out.2.2.2.2.1;have UJ:=yb AO (by have:=u.out.2.2.2.2.2;omega);have h07:s7.get 0=some (.cells .mut [.aq, .aq]):=by
   rw[Fy 0 λhu=>by have:=u.out.2.1 0 hu;omega,Fz 0 om om];exact u.out.2.2.2.1
  have hT7:=hT6.keep (s':=s7) om (Fy C u.out.2.2.1);have eg:=Bx.mk (And.intro BV (And.intro hT7 hbI));have Rn:=hbI.sl.cell;clear BV hT7 hT6 Fy Fz hS6 u;repeat' (first|refine aG trivial ?_|(first|apply ah|apply af)<;>intro g)
  repeat' (first|refine aG trivial ?_|(first|apply ah|apply af)<;>intro g)
  refine bK wN (fv:=.fn (.func 61) [] []) (vs:=[gv]) rfl ef (n9 (args':=[gr]) (s':=s7) (by simp[cY.cM,eg.out.1]) (mP ff UJ λr2 vj UN=>⟨trivial,?_⟩));simp only[Env.aB];have qw:=vj.sl.cell;repeat' (first|refine aG trivial ?_|(first|apply ah|apply af)<;>intro g)
  refine cC (vs:=[r2,A]) wN (by
   simp only[bt,List.map,lk,Nat.reduceEqDiff,if_false,if_true,List.map];simp[aU,g6 vj.sl,g6 eg.out.2.2.sl,splice]) ?_
  repeat' (first|refine aG @h07 ?_|(first|apply ah|apply af)<;>intro g)
  have hn8:(s7.put 0 (.cells .mut [r2,A])).n=s7.n:=rfl;have h08:(s7.put 0 (.cells .mut [r2,A])).get 0=some (.cells .mut [r2,A]):=by rw[St.az,if_pos rfl]
  have z:=eg.out.2.1.keep (s':=s7.put 0 (.cells .mut [r2,A])) (by simp) (by rw[St.az,if_neg om]);generalize s7.put 0 (.cells .mut [r2,A])=s8 at *;have hrl6:(qa (t.map (·.name)) (2*B.next.length) 1 Cv).length=Cv.length:=yd _ _ _ _;have hcl8:LV.closed.au (dm eO XV)=true:=tc λr Q=>by
   obtain⟨k,hk,rfl⟩:=List.getElem_of_mem Q;have h:=(z.nd k (by rw[<- z.len];exact hk)).set.closed;rw[gD,gE hk]at h;simp only[Option.getD_some]at h;simp[eO,LV.closed.au,LV.closed,h]
  have hwl:(dm eO XV).length=Cv.length*3:=by rw[eN fN,z.len,hrl6]
  have hF9:FV (λ_=>True) 2 s8 (.aE C 0 Cv.length 3) (.aF (dm eO XV) Cv.length):=.inr (.inl ⟨C,0,Cv.length,3, .mut,dm eO XV,dm eO XV,rfl,by rw[List.drop_zero,List.take_of_length_le om],trivial,z.get,by omega,rfl,hcl8,λi H=>FV.shut (cV hcl8 H)⟩);have hFa:FV (λ_=>True) 2 s8 (.agg [r2,A]) (.agg [r2,A]):=FV.shut (by simp[LV.closed,LV.closed.au,UN,eg.out.2.2.closed]);have hF:=FV.tup2 hF9 hFa;obtain⟨s9,hz,-⟩:=rS om hF;obtain⟨D,U,V,DO,X,gq⟩:=hQ3.out;refine⟨.inr trivial, .cE [.aE C 0 Cv.length 3, .agg [r2,A]],?_,_,s9,hz,hF.closed,_,r2,A,XV,rfl,?_,?_,?_⟩
  ·simp[aW,bD,rH,Nat.reduceEqDiff,Nat.reduceAdd,reduceIte,bG,e7,h08,bG]
  ·show jK _ (if EP B t then _ else []) XV;rw[Zp.out,D.1,<- U,X];refine⟨?_,z.len,z.lim,z.nd⟩;rw[hrl6];exact .aF _ _
  ·show aP r2 (if EP B t then _ else []);rw[Zp.out,D.2.1];unfold evG;rw[V];exact vj
  ·show aP A (if EP B t then _ else []);rw[Zp.out,D.2.2];unfold evB;rw[DO];exact eg.out.2.2
end Go.Proofs.YtkbiecjdcjfhaaaGreat
end
