/- accept.newTrack. -/
import Derived.Test.YtkbiecjdcjfhaaaGrow
import Derived.Test.YtkbiecjdcjfhaaaSmall
set_option linter.unusedSimpArgs false
set_option linter.unusedVariables false
set_option maxRecDepth 100000
set_option maxHeartbeats 16000000
section
namespace Go.Proofs.Ytkbiecjdcjfhaaa
open Go Go.Pv Go.C2
open Classical
theorem DN {v:LV}{B:Bu}{f g st lo:LV}{sl q:List Int}(hB:zW v B f g) (N:Vb B) (w:aM st sl) (y:aM lo q) (F:Fm sl q) (O:kO sl B.L) (P:kO q B.L) :
 PE 25 [v, .agg [st,lo]] (λr=>∃ lv ls bk,CI r B ls bk f g lv/\(∀ i,((cq B ls bk).word i:Int)=ew sl q i)/\∃ b d,Nrm sl q b d/\ls=(b++d).map Int.toNat/\bk=b.length):=by
 have G:=hB.closed;have Q:(LV.agg [st,lo]).closed=true:=by simp[LV.closed,LV.closed.aq,w.closed,y.closed]
 have mZ:=w.sl.cell;have uD:=y.sl.cell;obtain⟨rfl,H,R⟩:=hB;obtain⟨vs,I⟩:=R;have A:=H.sl.cell;have C:=I.sl.cell;refine n8 Try.func25 (by decide +kernel) c25 (Nat.le_of_ble_eq_true rfl) (by simp[LV.closed.aq,Q,G]) ?_;refine pF λe h0 h1=>?_;unfold l25;dsimp only[jA,jB,jG,jH,qL,qN,qF,qS,qO,qG];repeat' (first | refine gA trivial ?_ | (refine gB trivial ?_;rintro (_|_) h<;>try simp only[aG,reduceCtorEq]at h) | fail)
 refine cW ez (FC w y F) wN (by simp only[List.map,lk,Nat.reduceEqDiff,if_false,if_true,List.map]) (λr m T=>⟨trivial,?_⟩);obtain⟨a,c,b,d,rfl,p,J,g1,g2,g3,U,V,X,Y⟩:=m;have Z:=p.sl.cell;have Vn:=J.sl.cell;simp only[Env.au];repeat' (first | refine gA trivial ?_ | (refine gB trivial ?_;rintro (_|_) h<;>try simp only[aG,reduceCtorEq]at h) | fail)
 refine cX (v:=.aD 2 0 2 1) (s':=St.new (((St.empty.new (iC.cells Md.mut [LV.int IntKind.i64 0,LV.aj,LV.aj,LV.aj,LV.int IntKind.i64 0])).new (iC.cells Md.mut [LV.aj,LV.aj])).put 1 (iC.cells Md.mut [a,c])) (.cells .mut [a,c])) wN ?_ rfl ?_ ?_
 ·simp only[aR.run,lk,dJ,gW,Nat.reduceEqDiff,Nat.reduceAdd,if_false,if_true,List.map,bB,aW,rep];have hq:cells? a=some [a]:=fY Z;have m:cells? c=some [c]:=fY Vn;simp[hq,m,splice,cj]
 ·simp only[cH,aE,aR.run,lk,dJ,gW,Nat.reduceEqDiff,Nat.reduceAdd,if_false,if_true,aT,Env.au];simp[St.az,St.ah,cj]
 simp only[Env.au];repeat' (first | refine gA @p.sl.len ?_ | (refine gB @p.sl.len ?_;rintro (_|_) h<;>try simp only[aG,reduceCtorEq]at h) | fail)
 have Tq:LV.closed.aq [a,c]=true:=by simpa[LV.closed] using T
 have K:b.length+d.length<=100:=by
  obtain⟨f1,f2,f3,_⟩:=F;omega
 have hN:dF (.aB [a,c] 2) [b,d] [a,c]:=⟨.aB _ _,rfl,Nat.le_of_ble_eq_true rfl,λi s=>by
  match i,s with
  | 0,_=>exact p
  | 1,_=>exact J⟩
 generalize u:((((St.empty.new (iC.cells Md.mut [LV.int IntKind.i64 0,LV.aj,LV.aj,LV.aj,LV.int IntKind.i64 0])).new (iC.cells Md.mut [LV.aj,LV.aj])).put 1 (iC.cells Md.mut [a,c])).new (iC.cells Md.mut [a,c]))=l;have k0:l.get 0=some (.cells .mut [LV.int IntKind.i64 0,LV.aj,LV.aj,LV.aj,LV.int IntKind.i64 0]):=by rw[<- u];simp[St.az,St.ah,cj]
 have k1:l.get 1=some (.cells .mut [a,c]):=by rw[<- u];simp[St.az,St.ah,cj]
 have k2:l.get 2=some (.cells .mut [a,c]):=by rw[<- u];simp[St.az,cj]
 clear u;have hz:=tW (len:=2) k2 rfl Tq;have OW:cK.cu (cK aY) [.aD 2 0 2 1] l=some ([.aB [a,c] 2],l.put 2 (.cells .app [a,c])):=by simp[cK.cu,hz]
 refine bH wN rfl (by simp only[List.map,lk,Nat.reduceEqDiff,if_false,if_true,List.map]) (nM OW (lZ ez (Lp hN (by simp;omega) (by simp)) λr m WV=>⟨?_,?_⟩))
 ·simp only[cH,aE,aR.run,lk,dJ,gW,Nat.reduceEqDiff,Nat.reduceAdd,if_false,if_true,aT,Env.au];simp[St.ah,k1]
 have D:(l.put 2 (.cells .app [a,c])).get 0=some (.cells .mut [LV.int IntKind.i64 0,LV.aj,LV.aj,LV.aj,LV.int IntKind.i64 0]):=by simp[St.ah,k0]
 generalize l.put 2 (.cells .app [a,c])=s1 at *;have k:=m.sl.cell;simp only[Env.au];repeat' (first | refine gA (And.intro @p.sl.len @D) ?_ | (refine gB (And.intro @p.sl.len @D) ?_;rintro (_|_) h<;>try simp only[aG,reduceCtorEq]at h) | fail)
 refine cX (v:=.agg [.int .i64 B.L,f,g,r, .int .i64 (b.length:Int)]) (s':=s1) wN ?_ rfl trivial ?_
 ·simp only[aR.run,svq,Nat.reduceEqDiff,Nat.reduceAdd,Nat.reduceLeDiff,if_false,if_true,List.map,bB,aW];have hA:cells? (LV.agg [LV.int .i64 B.L,f,g])=some [LV.int .i64 B.L,f,g]:=by simp[cells?,A,C,tD]
  have hI:∀ z:Int,cells? (LV.int .i64 z)=some [LV.int .i64 z]:=λ_=>rfl;have hR:=fY k;simp[hR,splice,A,C]
 simp only[Env.au];refine iH (i:=0) (o:=0) (n:=5) (cs:=[LV.int IntKind.i64 0,LV.aj,LV.aj,LV.aj,LV.int IntKind.i64 0]) (vs:=[.int .i64 B.L,f,g,r, .int .i64 (b.length:Int)]) (cs':=[.int .i64 B.L,f,g,r, .int .i64 (b.length:Int)]) (v:=.agg [.int .i64 B.L,f,g,r, .int .i64 (b.length:Int)]) ef ef (by simp[jk,A,C,k,tD]) D rfl (by simp) rfl ?_;repeat' (first | refine gA trivial ?_ | (refine gB trivial ?_;rintro (_|_) h<;>try simp only[aG,reduceCtorEq]at h) | fail)
 have M:(LV.agg [.int .i64 B.L,f,g,r, .int .i64 (b.length:Int)]).closed=true:=by
  have:(LV.agg [.int .i64 B.L,f,g]).closed=true:=G;simp[LV.closed,LV.closed.aq]at this ⊢;exact⟨this.1,this.2,WV⟩
 have uT:aM r (b++d):=by simpa using m
 have E:∀ x∈b++d,0<=x/\x<B.L:=λx hx=>by
  rcases List.mem_append.1 hx with hx | hx
  ·obtain⟨j,t,rfl⟩:=List.mem_iff_getElem.1 (U x hx);have:=O j t;rwa[gD,gE t]at this
  ·obtain⟨j,t,rfl⟩:=List.mem_iff_getElem.1 (V x hx);have:=P j t;rwa[gD,gE t]at this
 have SG:fk ((b++d).map Int.toNat)=b++d:=by
  unfold fk;rw[List.map_map];conv=>rhs;rw[<- List.map_id (b++d)]
  exact List.map_congr_left λx hx=>by have:=(E x hx).1;simp;omega
 refine⟨.inr trivial, .agg [.int .i64 B.L,f,g,r, .int .i64 (b.length:Int)],by simp[br,bO,aT],_,_,bf M,M,r,(b++d).map Int.toNat,b.length,⟨rfl,H,⟨vs,I⟩,by rw[SG];exact uT,N,by simp;omega,by simp;omega,by simp;omega,λi s=>?_⟩,(λi=>by rw[Jq g2 (λx hx=>(E x hx).1),X]),b,d,Y,rfl,rfl⟩;rw[List.length_map]at s;rw[gD,List.getElem?_map,gE s];have:=E _ (List.getElem_mem s);simp only[Option.map_some,Option.getD_some];omega
open Go Go.Pv Go.C2 Go.Bn
def AW (B:Bu) (S L:List Int):Prop:=Vb B/\(Fm S L/\kO S B.L/\kO L B.L)/\Yh B λi=>(ew S L i).toNat
theorem Hx {B:Bu}{S L:List Int}{ls:List Nat}{bk:Nat}{v b c lv:LV}(a:CI v B ls bk b c lv) (d:∀ i,((cq B ls bk).word i:Int)=ew S L i) (h1:Fm S L/\kO S B.L/\kO L B.L) {x y:Pl}{ok:Bool}
 (h:CB B ls bk ((Jz B ls bk (G8 B)).map (·.1)) x y ok):ok=decide (AW B S L):=by
 have h2:=FH a.ok a.pos a.bk a.let' h;have h3:(cq B ls bk).word=λi=>(ew S L i).toNat:=funext λi=>by rw[<- d i];rfl
 rw[h3]at h2;cases ok with
 | true=>exact (decide_eq_true ⟨a.ok,h1,h2.1 rfl⟩).symm
 | false=>exact (decide_eq_false λh=>Bool.false_ne_true (h2.2 h.2.2)).symm
theorem Qm {v st lo:LV}{B:Bu}{k l:LV}{S L:List Int}(hB:zW v B k l) (q:aM st S) (s:aM lo L):PO 10 [v, .agg [st,lo]] (.bool (decide (AW B S L))):=by
 have R:=hB.closed;have T:(LV.agg [st,lo]).closed=true:=by simp[LV.closed,LV.closed.aq,q.closed,s.closed]
 have mZ:=q.sl.cell;have uD:=s.sl.cell;have U:=nN hB;have V:=zZ q s B.L;have A:=λ(a)=>DN hB a q s;obtain⟨rfl,X,Y⟩:=hB;obtain⟨vs,Z⟩:=Y;have Ez:=X.sl.cell;have Xt:=Z.sl.cell;refine DE (t:=4) hm Try.func10 (by decide +kernel) c10 (Nat.le_of_ble_eq_true rfl) (by simp[LV.closed.aq,T,R]) rfl rfl ?_;refine Cd.out (pF λe h0 h1=>?_);unfold l10;dsimp only[jA,jB,jC,jG,jH,qM,qL,qN,qF,qK,qO,qP,qG,qm];repeat' (first | refine gA trivial ?_ | (refine gB trivial ?_;rintro (_|_) b<;>try simp only[aG,reduceCtorEq]at b) | fail)
 refine dN ez (U) (by first | exact wN | (apply wG;(simp only[lk,Nat.reduceEqDiff,reduceIte,h0,h1];(try rfl);done))) (by simp only[List.map,lk,Nat.reduceEqDiff,reduceIte];try rfl) (λC b=>⟨by first | trivial | (simp only[cH,aE,aR.run,Env.au,Env.bI,svq,Nat.reduceEqDiff,Nat.reduceAdd,Nat.reduceLeDiff,reduceIte,aT,eH,List.map,bC,beq_self_eq_true,reduceCtorEq,false_or,true_and,and_true,Option.some.injEq, *];done),?_⟩);simp only[Env.au];cases C<;>simp only[decide_eq_true_eq,decide_eq_false_iff_not]at b
 ·repeat' (first | refine gA trivial ?_ | (refine gB trivial ?_;rintro (_|_) b<;>try simp only[aG,reduceCtorEq]at b) | fail)
  refine⟨.inr trivial,?_⟩;simp only[lk,dJ,Nat.reduceEqDiff,if_false,if_true];exact b8 λh=>b h.1
 repeat' (first | refine gA trivial ?_ | (refine gB trivial ?_;rintro (_|_) b<;>try simp only[aG,reduceCtorEq]at b) | fail)
 refine dN ez (V) (by first | exact wN | (apply wG;(simp only[lk,Nat.reduceEqDiff,reduceIte];(try rfl);done))) (by simp only[List.map,lk,Nat.reduceEqDiff,reduceIte];try rfl) (λC b=>⟨by first | trivial | (simp only[cH,aE,aR.run,Env.au,Env.bI,svq,Nat.reduceEqDiff,Nat.reduceAdd,Nat.reduceLeDiff,reduceIte,aT,eH,List.map,bC,beq_self_eq_true,reduceCtorEq,false_or,true_and,and_true,Option.some.injEq, *];done),?_⟩);simp only[Env.au];cases C<;>simp only[decide_eq_true_eq,decide_eq_false_iff_not]at b
 ·repeat' (first | refine gA trivial ?_ | (refine gB trivial ?_;rintro (_|_) b<;>try simp only[aG,reduceCtorEq]at b) | fail)
  refine⟨.inr trivial,?_⟩;simp only[lk,dJ,Nat.reduceEqDiff,if_false,if_true];exact b8 λh=>b h.2.1
 rename_i WD;repeat' (first | refine gA trivial ?_ | (refine gB trivial ?_;rintro (_|_) b<;>try simp only[aG,reduceCtorEq]at b) | fail)
 refine cW ez (A WD b.1 b.2.1 b.2.2) wN (by simp only[List.map,lk,dJ,Nat.reduceEqDiff,if_false,if_true,List.map]) (λr D rL=>⟨trivial,?_⟩);obtain⟨lv,ls,bk,H,hw,-⟩:=D;have u:=H;obtain⟨rfl,-,-,cm,E,I,K3,gZ,kG⟩:=H;have hc5:=cm.sl.cell;simp only[Env.au];repeat' (first | refine gA trivial ?_ | (refine gB trivial ?_;rintro (_|_) b<;>try simp only[aG,reduceCtorEq]at b) | fail)
 generalize c:((St.empty.new (iC.cells Md.mut [.int .i64 0, .aj, .aj, .aj, .int .i64 0])).put 0 (iC.cells Md.mut [.int .i64 B.L,k,l,lv, .int .i64 (bk:Int)]))=m;have g0:m.get 0=some (.cells .mut [.int .i64 B.L,k,l,lv, .int .i64 (bk:Int)]):=by rw[<- c];simp
 have g:m.n=1:=by rw[<- c];rfl
 clear c;refine cX (v:=.aH 1 0) (s':=m.new (.cells .mut [.int .i64 0, .int .i64 0])) wN (by simp only[aR.run,g]) rfl ?_ ?_
 ·simp only[cH,aE,aR.run,lk,dJ,gW,Nat.reduceEqDiff,if_false,if_true,aT,Env.au];simp[St.az,g0,g]
 simp only[Env.au];generalize c:m.new (.cells .mut [.int .i64 0, .int .i64 0])=j;have g1:j.get 0=some (.cells .mut [.int .i64 B.L,k,l,lv, .int .i64 (bk:Int)]):=by rw[<- c];simp[g,g0]
 have J:j.get 1=some (.cells .mut [.int .i64 0, .int .i64 0]):=by rw[<- c];simp[g]
 have d:j.n=2:=by rw[<- c];simp[g]
 clear c g0 g;clear m;refine cX (v:=.aH 2 0) (s':=j.new (.cells .mut [.int .i64 0, .int .i64 0])) wN (by simp only[aR.run,d]) rfl ?_ ?_
 ·simp only[cH,aE,aR.run,lk,dJ,gW,Nat.reduceEqDiff,if_false,if_true,aT,Env.au];simp[St.az,g1,d]
 simp only[Env.au];generalize c:j.new (.cells .mut [.int .i64 0, .int .i64 0])=w;have g2:w.get 0=some (.cells .mut [.int .i64 B.L,k,l,lv, .int .i64 (bk:Int)]):=by rw[<- c];simp[d,g1]
 have K:w.get 1=some (.cells .mut [.int .i64 0, .int .i64 0]):=by rw[<- c];simp[d,J]
 have N:w.get 2=some (.cells .mut [.int .i64 0, .int .i64 0]):=by rw[<- c];simp[d]
 have n2:w.n=3:=by rw[<- c];simp[d]
 clear c g1 d J;clear j;refine cW ez (Jy u) wN (by simp only[List.map,lk,dJ,Nat.reduceEqDiff,if_false,if_true,List.map]) (λr D WV=>⟨?_,?_⟩)
 ·simp only[cH,aE,aR.run,lk,dJ,gW,Nat.reduceEqDiff,if_false,if_true,aT,Env.au];simp[g2]
 simp only[Env.au];refine bH wN rfl (by simp only[List.map,lk,dJ,Nat.reduceEqDiff,if_false,if_true,List.map]) (aJ.mono (JF u D WV (u6 E I)) λv s2 F=>?_);obtain⟨M,pv,bv,rfl,hM,f,wU,zc,z⟩:=F;have g3:=(z 0 om).trans g2;have O:=(z 1 om).trans K;have P:=(z 2 om).trans N;have p:=HU E K3 kG (u6 E I);have hM1:=f.m1;refine⟨?_,?_⟩
 ·simp only[cH,aE,aR.run,lk,dJ,gW,Nat.reduceEqDiff,if_false,if_true,aT,Env.au];simp[g3]
 simp only[Env.au];refine bH wN rfl (by simp only[List.map,lk,dJ,Nat.reduceEqDiff,if_false,if_true,List.map]) (aJ.mono (Rk u p.1 p.2.1 f) λv s3 F=>⟨trivial,?_⟩);obtain⟨x,y,ok,rfl,Q,nG,G⟩:=F;have k6:=(G 1 om).trans O;have k7:=(G 2 om).trans P;have iD:=Hx u hw b Q;simp only[Env.au];clear f g2 g3 K N O P z G Q;repeat' (first | refine gA trivial ?_ | (refine gB trivial ?_;rintro (_|_) b<;>try simp only[aG,reduceCtorEq]at b) | fail)
 refine iH (i:=1) (o:=0) (n:=2) (cs:=[.int .i64 0, .int .i64 0]) (vs:=bJ x) (cs':=bJ x) (v:=.agg (bJ x)) ef ef (by simp[bJ,jk,tD]) k6 rfl (by simp) rfl ?_;refine iH (i:=2) (o:=0) (n:=2) (cs:=[.int .i64 0, .int .i64 0]) (vs:=bJ y) (cs':=bJ y) (v:=.agg (bJ y)) ef ef (by simp[bJ,jk,tD]) (by simp[k7]) rfl (by simp) rfl ?_;repeat' (first | refine gA trivial ?_ | (refine gB trivial ?_;rintro (_|_) b<;>try simp only[aG,reduceCtorEq]at b) | fail)
 refine⟨.inr trivial,?_⟩;simp only[lk,dJ,Nat.reduceEqDiff,if_false,if_true];rw[iD]
end Go.Proofs.Ytkbiecjdcjfhaaa
end
