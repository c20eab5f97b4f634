/- parity.Build. -/
import Derived.Test.YtkbiecjdcjfhaaaGreatPaf
import Derived.Test.YtkbiecjdcjfhaaaGreatPsr
import Derived.Test.YtkbiecjdcjfhaaaGreatValid
import Derived.Test.YtkbiecjdcjfhaaaGreatTre
import Derived.Test.YtkbiecjdcjfhaaaGreatRecv
set_option linter.unusedSimpArgs false
set_option linter.unusedVariables false
set_option maxRecDepth 100000
set_option maxHeartbeats 16000000
section
namespace Go.Proofs.YtkbiecjdcjfhaaaGreat
open Go Go.Pv Go.pR
open Classical
theorem Ty {Z:Nat}(s:St):aM Tryz.prog GL (.fn (.func 24) [] []) [.aO Z 0] s (λr s'=>r = .fn (.func 51) [] [.aO s.n 0]/\s'=s.new (.cells .mut [.aO Z 0])):=by
 refine bM (first:=[]) (caps:=[]) Tryz.func24 br c24 bw (aX.mono (Q:=λo e s'=>(o = .normal∨o = .jmp .ret)/\e.at 2 = .fn (.func 51) [] [.aO s.n 0]/\s'=s.new (.cells .mut [.aO Z 0])) ?_ λo e s' a=>by
  obtain⟨h1,h2,h3⟩:=a;exact⟨h1,_,by simp[l24,aW,bD,h2],rfl,h3⟩)
 refine Cd.out (pg λe b=>?_);unfold l24;dsimp only[jA,qm,qR];refine mN ?_;refine iC hm ?_;refine iw (v:=.aO s.n 0) (s':=s.new (.cells .mut [.aO Z 0])) (by simp only[bq.run,lk,Ws,rH,b];try rfl) ?_;repeat' (first|refine aG trivial ?_|(first|apply ah|apply af)<;>intro c)
 exact⟨.inr trivial,ef,trivial⟩
noncomputable def cL (B:Bu) (n:Nat):List (List Nd) × Xs:=sq B [xj B] [(0,lN (2*B.next.length))] n
def Fits (B:Bu) (most n:Nat):Prop:=n=(cL B n).2.length/\(∀ j,j<n->j<(cL B j).2.length)/\∀ j,j<=n->(cL B j).2.length<=most
def Over (B:Bu) (most:Nat):Prop:=∃ n,(∀ j,j<=n->j<(cL B j).2.length/\(cL B j).2.length<=most)/\most<(cL B (n+1)).2.length
noncomputable def PB (B:Bu) (n:Nat):List Int:=sqN B [xj B] [(0,lN (2*B.next.length))] n
noncomputable def Pc (B:Bu) (n:Nat):List Int:=sqP B [xj B] [(0,lN (2*B.next.length))] n
def eH (s:St) (v:LV) (f:Nat->List Int) (n:Nat):Prop:=∃ R,ek s v 1 R n/\LV.closed.au R=true/\∀ j,j<n->aP (R.getD j .top) (f j)
theorem eH.mono {s s':St}{v:LV}{f:Nat->List Int}{n:Nat}(h:eH s v f n) (a:s.n<=s'.n) (hs:∀ id,aQ v id->s'.get id=s.get id):eH s' v f n:=by
 obtain⟨R,h1,h2⟩:=h;exact⟨R,h1.mono a hs,h2⟩
theorem AX {l m:List LV} : LV.closed.au (l++m)=(LV.closed.au l && LV.closed.au m):=by
 induction l with
 | nil=>simp[LV.closed.au]
 | cons a l ih=>simp[LV.closed.au,ih,Bool.and_assoc]
theorem eH.app {s':St}{v' xv:LV}{f:Nat->List Int}{n:Nat}{R:List LV}(a:LV.closed.au R=true) (b:∀ j,j<n->aP (R.getD j .top) (f j)) (hl:R.length=n) (hx:aP xv (f n)) (h:ek s' v' 1 (R++[xv]) (n+1)):eH s' v' f (n+1):=by
 refine⟨_,h,?_,λj c=>?_⟩
 ·rw[AX,a];simp[LV.closed.au,hx.closed]
 ·by_cases e:j<n
  ·have:=b j e;rwa[gD,List.getElem?_append_left om,<- gD]
  ·have:j=n:=by omega
   subst this;rw[gD,List.getElem?_append_right om,hl];simpa using hx
abbrev Aw:bx:=.seq (.region [{ dst:=some 8,op:=.mv (.t 30) }]) (.region [{ dst:=some 9,op:=.mv (.t 31) }])
abbrev Bt:bx:=.block 1 (.seq (.region [{ dst:=some 32,op:=.sY 2 (.t 6) },{ dst:=some 33,op:=.load none (.t 32) },{ dst:=some 34,op:=.mv (.t 8) },{ dst:=some 35,op:=.bu 1 1 [.aq] [(0,(1, .t 34))] },{ dst:=some 36,op:=.append 1 24 (.t 33) (.t 35) },{ dst:=some 37,op:=.sY 2 (.t 6) },{ dst:=none,op:=.store 1 (.t 37) (.t 36) }]) (.region [{ dst:=some 38,op:=.sY 3 (.t 6) },{ dst:=some 39,op:=.load none (.t 38) },{ dst:=some 40,op:=.mv (.t 9) },{ dst:=some 41,op:=.bu 1 1 [.aq] [(0,(1, .t 40))] },{ dst:=some 42,op:=.append 1 24 (.t 39) (.t 41) },{ dst:=some 43,op:=.sY 3 (.t 6) },{ dst:=none,op:=.store 1 (.t 43) (.t 42) }]))
def PAns (B:Bu) (most:Nat) (s:St) (r:LV) (s':St):Prop:=s.n<=s'.n/\(∀ id,id<s.n->s'.get id=s.get id)/\((∃ n a b,r = .cE [.agg [.int .i64 B.L, .int .i64 0,a,b], .int .i64 0]/\Fits B most n/\eH s' a (PB B) n/\eH s' b (Pc B) n/\(∀ id,aQ a id∨aQ b id->s.n<=id))∨(r = .cE [.agg [.int .i64 0, .int .i64 0, .aq, .aq], .int .i64 2]/\Over B most))
theorem JD (B:Bu) (n:Nat):(cL B n).2.length<=(cL B (n+1)).2.length:=by
 have h:=xV B (cL B (n+1)).1 ((cL B n).1.getD ((cL B n).2.getD n default).1 []) ((cL B n).2.getD n default).2 (cL B n).2 (Nat.zero_le B.L.toNat);exact h
theorem eH.lt {s:St}{v:LV}{f:Nat->List Int}{n id:Nat}(h:eH s v f n) (a:aQ v id):id<s.n:=by
 obtain⟨R,h1,-⟩:=h;exact h1.lt a
def PbI (B:Bu) (s:St) (d:Env) (a:Nat) (n:Nat) (C:Nat->Prop) (st:St):Prop:=
 ∃ c b,C=(λid=>id<s.n+2∨id=a∨aQ c id∨aQ b id)/\st.get a=some (.loop .ready none d [30,31] Aw Bt)/\a<st.n/\st.get s.n=some (.cells .mut [.int .i64 0, .int .i64 0, .aq, .aq])/\st.get (s.n+1)=some (.cells .mut [.int .i64 B.L, .int .i64 0,c,b])/\(∀ id,id<s.n->st.get id=s.get id)/\eH st c (PB B) n/\eH st b (Pc B) n/\(∀ id,aQ c id->a<id/\¬ aQ b id)/\∀ id,aQ b id->a<id
theorem Si {bv:LV}{B:Bu}{E F:LV}{most:Nat}(hB:vo bv B E F) (hv:Vb B) (hN:B.next.length<=10) (hl:B.start.length<=64) (mK:∀ q a,(fQ B q a).length<=1000000) (BR:1<=most) (wu:most<=1000) (s:St) :
 aM Tryz.prog GL (.fn (.func 8) [] []) [bv, .int .i64 (most:Int)] s (λr s'=>PAns B most s r s'):=by
 have bV:=hB.closed;have dy:=oa hB;simp only[hv,decide_true]at dy;obtain⟨rfl,hs,hn⟩:=hB;have m9:=hs.closed;have mD:=hn.closed;have hB:vo (.agg [.int .i64 B.L,E,F]) B E F:=⟨rfl,hs,hn⟩;obtain⟨vs,fI⟩:=hn;have mJ:=hs.sl.cell;have nW:=fI.sl.cell;refine bM (first:=[]) (caps:=[]) Tryz.func8 br c8 bw (aX.mono (Q:=λo e s'=>(o = .normal∨o = .jmp .ret)/\∃ k c er,e.at 4 = .aO k 0/\s'.get k=some (.cells .mut c)/\e.at 5=er/\c.length=4/\PAns B most s (.cE [.agg c,er]) s') ?_ λo e s' hh=>by
  obtain⟨h1,k,c,er,h2,h3,u,v,h6⟩:=hh;match c,v,h3,h6 with
  | [c1,c2,c3,c4],_,h3,h6=>exact⟨h1,_,by simp[l8,aW,bD,h2,h3,u,bG],h6⟩)
 refine Cd.out (mH λe e0 e1=>?_);unfold l8;dsimp only[jA,jC,jG,qM,qN,qF,qS,qC,qO,qP,qU,qW,qJ,qT,qY,qG,qm,ql,qR];repeat' (first|refine aH @bV ?_|(first|apply ah|apply af)<;>intro y)
 refine tq ff dy wN ef trivial ?_;simp only[Env.aB];repeat' (first|refine aH @bV ?_|(first|apply ah|apply af)<;>intro y)
 refine cC (vs:=[.int .i64 B.L, .int .i64 0, .aq, .aq]) wN (by
  simp only[bt,List.map,lk,dM,Nat.reduceEqDiff,if_false,if_true,List.map];simp[aU,fq,splice]) ?_
 have Ab:=λs=>Ua hB hv hN hl (most:Int) s;have fA:(LV.agg [.int .i64 B.L, .int .i64 0, .aq, .aq]).closed=true:=rfl;repeat' (first|refine aH @bV ?_|(first|apply ah|apply af)<;>intro y)
 have hkA:(((s.new (.cells .mut [.int .i64 0, .int .i64 0, .aq, .aq])).new (.cells .mut [.int .i64 0, .int .i64 0, .aq, .aq])).put (s.n+1) (.cells .mut [.int .i64 B.L, .int .i64 0, .aq, .aq])).get s.n=some (.cells .mut [.int .i64 0, .int .i64 0, .aq, .aq]):=by rw[St.az,if_neg om,St.aA,if_neg (by simp),St.aA,if_pos rfl]
 have hkP:(((s.new (.cells .mut [.int .i64 0, .int .i64 0, .aq, .aq])).new (.cells .mut [.int .i64 0, .int .i64 0, .aq, .aq])).put (s.n+1) (.cells .mut [.int .i64 B.L, .int .i64 0, .aq, .aq])).get (s.n+1)=some (.cells .mut [.int .i64 B.L, .int .i64 0, .aq, .aq]):=by rw[St.az,if_pos rfl]
 have hoA:∀ id,id<s.n->(((s.new (.cells .mut [.int .i64 0, .int .i64 0, .aq, .aq])).new (.cells .mut [.int .i64 0, .int .i64 0, .aq, .aq])).put (s.n+1) (.cells .mut [.int .i64 B.L, .int .i64 0, .aq, .aq])).get id=s.get id:=λid i=>by rw[St.az,if_neg om,St.aA,if_neg (by simp;omega),St.aA,if_neg om]
 have hnA:(((s.new (.cells .mut [.int .i64 0, .int .i64 0, .aq, .aq])).new (.cells .mut [.int .i64 0, .int .i64 0, .aq, .aq])).put (s.n+1) (.cells .mut [.int .i64 B.L, .int .i64 0, .aq, .aq])).n=s.n+2:=rfl;generalize ((s.new (.cells .mut [.int .i64 0, .int .i64 0, .aq, .aq])).new (.cells .mut [.int .i64 0, .int .i64 0, .aq, .aq])).put (s.n+1) (.cells .mut [.int .i64 B.L, .int .i64 0, .aq, .aq])=sA at *;refine bK wN (fv:=.fn (.func 23) [] []) (vs:=[.agg [.int .i64 B.L,E,F], .int .i64 (most:Int)]) ef ef (aM.mono (Ab sA) λx s1 hh=>⟨trivial,?_⟩);simp only[Env.aB];obtain⟨Z,O,rfl,hS,eu,hO,p⟩:=hh;have NM:=(p s.n om).trans hkA;have hkP1:=(p (s.n+1) om).trans hkP;have I:∀ id,id<s.n->s1.get id=s.get id:=λid i=>(p id om).trans (hoA id i);have hZO:s.n+2<=Z/\Z<s1.n:=by
  obtain⟨S,T,xv,U,V,td,mQ,xr,z⟩:=hS;exact⟨by have:=hO Z z.oZ.1;omega,z.ol Z z.oZ.1⟩
 have X:∀ id,O id->id<s1.n:=by
  obtain⟨S,T,xv,U,V,td,mQ,xr,z⟩:=hS;exact z.ol
 have cB:=Bx.mk (And.intro hS (And.intro hO I));clear hS hO p I hoA hkA hkP Ab dy fA;repeat' (first|refine aH @bV ?_|(first|apply ah|apply af)<;>intro y)
 refine bK wN (fv:=.fn (.func 24) [] []) (vs:=[.aO Z 0]) ef ef (aM.mono (Ty s1) λx s2 hh=>⟨trivial,?_⟩);simp only[Env.aB];obtain⟨rfl,rfl⟩:=hh;repeat' (first|refine aH @bV ?_|(first|apply ah|apply af)<;>intro y)
 refine EA (yv:=.fn (.func 51) [] [.aO s1.n 0]) ef ?_;obtain⟨g,hE⟩:∃ g:Env,g=((((((((((((((((((((((((Tr.set e 2 (LV.aY [.int .i64 B.L,E,F] 0)).set 4 (.aO s.n 0)).set 5 (.int .i64 0)).set 10 (.agg [.int .i64 B.L,E,F])).set 11 (.bool true)).set 12 (.bool !true)).set 13 (.bool false)).set 14 (.int .i64 most)).set 15 (.bool false)).set 16 (.bool false)).set 17 (.bool false)).set 18 (.int .i64 most)).set 19 (.bool false)).set 20 (.bool false)).set 22 (.aY [.int .i64 B.L,E,F] 0)).set 23 (.int .i64 B.L)).set 24 (.agg [.int .i64 B.L, .int .i64 0, .aq, .aq])).set 6 (.aO (s.n+1) 0)).set 25 (.agg [.int .i64 B.L,E,F])).set 26 (.int .i64 most)).set 27 (.aO Z 0)).set 7 (.aO Z 0)).set 28 (.aO Z 0)).set 29 (.fn (.func 51) [] [.aO s1.n 0])):=⟨_,rfl⟩;have e1:g.at 1 = .int .i64 (most:Int):=by rw[hE];simp only[lk,dM,Nat.reduceEqDiff,if_false,e1]
 have e4:g.at 4 = .aO s.n 0:=by rw[hE];simp only[lk,dM,Nat.reduceEqDiff,if_false,if_true]
 have e6:g.at 6 = .aO (s.n+1) 0:=by rw[hE];simp only[lk,dM,Nat.reduceEqDiff,if_false,if_true]
 have e7:g.at 7 = .aO Z 0:=by rw[hE];simp only[lk,dM,Nat.reduceEqDiff,if_false,if_true]
 rw[<- hE,St.fW];clear hE e0;have hSr:∃ S T xv U V td mQ xr,SX ((s1.new (.cells .mut [.aO Z 0])).new (.loop .ready none g [30,31] Aw Bt)) Z B E F (most:Int) [xj B] [(0,lN (2*B.next.length))] O (λ_=>False) S T xv U V td mQ xr:=by
  obtain⟨S,T,xv,U,V,td,mQ,xr,z⟩:=cB.out.1;exact⟨S,T,xv,U,V,td,mQ,xr,z.keep (by simp;omega) λid i=>by have:=X id i;rw[St.aA,if_neg (by simp;omega),St.aA,if_neg om]⟩
 refine aM.mono (Tz (Z:=Z) (b:=s1.n) (most:=most) (B:=B) (O:=O) hB hv hN mK wu (.rG (s1.n+1)) ((s1.new (.cells .mut [.aO Z 0])).new (.loop .ready none g [30,31] Aw Bt)) hSr (by rw[St.aA,if_neg (by simp),St.aA,if_pos rfl]) (by simp;omega) (λh=>by have:=X _ h;omega) ?_ (by simp) (by simpa using BR)
  (PbI B s g (s1.n+1)) (λid=>id<s.n+2∨id=s1.n+1∨aQ .aq id∨aQ .aq id) rfl ?_ ?_ ?_ ?_ ?_) ?_
 ·intro x hx;rw[List.mem_singleton.1 hx];exact⟨by simp,Cw om,g8 _⟩
 ·exact⟨.aq, .aq,rfl,by rw[St.aA,if_pos (by simp)],by simp,by rw[St.aA,if_neg (by simp;omega),St.aA,if_neg om];exact NM,by rw[St.aA,if_neg (by simp;omega),St.aA,if_neg om];exact hkP1,λid i=>by rw[St.aA,if_neg (by simp;omega),St.aA,if_neg om];exact cB.out.2.2 id i,⟨[],ek.nil _ _,rfl,λj hj=>by omega⟩,⟨[],ek.nil _ _,rfl,λj hj=>by omega⟩,λid d=>absurd d (bE id),λid d=>absurd d (bE id)⟩
 ·rintro n C st ⟨m,l,rfl,h1,h2,h3,u,v,h6,A,J,K⟩ id hc;rcases hc with h | h | h | h
  ·omega
  ·omega
  ·exact h6.lt h
  ·exact A.lt h
 ·intro id hc;rcases hc with h | h | h | h
  ·exact⟨λho=>by have:=cB.out.2.1 id ho;omega,by omega⟩
  ·exact⟨λho=>by have:=X id ho;omega,by omega⟩
  ·exact absurd h (bE id)
  ·exact absurd h (bE id)
 ·rintro n C st D ⟨m,l,rfl,h1,h2,h3,u,v,h6,A,J,K⟩ jk hk;exact⟨m,l,rfl,(hk _ (.inr (.inl rfl))).trans h1,by omega,(hk _ (.inl om)).trans h3,(hk _ (.inl om)).trans u,λid i=>(hk id (.inl om)).trans (v id i),h6.mono jk λid d=>hk id (.inr (.inr (.inl d))),A.mono jk λid d=>hk id (.inr (.inr (.inr d))),J,K⟩
 ·rintro n C st Y xv2 ⟨m,l,rfl,h1,h2,h3,u,v,h6,A,J,K⟩ vg WH fH DK;refine Ev h1 rfl λnt'=>?_;show Cd Tryz.prog GL true nt' Aw (Tr.set (Tr.set g 30 Y) 31 xv2) st _;have hx1c:=vg.sl.cell;have hx2c:=WH.sl.cell;have UF:bf m=true:=by obtain⟨R,h,-⟩:=h6;exact h.cell
  have UE:bf l=true:=by obtain⟨R,h,-⟩:=A;exact h.cell
  have hnm':n+1<=most:=by
   have:=JD B n;have S8:n<(cL B n).2.length:=fH;have RC:(cL B (n+1)).2.length<=most:=DK;omega
  have f:=Bx.mk (And.intro h1 (And.intro h3 (And.intro v (And.intro h6 (And.intro A (And.intro J (And.intro K (And.intro vg WH))))))));clear h3 v h6 A J K vg WH;repeat' (first|refine aG trivial ?_|(first|apply ah|apply af)<;>intro y)
  refine⟨f.out.1,?_⟩;have Xb:(st.put (s1.n+1) (.loop .busy none g [30,31] Aw Bt)).get (s.n+1)=some (.cells .mut [.int .i64 B.L, .int .i64 0,m,l]):=by rw[St.az,if_neg om];exact u
  have DM:(st.put (s1.n+1) (.loop .busy none g [30,31] Aw Bt)).get (s1.n+1)=some (.loop .busy none g [30,31] Aw Bt):=by rw[St.az,if_pos rfl]
  have p:∀ id,id≠s1.n+1->(st.put (s1.n+1) (.loop .busy none g [30,31] Aw Bt)).get id=st.get id:=λid i=>by rw[St.az,if_neg i]
  have Ir:(st.put (s1.n+1) (.loop .busy none g [30,31] Aw Bt)).n=st.n:=rfl;generalize st.put (s1.n+1) (.loop .busy none g [30,31] Aw Bt)=st1 at *;clear h1 u;repeat' (first|refine aG @Xb ?_|(first|apply ah|apply af)<;>intro y)
  have NP:=f.out.2.2.2.1;have AS:=f.out.2.2.2.2.1;have G:=f.out.2.2.2.2.2.1;have w:=f.out.2.2.2.2.2.2.1;have vg:=f.out.2.2.2.2.2.2.2.1;have WH:=f.out.2.2.2.2.2.2.2.2;obtain⟨R1,mE,q5,nT⟩:=NP;obtain⟨R2,pO,wB,vj⟩:=AS;have pe:R1.length=n:=by have:=mE.1;omega
  have xE:R2.length=n:=by have:=pO.1;omega
  have M:∀ id,aQ m id->id<st.n:=λid d=>mE.lt d;have UZ:∀ id,aQ l id->id<st.n:=λid d=>pO.lt d;have II:=mE.mono (s':=st1) om λid d=>p id (by have:=(G id d).1;omega);have IG:=pO.mono (s':=st1) om λid d=>p id (by have:=w id d;omega);refine qc (n:=n) (aZ:=1) (xv:=Y) (yv:=m) (vs:=[Y]) (cells:=R1) ef (g6 vg.sl) rfl rfl (by simp[LV.closed.au,vg.closed]) ef II (by decide) om (λD H a1 a4 a5 a6=>?_);have hk42:D.get (s.n+1)=some (.cells .mut [.int .i64 B.L, .int .i64 0,m,l]):=by rw[a6 _ om λd=>by have:=G _ d;omega];exact Xb
  have Ag:D.get (s1.n+1)=some (.loop .busy none g [30,31] Aw Bt):=by rw[a6 _ om λd=>by have:=G _ d;omega];exact DM
  have N:=IG.mono (s':=D) a5 λid d=>a6 id (by have:=UZ id d;omega) λh=>(G id h).2 d;have wI:=Bx.mk (And.intro a4 (And.intro a6 (And.intro N (And.intro Ag (And.intro nT vj)))));clear a4 a6 N Ag mE pO II IG Xb DM nT vj G w vg WH M UZ;repeat' (first|refine aG @hk42 ?_|(first|apply ah|apply af)<;>intro y)
  have KI:∀ id,id≠s.n+1->(D.put (s.n+1) (.cells .mut [.int .i64 B.L, .int .i64 0, .aE H 0 (n+1) 1,l])).get id=D.get id:=λid i=>by rw[St.az,if_neg i]
  have hk43:(D.put (s.n+1) (.cells .mut [.int .i64 B.L, .int .i64 0, .aE H 0 (n+1) 1,l])).get (s.n+1)=some (.cells .mut [.int .i64 B.L, .int .i64 0, .aE H 0 (n+1) 1,l]):=by rw[St.az,if_pos rfl]
  have o9:(D.put (s.n+1) (.cells .mut [.int .i64 B.L, .int .i64 0, .aE H 0 (n+1) 1,l])).n=D.n:=rfl;generalize D.put (s.n+1) (.cells .mut [.int .i64 B.L, .int .i64 0, .aE H 0 (n+1) 1,l])=st3 at *;have G:=f.out.2.2.2.2.2.1;have w:=f.out.2.2.2.2.2.2.1;have P:=wI.out.2.2.1.mono (s':=st3) om λid d=>KI id (by have:=w id d;omega);refine qc (n:=n) (aZ:=1) (xv:=xv2) (yv:=l) (vs:=[xv2]) (cells:=R2) ef (g6 f.out.2.2.2.2.2.2.2.2.sl) rfl rfl (by simp[LV.closed.au,f.out.2.2.2.2.2.2.2.2.closed]) ef P (by decide) om (λt j2 b1 b4 b5 b6=>?_);have hk44:t.get (s.n+1)=some (.cells .mut [.int .i64 B.L, .int .i64 0, .aE H 0 (n+1) 1,l]):=by rw[b6 _ om λd=>by have:=w _ d;omega];exact hk43
  have w6:=Bx.mk (And.intro b4 b6);clear b4 b6 P G w;repeat' (first|refine aG @hk44 ?_|(first|apply ah|apply af)<;>intro y)
  have hj1t:H<D.n:=wI.out.1.lt (aI.2 rfl);have hj2t:j2<t.n:=w6.out.1.lt (aI.2 rfl);have G:=f.out.2.2.2.2.2.1;have w:=f.out.2.2.2.2.2.2.1;have M:∀ id,aQ m id->id<st.n:=λid d=>f.out.2.2.2.1.lt d;have UZ:∀ id,aQ l id->id<st.n:=λid d=>f.out.2.2.2.2.1.lt d;have h14:∀ id,id<st.n->id≠s1.n+1->id≠s.n+1->¬ aQ m id->¬ aQ l id->t.get id=st.get id:=λid h1 h2 h3 u v=>by
   rw[w6.out.2 id om v,KI id h3,wI.out.2.1 id om u,p id h2]
  have nY:t.get (s1.n+1)=some (.loop .busy none g [30,31] Aw Bt):=by
   rw[w6.out.2 _ om λd=>by have:=w _ d;omega,KI _ om];exact wI.out.2.2.2.1
  have iO:∀ id,id≠s.n+1->id≠s1.n+1->((t.put (s.n+1) (.cells .mut [.int .i64 B.L, .int .i64 0, .aE H 0 (n+1) 1, .aE j2 0 (n+1) 1])).put (s1.n+1) (.loop .ready none g [30,31] Aw Bt)).get id=t.get id:=λid h1 h2=>by rw[St.az,if_neg h2,St.az,if_neg h1]
  refine⟨.busy,none,g,[30,31],Aw,Bt,by rw[St.az,if_neg om];exact nY,rfl,by simp;omega,_,⟨.aE H 0 (n+1) 1, .aE j2 0 (n+1) 1,rfl,by rw[St.az,if_pos rfl],by simp;omega,?_,?_,λid i=>?_,?_,?_,λid d=>?_,λid d=>?_⟩,λid hc=>?_,λid i mD=>?_⟩
  ·rw[iO _ om om,h14 _ om om om (λd=>by have:=(G _ d).1;omega) λd=>by have:=w _ d;omega];exact f.out.2.1
  ·rw[St.az,if_neg om,St.az,if_pos rfl]
  ·rw[iO _ om om,h14 _ om om om (λd=>by have:=(G _ d).1;omega) λd=>by have:=w _ d;omega];exact f.out.2.2.1 id i
  ·refine eH.app q5 wI.out.2.2.2.2.1 pe f.out.2.2.2.2.2.2.2.1 (wI.out.1.mono (by simp;omega) λid d=>?_);have:=aI.1 d;subst this;rw[iO _ om om,w6.out.2 _ om λd=>by have:=UZ _ d;omega,KI _ om]
  ·refine eH.app wB wI.out.2.2.2.2.2 xE f.out.2.2.2.2.2.2.2.2 (w6.out.1.mono (by simp) λid d=>?_);have:=aI.1 d;subst this;rw[iO _ om om]
  ·have:=aI.1 d;exact⟨by omega,λw=>by have:=aI.1 w;omega⟩
  ·have:=aI.1 d;omega
  ·rcases hc with h | h | h | h
   ·exact .inl (.inl h)
   ·exact .inl (.inr (.inl h))
   ·have:=aI.1 h;exact .inr om
   ·have:=aI.1 h;exact .inr om
  ·have h1:¬ id<s.n+2:=λh=>mD (.inl h);have h2:id≠s1.n+1:=λh=>mD (.inr (.inl h));rw[iO _ om h2,h14 id i h2 om (λh=>mD (.inr (.inr (.inl h)))) λh=>mD (.inr (.inr (.inr h)))]
 ·rintro r s' ⟨hn,n,C,O',F',ts,xs,⟨m,l,rfl,h1,h2,h3,u,v,h6,A,J,K⟩,Dh,tI,rP,w4⟩;refine⟨.ready,none,g,[30,31],Aw,Bt,h1,by simp,?_⟩;simp only[Dz,Cg];obtain⟨S,T,xv,U,V,td,mQ,xr,z⟩:=Dh;have ic:(s'.put (s1.n+1) (.loop .exhausted none g [30,31] Aw Bt)).get Z=some (.cells .mut [.int .i64 B.L,E,F, .int .i64 (most:Int),S,T, .aR U,xv, .aR V]):=by rw[St.az,if_neg om];exact z.dR
  have Kw:=z.x.len;have Xb:(s'.put (s1.n+1) (.loop .exhausted none g [30,31] Aw Bt)).get s.n=some (.cells .mut [.int .i64 0, .int .i64 0, .aq, .aq]):=by rw[St.az,if_neg om];exact h3
  have hk6:(s'.put (s1.n+1) (.loop .exhausted none g [30,31] Aw Bt)).get (s.n+1)=some (.cells .mut [.int .i64 B.L, .int .i64 0,m,l]):=by rw[St.az,if_neg om];exact u
  have p:∀ id,id≠s1.n+1->(s'.put (s1.n+1) (.loop .exhausted none g [30,31] Aw Bt)).get id=s'.get id:=λid i=>by rw[St.az,if_neg om]
  have Ir:(s'.put (s1.n+1) (.loop .exhausted none g [30,31] Aw Bt)).n=s'.n:=rfl;generalize s'.put (s1.n+1) (.loop .exhausted none g [30,31] Aw Bt)=s2 at *;have UF:bf m=true:=by obtain⟨R,h,-⟩:=h6;exact h.cell
  have UE:bf l=true:=by obtain⟨R,h,-⟩:=A;exact h.cell
  have f:=Bx.mk (And.intro v (And.intro h6 (And.intro A (And.intro J (And.intro K (And.intro tI rP))))));clear h1 h3 u v h6 A J K tI rP z;by_cases C6:most<xs.length
  ·have Ze:(most:Int)<(xs.length:Int):=by omega
   have hOv:Over B most:=by
    rcases w4 with⟨h1,h2⟩ | ⟨-,h1,h2⟩
    ·exfalso;have:=f.out.2.2.2.2.2.2 n (Nat.le_refl _);rw[<- h1]at this;omega
    ·refine⟨n,λj hj=>⟨?_,f.out.2.2.2.2.2.2 j hj⟩,h2⟩;by_cases e:j=n
     ·subst e;exact h1
     ·exact f.out.2.2.2.2.2.1 j om
   clear w4;repeat' (first|refine aH (aj @ic (aj @Kw @Xb)) ?_|(first|apply ah|apply af)<;>intro y)
   refine cC (vs:=[.int .i64 0, .int .i64 0, .aq, .aq]) wN (by
    simp only[bt,List.map,List.map];simp[aU]) ?_
   repeat' (first|refine aH (aj @ic (aj @Kw @Xb)) ?_|(first|apply ah|apply af)<;>intro y)
   refine⟨.inr trivial,s.n,_,_,ef,by rw[St.az,if_pos rfl],ef,rfl,by simp;omega,λid i=>?_, .inr ⟨ef,hOv⟩⟩;rw[St.az,if_neg om,p _ om];exact f.out.1 id i
  ·have Ze:(xs.length:Int)<=(most:Int):=by omega
   have hF:Fits B most n:=by
    rcases w4 with⟨h1,h2⟩ | ⟨h1,-⟩
    ·exact⟨by rw[h1]at h2;exact h2,f.out.2.2.2.2.2.1,f.out.2.2.2.2.2.2⟩
    ·omega
   clear w4;repeat' (first|refine aH (aj @ic (aj @Kw (aj @Xb @hk6))) ?_|(first|apply ah|apply af)<;>intro y)
   refine⟨.inr trivial,s.n,_,_,ef,by rw[St.az,if_pos rfl],ef,rfl,by simp;omega,λid i=>?_, .inl ⟨n,m,l,ef,hF,f.out.2.1.mono (by simp;omega) λid d=>?_,f.out.2.2.1.mono (by simp;omega) λid d=>?_,λid d=>?_⟩⟩
   ·rw[St.az,if_neg om,p _ om];exact f.out.1 id i
   ·have:=(f.out.2.2.2.1 id d).1;rw[St.az,if_neg om,p _ om]
   ·have:=f.out.2.2.2.2.1 id d;rw[St.az,if_neg om,p _ om]
   ·rcases d with d | d
    ·have:=(f.out.2.2.2.1 id d).1;omega
    ·have:=f.out.2.2.2.2.1 id d;omega
theorem mokL {n:Nat}{ms:rE}(h:MOK n ms):ms.length<=2*n:=by
 have key:∀ k,k<ms.length->(k:Int)<=2*(ms.getD k (0,false)).1+(if (ms.getD k (0,false)).2=true then 1 else 0):=by
  intro k;induction k with
  | zero=>
    intro a;have:=(h 0 a).1;split<;>omega
  | succ k ih=>
    intro a;have h1:=ih om;have h2:=(h (k+1) a).2.2 om;rw[Nat.add_sub_cancel]at h2;rcases h2 with h2 | ⟨h2,h3,b⟩
    ·revert h1;split<;>split<;>omega
    ·rw[h3,if_neg (by decide)]at h1;rw[b,if_pos rfl];omega
 by_cases h0:ms.length=0
 ·omega
 ·have h1:=key (ms.length - 1) om;have h2:=(h (ms.length - 1) om).2.1;revert h1;split<;>omega
theorem Ue {B:Bu}(b:Vb B) (q a:Nat):(fQ B q a).length<=1000000:=by
 unfold fQ;by_cases c:q<B.next.length
 ·have h1:=b.2.2.2.2 q c;by_cases d:a<(B.next.getD q []).length
  ·have h2:=mokL (h1.2 a d);have:=b.2.2.1;omega
  ·rw[gD,List.getElem?_eq_none om];simp
 ·have:B.next.getD q []=[]:=by rw[gD,List.getElem?_eq_none om];rfl
  rw[this];simp
noncomputable def Bc (B:Bu) (i x:Nat):Nat:=(oo B (cL B (i+1)).1 ((cL B i).1.getD ((cL B i).2.getD i default).1 []) ((cL B i).2.getD i default).2 (cL B i).2 x).length
noncomputable def nxC (B:Bu) (i x:Nat):Nat:=z8 B (cL B (i+1)).1 ((cL B i).1.getD ((cL B i).2.getD i default).1 []) ((cL B i).2.getD i default).2 (cL B i).2 x
noncomputable def prC (B:Bu) (i x:Nat):Nat:=DE B ((cL B i).1.getD ((cL B i).2.getD i default).1 []) ((cL B i).2.getD i default).2 x
theorem HN (B:Bu) (i:Nat):PB B i=(List.range B.L.toNat).map λa=>(nxC B i a:Int):=rfl
theorem HK (B:Bu) (i:Nat):Pc B i=(List.range B.L.toNat).map λa=>(prC B i a:Int):=rfl
theorem Yk {f:Nat->Nat}{n x:Nat}(h:x<n):((List.range n).map λa=>(f a:Int))[x]? = some (f x:Int):=by
 rw[List.getElem?_map,List.getElem?_range h];rfl
theorem Bb (B:Bu) (i:Nat):Bc B i B.L.toNat=(cL B (i+1)).2.length:=rfl
theorem Lj (B:Bu) (i:Nat):Bc B i 0=(cL B i).2.length:=rfl
theorem tX {B:Bu}{i x:Nat}(h:x<=B.L.toNat):Bc B i x<=(cL B (i+1)).2.length:=by
 rw[<- Bb];exact xV B _ _ _ _ h
theorem nx_le (B:Bu) (i x:Nat):nxC B i x<=Bc B i x:=rN _ _ _
def XF (l:List Int):Prop:=∀ x∈l,0<=x/\x<65536
theorem wrap_u8 (n:Int) (h:0<=n):IntKind.u8.wrap n=n % 256:=by
 simp[IntKind.wrap,IntKind.bits,IntKind.signed]
theorem Om {x y:Int}(hx:0<=x/\x<256) (a:0<=y/\y<256) (h:UInt8.ofNat x.toNat=UInt8.ofNat y.toNat):x=y:=by
 have h1:=congrArg UInt8.toNat h;rw[UInt8.toNat_ofNat',UInt8.toNat_ofNat']at h1;omega
theorem Ck:∀ {l m:List Int},XF l->XF m->G3 l=G3 m->l=m
 | [],[],_,_,_=>rfl
 | [],y::m,_,_,h=>by simp[G3,b2]at h
 | x::l,[],_,_,h=>by simp[G3,b2]at h
 | x::l,y::m,hl,hm,h=>by
   have hx:=hl x (by simp);have d:=hm y (by simp);have b:G3 (x::l)=UInt8.ofNat (IntKind.u8.wrap x).toNat::UInt8.ofNat (IntKind.u8.wrap (x.fdiv 256)).toNat::G3 l:=by simp[G3,b2]
   have c:G3 (y::m)=UInt8.ofNat (IntKind.u8.wrap y).toNat::UInt8.ofNat (IntKind.u8.wrap (y.fdiv 256)).toNat::G3 m:=by simp[G3,b2]
   rw[b,c]at h;injection h with h1 h
   injection h with h2 h
   have f1:x.fdiv 256=x / 256:=Int.fdiv_eq_ediv_of_nonneg _ om;have f2:y.fdiv 256=y / 256:=Int.fdiv_eq_ediv_of_nonneg _ om;rw[wrap_u8 _ om,wrap_u8 _ om]at h1;rw[f1,f2,wrap_u8 _ om,wrap_u8 _ om]at h2;have h1:=Om om om h1;have h2:=Om om om h2;have e:x=y:=by omega
   rw[e,Ck (λz a=>hl z (by simp[a])) (λz a=>hm z (by simp[a])) h]
theorem oz (n:Nd) (t:List Nd):eX (n::t)=n.name::(n.par+1)::(n.set.length:Int)::(n.set++eX t):=by simp[eX]
theorem BA:∀ {t u:List Nd},eX t=eX u->t=u
 | [],[],_=>rfl
 | [],n::u,h=>by rw[oz]at h;simp[eX]at h
 | n::t,[],h=>by rw[oz]at h;simp[eX]at h
 | n::t,m::u,h=>by
   rw[oz,oz]at h;injection h with h1 h
   injection h with h2 h
   injection h with h3 h
   obtain⟨d,f⟩:=List.append_inj h om;rw[BA f];obtain⟨a,b,c⟩:=n;obtain⟨g,e,i⟩:=m;have h1:a=g:=h1;have h2:b+1=e+1:=h2;have d:c=i:=d;rw[h1,d,show b=e by omega]
theorem Qb {t u:List Nd}(a:XF (eX t)) (b:XF (eX u)) (h:cq t=cq u):t=u:=BA (Ck a b h)
theorem CO (k:Nat) (h:k<2147483648):um (k:Int)=((k % 32768:Nat):Int):=by
 unfold um;rw[BitVec.toNat_and];have h1:(BitVec.ofInt 64 (k:Int)).toNat=k:=by
  rw[BitVec.ofInt_natCast,BitVec.toNat_ofNat];exact Nat.mod_eq_of_lt om
 have h2:(BitVec.ofInt 64 32767).toNat=32767:=by decide
 rw[h1,h2,show (32767:Nat)=2 ^ 15 - 1 from rfl,Nat.and_two_pow_sub_one_eq_mod,wrap_i64 _ om om]
def XB (x:Nat × List Int):Prop:=x.1<2147483648/\XF x.2
theorem By {x:Nat × List Int}(h:XB x):XF (sR x):=by
 obtain⟨h1,h2⟩:=h;intro z a;unfold sR at a;have f1:(x.1:Int).fdiv 32768=(x.1:Int) / 32768:=Int.fdiv_eq_ediv_of_nonneg _ om;rw[CO _ h1,f1]at a;rcases List.mem_cons.1 a with rfl | a
 ·omega
 rcases List.mem_cons.1 a with rfl | a
 ·omega
 ·exact h2 z a
theorem Qa {x y:Nat × List Int}(hx:XB x) (c:XB y) (h:dr x=dr y):x=y:=by
 have h:=Ck (By hx) (By c) h;have f1:(x.1:Int).fdiv 32768=(x.1:Int) / 32768:=Int.fdiv_eq_ediv_of_nonneg _ om;have f2:(y.1:Int).fdiv 32768=(y.1:Int) / 32768:=Int.fdiv_eq_ediv_of_nonneg _ om;unfold sR at h;rw[CO _ hx.1,CO _ c.1,f1,f2]at h;injection h with h1 h
 injection h with h2 h
 obtain⟨a,b⟩:=x;obtain⟨d,f⟩:=y;have h:b=f:=h;have e:a=d:=by simp only at h1 h2;omega
 rw[e,h]
theorem tr_16 {N:Nat}{t:List Nd}(h:Tr N t) (hl:t.length<=N) (g:N<=1000):XF (eX t):=by
 intro z a;unfold eX at a;obtain⟨n,c,a⟩:=List.mem_flatMap.1 a;obtain⟨i,d,rfl⟩:=cF c;have h1:=h.1 i d;have f:(t.take i).length=i:=by rw[List.length_take];omega
 have j : -1<=(t.getD i default).par/\(t.getD i default).par<i+1:=by
  rcases Nat.eq_zero_or_pos i with e | e
  ·have:=h1.root (by omega);omega
  ·have:=h1.par (by omega);rw[f]at this;omega
 have hs:(t.getD i default).set.length<=N:=by
  have h2:=gn (b:=(List.range N).map λ(n:Nat)=>(n:Int)) (h1.inc.imp λh=>by omega) λx hx=>by
   have:=h1.tQ x hx;exact List.mem_map.2 ⟨x.toNat,List.mem_range.2 om,by omega⟩
  simpa using h2
 have k:=h1.name;rcases List.mem_cons.1 a with rfl | a
 ·omega
 rcases List.mem_cons.1 a with rfl | a
 ·omega
 rcases List.mem_cons.1 a with rfl | a
 ·omega
 ·have:=h1.tQ z a;omega
theorem Qp {α:Type}{key:α->List UInt8}{l:List α}{k:List UInt8}{d:α}(h:dw key l k<l.length):key (l.getD (dw key l k) d)=k:=by
 unfold dw at *;have:=List.findIdx_getElem (xs:=l) (p:=λx=>decide (key x=k)) (w:=h);rw[decide_eq_true_eq]at this;rw[gD,gE h];exact this
theorem zw {α:Type}{l m:List α}{d:α}{i:Nat}(h:i<l.length):(l++m).getD i d=l.getD i d:=by
 simp[gD,List.getElem?_append_left h]
section
variable {B:Bu}
theorem Oz (b:Vb B) {t:List Nd}(h:EP B t) (a:Nat):EP B (kz B t a)/\kz B t a=Go.pR.step B.next.length (λq=>fQ B q a) t:=by
 have e:kz B t a=Go.pR.step B.next.length (λq=>fQ B q a) t:=if_pos h;rw[e];exact⟨⟨Ox h.2,Tm h.2 h.1⟩,rfl⟩
theorem Py (a:B.next.length<=10) {t:List Nd}(h:EP B t):XF (eX t):=tr_16 h.2 h.1 om
structure SqI (B:Bu) (n:Nat):Prop where
  tr:∀ t∈(cL B n).1,EP B t
  st:XD B.next.length (cL B n).1 (cL B n).2
  len:(cL B n).1.length<=1+n*64
theorem K6 {b:List (List Nd)}{t:List Nd} : ∀ {n:Nat}{u:List Nd},u∈jh B b t n->u∈b∨∃ a,a<n/\u=kz B t a
 | 0,u,h=>.inl h
 | n + 1, u, h => by
   rcases Gu h with h | h
   ·rcases K6 h with h | ⟨a,h1,h2⟩
    ·exact .inl h
    ·exact .inr ⟨a,by omega,h2⟩
   ·exact .inr ⟨n,by omega,h⟩
theorem Ux {l:List Int}(h:∀ k,k<l.length->0<k->l.getD (k - 1) 0<l.getD k 0):l.Pairwise (· < ·):=by
 rw[List.pairwise_iff_getElem];have key:∀ d i (h1:i<l.length) (h2:i+d+1<l.length),l[i]<l[i+d+1]:=by
  intro d;induction d with
  | zero=>
    intro i h1 h2;have:=h (i+1) h2 om;simpa[gD,h1,h2] using this
  | succ d ih=>
    intro i h1 h2;have h3:=ih i h1 om;have a:=h (i+d+1+1) h2 om;have b:i+d+1<l.length:=by omega
    have h6:i+d+1+1<l.length:=by omega
    simp only[Nat.add_sub_cancel,gD,gE b,gE h6,Option.getD_some]at a;have e:l[i+(d+1)+1]=l[i+d+1+1]:=rfl;omega
 intro i j c g f;have:=key (j - i - 1) i c om;have e:i+(j - i - 1)+1=j:=by omega
 simpa only[e] using this
theorem XP (c:Vb B):EP B (xj B):=by
 obtain⟨-,-,-,hs,-⟩:=c;unfold xj;split
 ·exact⟨Nat.zero_le _,λi a=>absurd a (Nat.not_lt_zero _),λi a=>absurd a (Nat.not_lt_zero _)⟩
 ·rename_i dB;have d:0<B.start.length:=List.length_pos_iff.2 dB;have e:1<=B.next.length:=by have:=hs 0 d;omega
  refine⟨e,λi a=>?_,λi a=>?_⟩
  ·have:i=0:=by simp at a;omega
   subst this;refine⟨λ_=>rfl,λh=>absurd h (by simp),⟨by show (1:Int)<=1;omega,by show (1:Int)<=_;omega,by simp⟩,dB,λx hx=>?_,Ux λk b h0=>(hs k b).2.2 h0,λh=>absurd h (by simp)⟩;obtain⟨k,b,rfl⟩:=List.getElem_of_mem (show x∈B.start from hx);have:=hs k b;simp only[gD,gE b,Option.getD_some]at this;omega
  ·have:i=0:=by simp at a;omega
   subst this;intro h;have h:(below [(⟨1,-1,B.start⟩:Nd)] 0).length=B.start.length:=h;rw[jy,if_neg (by show ¬ (-1:Int)=0;omega)]at h;simp at h;omega
theorem sqI (b:Vb B) (u:B.next.length<=10):∀ n,(∀ j,j<n->j<(cL B j).2.length)->SqI B n:=by
 intro n;induction n with
 | zero=>
   intro _;refine⟨λt d=>?_,λx hx=>?_,?_⟩
   ·rw[List.mem_singleton.1 d];exact XP b
   ·rw[List.mem_singleton.1 hx];exact⟨by show 0<1;omega,Cw om,g8 _⟩
   ·show 1<=_;omega
 | succ n ih=>
   intro f;obtain⟨h1,h2,h3⟩:=ih λj v=>f j om;have hm:(cL B n).2.getD n default∈(cL B n).2:=Go.Pv.cn (f n om);obtain⟨i,k,l⟩:=h2 _ hm;have d:EP B ((cL B n).1.getD ((cL B n).2.getD n default).1 []):=h1 _ (Go.Pv.cn i);obtain⟨m,c,w⟩:=se B (cL B n).1 ((cL B n).1.getD ((cL B n).2.getD n default).1 []) 0 B.L.toNat;rw[Nat.zero_add]at c;have g:(cL B (n+1)).1=jh B (cL B n).1 ((cL B n).1.getD ((cL B n).2.getD n default).1 []) B.L.toNat:=rfl;have o:jh B (cL B n).1 ((cL B n).1.getD ((cL B n).2.getD n default).1 []) 0=(cL B n).1:=rfl;rw[o]at c;have y:=b.1;have p:=b.2.1;refine⟨λt e=>?_,?_,?_⟩
   ·rcases K6 e with h | ⟨a,_,rfl⟩
    ·exact h1 t h
    ·exact (Oz b d a).1
   ·refine G0 (λx hx=>?_) k l λa q=>(xS B _ _ q).2;obtain⟨z,r,s⟩:=h2 x hx;refine⟨?_,r,s⟩;show x.1<(cL B (n+1)).1.length;rw[g,c,List.length_append];omega
   ·rw[g,c,List.length_append];omega
theorem N6 (B:Bu) (a:List (List Nd)) (t:List Nd) (r:List Int) (xs:Xs) {n m:Nat}(h:n<=m):∃ d,oo B a t r xs m=oo B a t r xs n++d:=by
 induction h with
 | refl=>exact⟨[],by simp⟩
 | step h ih=>
   rename_i m;obtain⟨d,b⟩:=ih;obtain⟨d2,h1,-⟩:=uX dr (oo B a t r xs m) (kA B a t m,vA B t r m);have h2:oo B a t r xs (m+1)=oo B a t r xs m++d2:=h1;exact⟨d++d2,by rw[h2,b,List.append_assoc]⟩
theorem Cp (B:Bu) (n:Nat):∀ d,(∃ m,(cL B (n+d)).1=(cL B n).1++m)/\∃ m,(cL B (n+d)).2=(cL B n).2++m:=by
 intro d;induction d with
 | zero=>exact⟨⟨[],by simp⟩,[],by simp⟩
 | succ d ih=>
   obtain⟨⟨c,h1⟩,f,h2⟩:=ih;obtain⟨m,a,-⟩:=se B (cL B (n+d)).1 ((cL B (n+d)).1.getD ((cL B (n+d)).2.getD (n+d) default).1 []) 0 B.L.toNat;rw[Nat.zero_add]at a;obtain⟨b,g,-⟩:=xg B (cL B (n+d+1)).1 ((cL B (n+d)).1.getD ((cL B (n+d)).2.getD (n+d) default).1 []) ((cL B (n+d)).2.getD (n+d) default).2 (cL B (n+d)).2 B.L.toNat;refine⟨⟨c++m,?_⟩,f++b,?_⟩
   ·have e:(cL B (n+d+1)).1=(cL B (n+d)).1++m:=a;rw[show n+(d+1)=n+d+1 from rfl,e,h1,List.append_assoc]
   ·have e:(cL B (n+d+1)).2=(cL B (n+d)).2++b:=g;rw[show n+(d+1)=n+d+1 from rfl,e,h2,List.append_assoc]
noncomputable def jV (B:Bu) (n j:Nat):List Nd:=(cL B n).1.getD ((cL B n).2.getD j default).1 []
noncomputable def pL (B:Bu) (n j:Nat):List Int:=((cL B n).2.getD j default).2
end
section
variable {B:Bu}
theorem Ud (f:Vb B) {a:Nat}(j:a<B.L.toNat) {y:Nat}{b:Bool}{x:Int}(h:(x,b)∈fQ B y a):0<=x/\x<(B.next.length:Int):=by
 obtain⟨-,-,-,-,g⟩:=f;unfold fQ at h;by_cases i:y<B.next.length
 ·obtain⟨h1,h2⟩:=g y i;have h3:=h2 a om;obtain⟨k,d,e⟩:=List.getElem_of_mem h;have c:=h3 k d;rw[gD,gE d,Option.getD_some,e]at c;exact⟨c.1,c.2.1⟩
 ·have e:B.next.getD y []=[]:=by simp[gD,List.getElem?_eq_none (show B.next.length<=y by omega)]
  rw[e]at h;simp at h
noncomputable def nxL (B:Bu) (n:Nat):List (List Int):=(List.range n).map (PB B)
noncomputable def prL (B:Bu) (n:Nat):List (List Int):=(List.range n).map (Pc B)
theorem zu {α:Type}{f:Nat->α}{n i:Nat}{d:α}(h:i<n):((List.range n).map f).getD i d=f i:=by
 simp[gD,h]
end
theorem MS {s:St}{j len:Nat}{m:Md}{cs:List LV}(n:Nat) (h:s.get j=some (.cells m cs)) (hl:cs.length=len) (a:LV.closed.au cs=true):cY (n+2) (.aE j 0 len 1) s=some (.aF cs len,s.put j (.cells (if m = .mut then .app else m) cs)):=by
 unfold cY;simp only[LV.closed,Bool.false_eq_true,if_false,h,Nat.zero_add,Nat.mul_one,hl,Nat.le_refl,if_true,ie a,Option.bind_eq_bind,Option.bind_some,List.drop_zero,Option.some.injEq,Prod.mk.injEq,and_true];rw[List.take_of_length_le om]
theorem KU {s:St}{j1 j2 n:Nat}{R1 R2:List LV}{L:Int}{er:LV}(h1:s.get j1=some (.cells .mut R1)) (h2:s.get j2=some (.cells .mut R2)) (l1:R1.length=n) (l2:R2.length=n) (c1:LV.closed.au R1=true) (c2:LV.closed.au R2=true) (b:er.closed=true) :
 ∃ s',cY bp (.cE [.agg [.int .i64 L, .int .i64 0, .aE j1 0 n 1, .aE j2 0 n 1],er]) s=some (.cE [.agg [.int .i64 L, .int .i64 0, .aF R1 n, .aF R2 n],er],s'):=by
 have a1:cY 38 (.aE j1 0 n 1) s=some (.aF R1 n,s.put j1 (.cells .app R1)):=gQ 36 h1 l1 c1;have a:∃ m,(s.put j1 (.cells .app R1)).get j2=some (.cells m R2):=by
  by_cases e:j2=j1
  ·subst e;rw[h1]at h2;cases h2;exact⟨_,by rw[St.az,if_pos rfl]⟩
  ·exact⟨_,by rw[St.az,if_neg e];exact h2⟩
 obtain⟨m,a⟩:=a;have a2:=MS 36 a l2 c2;have c:=λs=>jw (n:=37) (v:=.int .i64 L) (s:=s) rfl;have d:=λs=>jw (n:=37) (v:=.int .i64 0) (s:=s) rfl;have f:=λs=>jw (n:=38) (v:=er) (s:=s) b;have a3:∃ s',cY 39 (.agg [.int .i64 L, .int .i64 0, .aE j1 0 n 1, .aE j2 0 n 1]) s=some (.agg [.int .i64 L, .int .i64 0, .aF R1 n, .aF R2 n],s'):=by
  refine⟨((s.put j1 (.cells .app R1)).put j2 (.cells (if m = .mut then .app else m) R2)),VE 38 (by simp[LV.closed,LV.closed.au]) ?_⟩
  ·simp only[cY.cM,c,d,a1,a2,Option.bind_eq_bind,Option.bind_some]
 obtain⟨s',a3⟩:=a3;refine⟨s',?_⟩;show cY (39+1) _ s=_;unfold cY;simp[LV.closed,LV.closed.au,cY.cM,a3,f]
def PX (B:Bu) (most:Nat) (r:LV):Prop:=(∃ n a b c d,r = .cE [.agg [.int .i64 B.L, .int .i64 0,a,b], .int .i64 0]/\Fits B most n/\bN a (nxL B n) c/\bN b (prL B n) d)∨(r = .cE [.agg [.int .i64 0, .int .i64 0, .aq, .aq], .int .i64 2]/\Over B most)
theorem xo {f:Nat->List Int}{R:List LV}{n:Nat}(hl:R.length=n) (b:n<=1000) (h:∀ j,j<n->aP (R.getD j .top) (f j)):bN (.aF R n) ((List.range n).map f) R:=by
 have c:=lG;refine⟨?_,by simp[hl],by simp;omega,λi a=>?_⟩
 ·have:Sl (.aF R n) R n:=.aF _ _;simpa using this
 ·simp only[List.length_map,List.length_range]at a;rw[zu a];exact h i a
theorem Ng {b:LV}{B:Bu}{l m:LV}{most:Nat}(hB:vo b B l m) (c:Vb B) (o:B.next.length<=10) (hl:B.start.length<=64) (p:1<=most) (q:most<=1000):PE 8 [b, .int .i64 (most:Int)] (PX B most):=by
 refine⟨rfl,by simp[LV.closed.au,LV.closed,hB.closed],aM.mono (Si hB c o hl (Ue c) p q St.empty) λr s' s=>?_⟩;obtain⟨-,-,⟨n,y,z,rfl,a,⟨d,e,f,t⟩,⟨g,i,j,u⟩,-⟩ | ⟨rfl,ho⟩⟩:=s
 ·have k:0<n:=by
   rcases Nat.eq_zero_or_pos n with h | h
   ·subst h;exact absurd a.1 (by show ¬ (0:Nat)=1;omega)
   ·exact h
  have A:n<=most:=by have:=a.2.2 n (Nat.le_refl _);have:=a.1;omega
  have l1:d.length=n:=by have:=e.1;omega
  have l2:g.length=n:=by have:=i.1;omega
  obtain⟨C,rfl,D,v⟩:=e.pos k;obtain⟨E,rfl,F,w⟩:=i.pos k;obtain⟨s2,x⟩:=KU (L:=B.L) (er:=.int .i64 0) v w l1 l2 f j rfl;exact⟨_,s2,x,by simp[LV.closed,LV.closed.au,f,j], .inl ⟨n,_,_,d,g,rfl,a,xo l1 om t,xo l2 om u⟩⟩
 ·exact⟨_,s',bk rfl,rfl, .inr ⟨rfl,ho⟩⟩
end Go.Proofs.YtkbiecjdcjfhaaaGreat
end
