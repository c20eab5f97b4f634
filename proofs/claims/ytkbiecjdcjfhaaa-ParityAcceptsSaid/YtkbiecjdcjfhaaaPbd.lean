/- parity.Build. -/
import Derived.Test.YtkbiecjdcjfhaaaPaf
import Derived.Test.YtkbiecjdcjfhaaaPsr
import Derived.Test.YtkbiecjdcjfhaaaValid
import Derived.Test.YtkbiecjdcjfhaaaTre
import Derived.Test.YtkbiecjdcjfhaaaRecv
set_option linter.unusedSimpArgs false
set_option linter.unusedVariables false
set_option maxRecDepth 100000
set_option maxHeartbeats 16000000
section
namespace Go.Proofs.Ytkbiecjdcjfhaaa
open Go Go.Pv Go.Jo
open Classical
theorem Rz {Z:Nat}(s:St):aJ Try.prog GL (.fn (.func 22) [] []) [.aH Z 0] s (λr s'=>r = .fn (.func 39) [] [.aH s.n 0]/\s'=s.new (.cells .mut [.aH Z 0])):=by
 refine bL (first:=[]) (caps:=[]) Try.func22 (by decide +kernel) c22 (Nat.le_of_ble_eq_true rfl) (aQ.mono (Q:=λo e s'=>(o = .normal∨o = .jmp .ret)/\e.at 2 = .fn (.func 39) [] [.aH s.n 0]/\s'=s.new (.cells .mut [.aH Z 0])) ?_ λo e s' b=>by
  obtain⟨h1,h2,h3⟩:=b;exact⟨h1,_,by simp[l22,br,bO,h2],rfl,h3⟩)
 refine Cd.out (sJ λe c=>?_);unfold l22;dsimp only[jA,qm];refine lX ?_;refine ig hm ?_;refine eN (v:=.aH s.n 0) (s':=s.new (.cells .mut [.aH Z 0])) (by simp only[aR.run,lk,UD,gW,c];try rfl) ?_;repeat' (first | refine gN trivial ?_ | (refine gB trivial ?_;rintro (_|_) a<;>try simp only[aG,reduceCtorEq]at a<;>try first | (exfalso;omega) | exact a.elim) | fail)
 exact⟨.inr trivial,ef,trivial⟩
noncomputable def cD (B:Bu) (n:Nat):List (List Nd) × Xs:=sq B [Aa B] [(0,oX (2*B.next.length))] n
def Fits (B:Bu) (most n:Nat):Prop:=n=(cD B n).2.length/\(∀ j,j<n->j<(cD B j).2.length)/\∀ j,j<=n->(cD B j).2.length<=most
def Over (B:Bu) (most:Nat):Prop:=∃ n,(∀ j,j<=n->j<(cD B j).2.length/\(cD B j).2.length<=most)/\most<(cD B (n+1)).2.length
noncomputable def Yk (B:Bu) (n:Nat):List Int:=sqN B [Aa B] [(0,oX (2*B.next.length))] n
noncomputable def Yj (B:Bu) (n:Nat):List Int:=sqP B [Aa B] [(0,oX (2*B.next.length))] n
def nP (s:St) (v:LV) (f:Nat->List Int) (n:Nat):Prop:=∃ R,dQ s v 1 R n/\LV.closed.aq R=true/\∀ j,j<n->aM (R.getD j .top) (f j)
theorem nP.mono {s s':St}{v:LV}{f:Nat->List Int}{n:Nat}(h:nP s v f n) (a:s.n<=s'.n) (hs:∀ id,aP v id->s'.get id=s.get id):nP s' v f n:=by
 obtain⟨R,h1,h2⟩:=h;exact⟨R,h1.mono a hs,h2⟩
theorem zQ {l m:List LV} : LV.closed.aq (l++m)=(LV.closed.aq l && LV.closed.aq m):=by
 induction l with
 | nil=>simp[LV.closed.aq]
 | cons a l ih=>simp[LV.closed.aq,ih,Bool.and_assoc]
theorem nP.app {s':St}{v' xv:LV}{f:Nat->List Int}{n:Nat}{R:List LV}(a:LV.closed.aq R=true) (b:∀ j,j<n->aM (R.getD j .top) (f j)) (hl:R.length=n) (hx:aM xv (f n)) (h:dQ s' v' 1 (R++[xv]) (n+1)):nP s' v' f (n+1):=by
 refine⟨_,h,?_,λj c=>?_⟩
 ·rw[zQ,a];simp[LV.closed.aq,hx.closed]
 ·by_cases e:j<n
  ·have:=b j e;rwa[gD,List.getElem?_append_left om,<- gD]
  ·have:j=n:=by omega
   subst this;rw[gD,List.getElem?_append_right om,hl];simpa using hx
abbrev zn:bp:=.seq (.region [{ dst:=some 8,op:=.mv (.t 30) }]) (.region [{ dst:=some 9,op:=.mv (.t 31) }])
abbrev Ay:bp:=.block 1 (.seq (.region [{ dst:=some 32,op:=.rQ 2 (.t 6) },{ dst:=some 33,op:=.load none (.t 32) },{ dst:=some 34,op:=.mv (.t 8) },{ dst:=some 35,op:=.bt 1 1 [.aj] [(0,(1, .t 34))] },{ dst:=some 36,op:=.append 1 24 (.t 33) (.t 35) },{ dst:=some 37,op:=.rQ 2 (.t 6) },{ dst:=none,op:=.store 1 (.t 37) (.t 36) }]) (.region [{ dst:=some 38,op:=.rQ 3 (.t 6) },{ dst:=some 39,op:=.load none (.t 38) },{ dst:=some 40,op:=.mv (.t 9) },{ dst:=some 41,op:=.bt 1 1 [.aj] [(0,(1, .t 40))] },{ dst:=some 42,op:=.append 1 24 (.t 39) (.t 41) },{ dst:=some 43,op:=.rQ 3 (.t 6) },{ dst:=none,op:=.store 1 (.t 43) (.t 42) }]))
def PAns (B:Bu) (most:Nat) (s:St) (r:LV) (s':St):Prop:=s.n<=s'.n/\(∀ id,id<s.n->s'.get id=s.get id)/\((∃ n a b,r = .cy [.agg [.int .i64 B.L, .int .i64 0,a,b], .int .i64 0]/\Fits B most n/\nP s' a (Yk B) n/\nP s' b (Yj B) n/\(∀ id,aP a id∨aP b id->s.n<=id))∨(r = .cy [.agg [.int .i64 0, .int .i64 0, .aj, .aj], .int .i64 2]/\Over B most))
theorem Rq (B:Bu) (n:Nat):(cD B n).2.length<=(cD B (n+1)).2.length:=by
 have h:=xg B (cD B (n+1)).1 ((cD B n).1.getD ((cD B n).2.getD n default).1 []) ((cD B n).2.getD n default).2 (cD B n).2 (Nat.zero_le B.L.toNat);exact h
theorem nP.lt {s:St}{v:LV}{f:Nat->List Int}{n id:Nat}(h:nP s v f n) (a:aP v id):id<s.n:=by
 obtain⟨R,h1,-⟩:=h;exact h1.lt a
def PbI (B:Bu) (s:St) (c:Env) (lo:Nat) (n:Nat) (C:Nat->Prop) (st:St):Prop:=
 ∃ b a,C=(λid=>id<s.n+2∨id=lo∨aP b id∨aP a id)/\st.get lo=some (.loop .ready none c [30,31] zn Ay)/\lo<st.n/\st.get s.n=some (.cells .mut [.int .i64 0, .int .i64 0, .aj, .aj])/\st.get (s.n+1)=some (.cells .mut [.int .i64 B.L, .int .i64 0,b,a])/\(∀ id,id<s.n->st.get id=s.get id)/\nP st b (Yk B) n/\nP st a (Yj B) n/\(∀ id,aP b id->lo<id/\¬ aP a id)/\∀ id,aP a id->lo<id
theorem Qi {bv:LV}{B:Bu}{F G:LV}{most:Nat}(hB:zW bv B F G) (hv:Vb B) (hN:B.next.length<=10) (hl:B.start.length<=64) (q8:∀ q a,(iV B q a).length<=1000000) (mP:1<=most) (IZ:most<=1000) (s:St) :
 aJ Try.prog GL (.fn (.func 7) [] []) [bv, .int .i64 (most:Int)] s (λr s'=>PAns B most s r s'):=by
 have H:=hB.closed;have iX:=nN hB;simp only[hv,decide_true]at iX;obtain⟨rfl,hs,hn⟩:=hB;have vK:=hs.closed;have uz:=hn.closed;have hB:zW (.agg [.int .i64 B.L,F,G]) B F G:=⟨rfl,hs,hn⟩;obtain⟨vs,iE⟩:=hn;have zG:=hs.sl.cell;have zI:=iE.sl.cell;refine bL (first:=[]) (caps:=[]) Try.func7 (by decide +kernel) c7 (Nat.le_of_ble_eq_true rfl) (aQ.mono (Q:=λo e s'=>(o = .normal∨o = .jmp .ret)/\∃ k c er,e.at 4 = .aH k 0/\s'.get k=some (.cells .mut c)/\e.at 5=er/\c.length=4/\PAns B most s (.cy [.agg c,er]) s') ?_ λo e s' hh=>by
  obtain⟨h1,k,c,er,h2,h3,v,w,h6⟩:=hh;match c,w,h3,h6 with
  | [c1,c2,c3,c4],_,h3,h6=>exact⟨h1,_,by simp[l7,br,bO,h2,h3,v,aT],h6⟩)
 refine Cd.out (pF λe e0 e1=>?_);unfold l7;dsimp only[jA,jC,jG,qM,qN,qF,qS,qC,qO,qP,qG,qm,ql];repeat' (first | refine gA @H ?_ | (refine gB @H ?_;rintro (_|_) f<;>try simp only[aG,reduceCtorEq]at f<;>try first | (exfalso;omega) | exact f.elim) | apply aA | fail)
 refine dR ez iX wN (by simp only[List.map,lk,Nat.reduceEqDiff,if_false,if_true,List.map]) trivial ?_;simp only[Env.au];repeat' (first | refine gA @H ?_ | (refine gB @H ?_;intro bb f;cases bb<;>(try simp only[aG]at f)<;>(try first | omega | exact f.elim)) | apply aA | fail)
 refine iF (vs:=[.int .i64 B.L, .int .i64 0, .aj, .aj]) wN (by
  simp only[bB,List.map,lk,dJ,Nat.reduceEqDiff,if_false,if_true,List.map];simp[aW,jj,splice]) ?_
 have wo:=λs=>R9 hB hv hN hl (most:Int) s;have sG:(LV.agg [.int .i64 B.L, .int .i64 0, .aj, .aj]).closed=true:=rfl;repeat' (first | refine gA @H ?_ | (refine gB @H ?_;rintro (_|_) f<;>try simp only[aG,reduceCtorEq]at f<;>try first | (exfalso;omega) | exact f.elim) | apply aA | fail)
 have hkA:(((s.new (.cells .mut [.int .i64 0, .int .i64 0, .aj, .aj])).new (.cells .mut [.int .i64 0, .int .i64 0, .aj, .aj])).put (s.n+1) (.cells .mut [.int .i64 B.L, .int .i64 0, .aj, .aj])).get s.n=some (.cells .mut [.int .i64 0, .int .i64 0, .aj, .aj]):=by rw[St.ah,if_neg om,St.az,if_neg (by simp),St.az,if_pos rfl]
 have hkP:(((s.new (.cells .mut [.int .i64 0, .int .i64 0, .aj, .aj])).new (.cells .mut [.int .i64 0, .int .i64 0, .aj, .aj])).put (s.n+1) (.cells .mut [.int .i64 B.L, .int .i64 0, .aj, .aj])).get (s.n+1)=some (.cells .mut [.int .i64 B.L, .int .i64 0, .aj, .aj]):=by rw[St.ah,if_pos rfl]
 have hoA:∀ id,id<s.n->(((s.new (.cells .mut [.int .i64 0, .int .i64 0, .aj, .aj])).new (.cells .mut [.int .i64 0, .int .i64 0, .aj, .aj])).put (s.n+1) (.cells .mut [.int .i64 B.L, .int .i64 0, .aj, .aj])).get id=s.get id:=λid m=>by rw[St.ah,if_neg om,St.az,if_neg (by simp;omega),St.az,if_neg om]
 have hnA:(((s.new (.cells .mut [.int .i64 0, .int .i64 0, .aj, .aj])).new (.cells .mut [.int .i64 0, .int .i64 0, .aj, .aj])).put (s.n+1) (.cells .mut [.int .i64 B.L, .int .i64 0, .aj, .aj])).n=s.n+2:=rfl;generalize ((s.new (.cells .mut [.int .i64 0, .int .i64 0, .aj, .aj])).new (.cells .mut [.int .i64 0, .int .i64 0, .aj, .aj])).put (s.n+1) (.cells .mut [.int .i64 B.L, .int .i64 0, .aj, .aj])=sA at *;refine bH wN (fv:=.fn (.func 21) [] []) (vs:=[.agg [.int .i64 B.L,F,G], .int .i64 (most:Int)]) ef (by simp only[List.map,lk,dJ,Nat.reduceEqDiff,if_false,if_true,List.map]) (aJ.mono (wo sA) λx i hh=>⟨trivial,?_⟩);simp only[Env.au];obtain⟨Z,O,rfl,hS,gH,hO,u⟩:=hh;have Ew:=(u s.n om).trans hkA;have hkP1:=(u (s.n+1) om).trans hkP;have J:∀ id,id<s.n->i.get id=s.get id:=λid m=>(u id om).trans (hoA id m);have hZO:s.n+2<=Z/\Z<i.n:=by
  obtain⟨tv,pv,xv,TN,SN,rT,mb,xr,z⟩:=hS;exact⟨by have:=hO Z z.oZ.1;omega,z.ol Z z.oZ.1⟩
 have hOl:∀ id,O id->id<i.n:=by
  obtain⟨tv,pv,xv,TN,SN,rT,mb,xr,z⟩:=hS;exact z.ol
 have eM:=Bx.mk (And.intro hS (And.intro hO J));clear hS hO u J hoA hkA hkP wo iX sG;repeat' (first | refine gA @H ?_ | (refine gB @H ?_;rintro (_|_) f<;>try simp only[aG,reduceCtorEq]at f<;>try first | (exfalso;omega) | exact f.elim) | apply aA | fail)
 refine bH wN (fv:=.fn (.func 22) [] []) (vs:=[.aH Z 0]) ef (by simp only[List.map,lk,dJ,Nat.reduceEqDiff,if_false,if_true,List.map]) (aJ.mono (Rz i) λx s2 hh=>⟨trivial,?_⟩);simp only[Env.au];obtain⟨rfl,rfl⟩:=hh;repeat' (first | refine gA @H ?_ | (refine gB @H ?_;rintro (_|_) f<;>try simp only[aG,reduceCtorEq]at f<;>try first | (exfalso;omega) | exact f.elim) | apply aA | fail)
 refine Dv (yv:=.fn (.func 39) [] [.aH i.n 0]) ef ?_;obtain⟨l,hE⟩:∃ l:Env,l=((((((((((((((((((((((((Tr.set e 2 (LV.aX [.int .i64 B.L,F,G] 0)).set 4 (.aH s.n 0)).set 5 (.int .i64 0)).set 10 (.agg [.int .i64 B.L,F,G])).set 11 (.bool true)).set 12 (.bool !true)).set 13 (.bool false)).set 14 (.int .i64 most)).set 15 (.bool false)).set 16 (.bool false)).set 17 (.bool false)).set 18 (.int .i64 most)).set 19 (.bool false)).set 20 (.bool false)).set 22 (.aX [.int .i64 B.L,F,G] 0)).set 23 (.int .i64 B.L)).set 24 (.agg [.int .i64 B.L, .int .i64 0, .aj, .aj])).set 6 (.aH (s.n+1) 0)).set 25 (.agg [.int .i64 B.L,F,G])).set 26 (.int .i64 most)).set 27 (.aH Z 0)).set 7 (.aH Z 0)).set 28 (.aH Z 0)).set 29 (.fn (.func 39) [] [.aH i.n 0])):=⟨_,rfl⟩;have e1:l.at 1 = .int .i64 (most:Int):=by rw[hE];simp only[lk,dJ,Nat.reduceEqDiff,if_false,e1]
 have e4:l.at 4 = .aH s.n 0:=by rw[hE];simp only[lk,dJ,Nat.reduceEqDiff,if_false,if_true]
 have e6:l.at 6 = .aH (s.n+1) 0:=by rw[hE];simp only[lk,dJ,Nat.reduceEqDiff,if_false,if_true]
 have e7:l.at 7 = .aH Z 0:=by rw[hE];simp only[lk,dJ,Nat.reduceEqDiff,if_false,if_true]
 rw[<- hE,St.dZ];clear hE e0;have hSr:∃ tv pv xv TN SN rT mb xr,SX ((i.new (.cells .mut [.aH Z 0])).new (.loop .ready none l [30,31] zn Ay)) Z B F G (most:Int) [Aa B] [(0,oX (2*B.next.length))] O (λ_=>False) tv pv xv TN SN rT mb xr:=by
  obtain⟨tv,pv,xv,TN,SN,rT,mb,xr,z⟩:=eM.out.1;exact⟨tv,pv,xv,TN,SN,rT,mb,xr,z.keep (by simp;omega) λid m=>by have:=hOl id m;rw[St.az,if_neg (by simp;omega),St.az,if_neg om]⟩
 refine aJ.mono (RA (Z:=Z) (b:=i.n) (most:=most) (B:=B) (O:=O) hB hv hN q8 IZ (.qp (i.n+1)) ((i.new (.cells .mut [.aH Z 0])).new (.loop .ready none l [30,31] zn Ay)) hSr (by rw[St.az,if_neg (by simp),St.az,if_pos rfl]) (by simp;omega) (λh=>by have:=hOl _ h;omega) ?_ (by simp) (by simpa using mP)
  (PbI B s l (i.n+1)) (λid=>id<s.n+2∨id=i.n+1∨aP .aj id∨aP .aj id) rfl ?_ ?_ ?_ ?_ ?_) ?_
 ·intro x hx;rw[List.mem_singleton.1 hx];exact⟨by simp,BF om,gP _⟩
 ·exact⟨.aj, .aj,rfl,by rw[St.az,if_pos (by simp)],by simp,by rw[St.az,if_neg (by simp;omega),St.az,if_neg om];exact Ew,by rw[St.az,if_neg (by simp;omega),St.az,if_neg om];exact hkP1,λid m=>by rw[St.az,if_neg (by simp;omega),St.az,if_neg om];exact eM.out.2.2 id m,⟨[],dQ.nil _ _,rfl,λj hj=>by omega⟩,⟨[],dQ.nil _ _,rfl,λj hj=>by omega⟩,λid d=>absurd d (bq id),λid d=>absurd d (bq id)⟩
 ·rintro n C st ⟨t,p,rfl,h1,h2,h3,v,w,h6,A,K,M⟩ id hc;rcases hc with h | h | h | h
  ·omega
  ·omega
  ·exact h6.lt h
  ·exact A.lt h
 ·intro id hc;rcases hc with h | h | h | h
  ·exact⟨λho=>by have:=eM.out.2.1 id ho;omega,by omega⟩
  ·exact⟨λho=>by have:=hOl id ho;omega,by omega⟩
  ·exact absurd h (bq id)
  ·exact absurd h (bq id)
 ·rintro n C st D ⟨t,p,rfl,h1,h2,h3,v,w,h6,A,K,M⟩ jY hk;exact⟨t,p,rfl,(hk _ (.inr (.inl rfl))).trans h1,by omega,(hk _ (.inl om)).trans h3,(hk _ (.inl om)).trans v,λid m=>(hk id (.inl om)).trans (w id m),h6.mono jY λid d=>hk id (.inr (.inr (.inl d))),A.mono jY λid d=>hk id (.inr (.inr (.inr d))),K,M⟩
 ·rintro n C st Zp xv2 ⟨t,p,rfl,h1,h2,h3,v,w,h6,A,K,M⟩ uR Om fG IY;refine Dq h1 rfl λnt'=>?_;show Cd Try.prog GL true nt' zn (Tr.set (Tr.set l 30 Zp) 31 xv2) st _;have hx1c:=uR.sl.cell;have hx2c:=Om.sl.cell;have hv1c:aV t=true:=by obtain⟨R,h,-⟩:=h6;exact h.cell
  have hv2c:aV p=true:=by obtain⟨R,h,-⟩:=A;exact h.cell
  have hnm':n+1<=most:=by
   have:=Rq B n;have h1':n<(cD B n).2.length:=fG;have h2':(cD B (n+1)).2.length<=most:=IY;omega
  have g:=Bx.mk (And.intro h1 (And.intro h3 (And.intro w (And.intro h6 (And.intro A (And.intro K (And.intro M (And.intro uR Om))))))));clear h3 w h6 A K M uR Om;repeat' (first | refine gN trivial ?_ | (refine gB trivial ?_;rintro (_|_) f<;>try simp only[aG,reduceCtorEq]at f<;>try first | (exfalso;omega) | exact f.elim) | fail)
  refine⟨g.out.1,?_⟩;have E:(st.put (i.n+1) (.loop .busy none l [30,31] zn Ay)).get (s.n+1)=some (.cells .mut [.int .i64 B.L, .int .i64 0,t,p]):=by rw[St.ah,if_neg om];exact v
  have Ft:(st.put (i.n+1) (.loop .busy none l [30,31] zn Ay)).get (i.n+1)=some (.loop .busy none l [30,31] zn Ay):=by rw[St.ah,if_pos rfl]
  have u:∀ id,id≠i.n+1->(st.put (i.n+1) (.loop .busy none l [30,31] zn Ay)).get id=st.get id:=λid m=>by rw[St.ah,if_neg m]
  have OG:(st.put (i.n+1) (.loop .busy none l [30,31] zn Ay)).n=st.n:=rfl;generalize st.put (i.n+1) (.loop .busy none l [30,31] zn Ay)=st1 at *;clear h1 v;repeat' (first | refine gN @E ?_ | (refine gB @E ?_;rintro (_|_) f<;>try simp only[aG,reduceCtorEq]at f<;>try first | (exfalso;omega) | exact f.elim) | fail)
  have Y3:=g.out.2.2.2.1;have hR2:=g.out.2.2.2.2.1;have I:=g.out.2.2.2.2.2.1;have y:=g.out.2.2.2.2.2.2.1;have uR:=g.out.2.2.2.2.2.2.2.1;have Om:=g.out.2.2.2.2.2.2.2.2;obtain⟨R1,qx,mZ,mN⟩:=Y3;obtain⟨R2,Fy,uD,Ca⟩:=hR2;have o8:R1.length=n:=by have:=qx.1;omega
  have KW:R2.length=n:=by have:=Fy.1;omega
  have N:∀ id,aP t id->id<st.n:=λid d=>qx.lt d;have Tc:∀ id,aP p id->id<st.n:=λid d=>Fy.lt d;have P:=qx.mono (s':=st1) om λid d=>u id (by have:=(I id d).1;omega);have T:=Fy.mono (s':=st1) om λid d=>u id (by have:=y id d;omega);refine mF (n:=n) (aU:=1) (xv:=Zp) (yv:=t) (vs:=[Zp]) (cells:=R1) ef (pJ uR.sl) rfl rfl (by simp[LV.closed.aq,uR.closed]) ef P (by decide) om (λD j1 a1 a4 a5 a6=>?_);have U:D.get (s.n+1)=some (.cells .mut [.int .i64 B.L, .int .i64 0,t,p]):=by rw[a6 _ om λd=>by have:=I _ d;omega];exact E
  have G0:D.get (i.n+1)=some (.loop .busy none l [30,31] zn Ay):=by rw[a6 _ om λd=>by have:=I _ d;omega];exact Ft
  have V:=T.mono (s':=D) a5 λid d=>a6 id (by have:=Tc id d;omega) λh=>(I id h).2 d;have Jc:=Bx.mk (And.intro a4 (And.intro a6 (And.intro V (And.intro G0 (And.intro mN Ca)))));clear a4 a6 V G0 qx Fy P T E Ft mN Ca I y uR Om N Tc;repeat' (first | refine gN @U ?_ | (refine gB @U ?_;rintro (_|_) f<;>try simp only[aG,reduceCtorEq]at f<;>try first | (exfalso;omega) | exact f.elim) | fail)
  have I6:∀ id,id≠s.n+1->(D.put (s.n+1) (.cells .mut [.int .i64 B.L, .int .i64 0, .aD j1 0 (n+1) 1,p])).get id=D.get id:=λid m=>by rw[St.ah,if_neg m]
  have hk43:(D.put (s.n+1) (.cells .mut [.int .i64 B.L, .int .i64 0, .aD j1 0 (n+1) 1,p])).get (s.n+1)=some (.cells .mut [.int .i64 B.L, .int .i64 0, .aD j1 0 (n+1) 1,p]):=by rw[St.ah,if_pos rfl]
  have nG:(D.put (s.n+1) (.cells .mut [.int .i64 B.L, .int .i64 0, .aD j1 0 (n+1) 1,p])).n=D.n:=rfl;generalize D.put (s.n+1) (.cells .mut [.int .i64 B.L, .int .i64 0, .aD j1 0 (n+1) 1,p])=st3 at *;have I:=g.out.2.2.2.2.2.1;have y:=g.out.2.2.2.2.2.2.1;have X:=Jc.out.2.2.1.mono (s':=st3) om λid d=>I6 id (by have:=y id d;omega);refine mF (n:=n) (aU:=1) (xv:=xv2) (yv:=p) (vs:=[xv2]) (cells:=R2) ef (pJ g.out.2.2.2.2.2.2.2.2.sl) rfl rfl (by simp[LV.closed.aq,g.out.2.2.2.2.2.2.2.2.closed]) ef X (by decide) om (λYi j2 b1 b4 b5 b6=>?_);have Y:Yi.get (s.n+1)=some (.cells .mut [.int .i64 B.L, .int .i64 0, .aD j1 0 (n+1) 1,p]):=by rw[b6 _ om λd=>by have:=y _ d;omega];exact hk43
  have XO:=Bx.mk (And.intro b4 b6);clear b4 b6 X I y;repeat' (first | refine gN @Y ?_ | (refine gB @Y ?_;rintro (_|_) f<;>try simp only[aG,reduceCtorEq]at f<;>try first | (exfalso;omega) | exact f.elim) | fail)
  have hj1t:j1<D.n:=Jc.out.1.lt (aC.2 rfl);have hj2t:j2<Yi.n:=XO.out.1.lt (aC.2 rfl);have I:=g.out.2.2.2.2.2.1;have y:=g.out.2.2.2.2.2.2.1;have N:∀ id,aP t id->id<st.n:=λid d=>g.out.2.2.2.1.lt d;have Tc:∀ id,aP p id->id<st.n:=λid d=>g.out.2.2.2.2.1.lt d;have h14:∀ id,id<st.n->id≠i.n+1->id≠s.n+1->¬ aP t id->¬ aP p id->Yi.get id=st.get id:=λid h1 h2 h3 v w=>by
   rw[XO.out.2 id om w,I6 id h3,Jc.out.2.1 id om v,u id h2]
  have ri:Yi.get (i.n+1)=some (.loop .busy none l [30,31] zn Ay):=by
   rw[XO.out.2 _ om λd=>by have:=y _ d;omega,I6 _ om];exact Jc.out.2.2.2.1
  have iD:∀ id,id≠s.n+1->id≠i.n+1->((Yi.put (s.n+1) (.cells .mut [.int .i64 B.L, .int .i64 0, .aD j1 0 (n+1) 1, .aD j2 0 (n+1) 1])).put (i.n+1) (.loop .ready none l [30,31] zn Ay)).get id=Yi.get id:=λid h1 h2=>by rw[St.ah,if_neg h2,St.ah,if_neg h1]
  refine⟨.busy,none,l,[30,31],zn,Ay,by rw[St.ah,if_neg om];exact ri,rfl,by simp;omega,_,⟨.aD j1 0 (n+1) 1, .aD j2 0 (n+1) 1,rfl,by rw[St.ah,if_pos rfl],by simp;omega,?_,?_,λid m=>?_,?_,?_,λid d=>?_,λid d=>?_⟩,λid hc=>?_,λid m uz=>?_⟩
  ·rw[iD _ om om,h14 _ om om om (λd=>by have:=(I _ d).1;omega) λd=>by have:=y _ d;omega];exact g.out.2.1
  ·rw[St.ah,if_neg om,St.ah,if_pos rfl]
  ·rw[iD _ om om,h14 _ om om om (λd=>by have:=(I _ d).1;omega) λd=>by have:=y _ d;omega];exact g.out.2.2.1 id m
  ·refine nP.app mZ Jc.out.2.2.2.2.1 o8 g.out.2.2.2.2.2.2.2.1 (Jc.out.1.mono (by simp;omega) λid d=>?_);have:=aC.1 d;subst this;rw[iD _ om om,XO.out.2 _ om λd=>by have:=Tc _ d;omega,I6 _ om]
  ·refine nP.app uD Jc.out.2.2.2.2.2 KW g.out.2.2.2.2.2.2.2.2 (XO.out.1.mono (by simp) λid d=>?_);have:=aC.1 d;subst this;rw[iD _ om om]
  ·have:=aC.1 d;exact⟨by omega,λy=>by have:=aC.1 y;omega⟩
  ·have:=aC.1 d;omega
  ·rcases hc with h | h | h | h
   ·exact .inl (.inl h)
   ·exact .inl (.inr (.inl h))
   ·have:=aC.1 h;exact .inr om
   ·have:=aC.1 h;exact .inr om
  ·have h1:¬ id<s.n+2:=λh=>uz (.inl h);have h2:id≠i.n+1:=λh=>uz (.inr (.inl h));rw[iD _ om h2,h14 id m h2 om (λh=>uz (.inr (.inr (.inl h)))) λh=>uz (.inr (.inr (.inr h)))]
 ·rintro r s' ⟨hn,n,C,O',F',ts,xs,⟨t,p,rfl,h1,h2,h3,v,w,h6,A,K,M⟩,vP,rN,pX,kH⟩;refine⟨.ready,none,l,[30,31],zn,Ay,h1,by simp,?_⟩;simp only[CK,zi];obtain⟨tv,pv,xv,TN,SN,rT,mb,xr,z⟩:=vP;have ey:(s'.put (i.n+1) (.loop .exhausted none l [30,31] zn Ay)).get Z=some (.cells .mut [.int .i64 B.L,F,G, .int .i64 (most:Int),tv,pv, .aI TN,xv, .aI SN]):=by rw[St.ah,if_neg om];exact z.dD
  have Ej:=z.x.len;have E:(s'.put (i.n+1) (.loop .exhausted none l [30,31] zn Ay)).get s.n=some (.cells .mut [.int .i64 0, .int .i64 0, .aj, .aj]):=by rw[St.ah,if_neg om];exact h3
  have hk6:(s'.put (i.n+1) (.loop .exhausted none l [30,31] zn Ay)).get (s.n+1)=some (.cells .mut [.int .i64 B.L, .int .i64 0,t,p]):=by rw[St.ah,if_neg om];exact v
  have u:∀ id,id≠i.n+1->(s'.put (i.n+1) (.loop .exhausted none l [30,31] zn Ay)).get id=s'.get id:=λid m=>by rw[St.ah,if_neg om]
  have OG:(s'.put (i.n+1) (.loop .exhausted none l [30,31] zn Ay)).n=s'.n:=rfl;generalize s'.put (i.n+1) (.loop .exhausted none l [30,31] zn Ay)=s2 at *;have hv1c:aV t=true:=by obtain⟨R,h,-⟩:=h6;exact h.cell
  have hv2c:aV p=true:=by obtain⟨R,h,-⟩:=A;exact h.cell
  have g:=Bx.mk (And.intro w (And.intro h6 (And.intro A (And.intro K (And.intro M (And.intro rN pX))))));clear h1 h3 v w h6 A K M rN pX z;by_cases Er:most<xs.length
  ·have hovI:(most:Int)<(xs.length:Int):=by omega
   have hOv:Over B most:=by
    rcases kH with⟨h1,h2⟩ | ⟨-,h1,h2⟩
    ·exfalso;have:=g.out.2.2.2.2.2.2 n (Nat.le_refl _);rw[<- h1]at this;omega
    ·refine⟨n,λj hj=>⟨?_,g.out.2.2.2.2.2.2 j hj⟩,h2⟩;by_cases e:j=n
     ·subst e;exact h1
     ·exact g.out.2.2.2.2.2.1 j om
   clear kH;repeat' (first | refine gA (And.intro @ey (And.intro @Ej @E)) ?_ | (refine gB (And.intro @ey (And.intro @Ej @E)) ?_;intro bb f;cases bb<;>(try simp only[aG]at f)<;>(try first | omega | exact f.elim)) | apply aA | fail)
   refine iF (vs:=[.int .i64 0, .int .i64 0, .aj, .aj]) wN (by
    simp only[bB,List.map,List.map];simp[aW]) ?_
   repeat' (first | refine gA (And.intro @ey (And.intro @Ej @E)) ?_ | (refine gB (And.intro @ey (And.intro @Ej @E)) ?_;rintro (_|_) f<;>try simp only[aG,reduceCtorEq]at f<;>try first | (exfalso;omega) | exact f.elim) | apply aA | fail)
   refine⟨.inr trivial,s.n,_,_,ef,by rw[St.ah,if_pos rfl],ef,rfl,by simp;omega,λid m=>?_, .inr ⟨ef,hOv⟩⟩;rw[St.ah,if_neg om,u _ om];exact g.out.1 id m
  ·have hovI:(xs.length:Int)<=(most:Int):=by omega
   have hF:Fits B most n:=by
    rcases kH with⟨h1,h2⟩ | ⟨h1,-⟩
    ·exact⟨by rw[h1]at h2;exact h2,g.out.2.2.2.2.2.1,g.out.2.2.2.2.2.2⟩
    ·omega
   clear kH;repeat' (first | refine gA (And.intro @ey (And.intro @Ej (And.intro @E @hk6))) ?_ | (refine gB (And.intro @ey (And.intro @Ej (And.intro @E @hk6))) ?_;intro bb f;cases bb<;>(try simp only[aG]at f)<;>(try first | omega | exact f.elim)) | apply aA | fail)
   refine⟨.inr trivial,s.n,_,_,ef,by rw[St.ah,if_pos rfl],ef,rfl,by simp;omega,λid m=>?_, .inl ⟨n,t,p,ef,hF,g.out.2.1.mono (by simp;omega) λid d=>?_,g.out.2.2.1.mono (by simp;omega) λid d=>?_,λid d=>?_⟩⟩
   ·rw[St.ah,if_neg om,u _ om];exact g.out.1 id m
   ·have:=(g.out.2.2.2.1 id d).1;rw[St.ah,if_neg om,u _ om]
   ·have:=g.out.2.2.2.2.1 id d;rw[St.ah,if_neg om,u _ om]
   ·rcases d with d | d
    ·have:=(g.out.2.2.2.1 id d).1;omega
    ·have:=g.out.2.2.2.2.1 id d;omega
theorem mokL {n:Nat}{ms:nQ}(h:Zm n ms):ms.length<=2*n:=by
 have key:∀ k,k<ms.length->(k:Int)<=2*(ms.getD k (0,false)).1+(if (ms.getD k (0,false)).2=true then 1 else 0):=by
  intro k;induction k with
  | zero=>
    intro a;have:=(h 0 a).1;split<;>omega
  | succ k ih=>
    intro a;have h1:=ih om;have h2:=(h (k+1) a).2.2 om;rw[Nat.add_sub_cancel]at h2;rcases h2 with h2 | ⟨h2,h3,b⟩
    ·revert h1;split<;>split<;>omega
    ·rw[h3,if_neg (by decide)]at h1;rw[b,if_pos rfl];omega
 by_cases h0:ms.length=0
 ·omega
 ·have h1:=key (ms.length - 1) om;have h2:=(h (ms.length - 1) om).2.1;revert h1;split<;>omega
theorem Se {B:Bu}(b:Vb B) (q a:Nat):(iV B q a).length<=1000000:=by
 unfold iV;by_cases c:q<B.next.length
 ·have h1:=b.2.2.2.2 q c;by_cases d:a<(B.next.getD q []).length
  ·have h2:=mokL (h1.2 a d);have:=b.2.2.1;omega
  ·rw[gD,List.getElem?_eq_none om];simp
 ·have:B.next.getD q []=[]:=by rw[gD,List.getElem?_eq_none om];rfl
  rw[this];simp
noncomputable def UF (B:Bu) (i x:Nat):Nat:=(nR B (cD B (i+1)).1 ((cD B i).1.getD ((cD B i).2.getD i default).1 []) ((cD B i).2.getD i default).2 (cD B i).2 x).length
noncomputable def QA (B:Bu) (i x:Nat):Nat:=y9 B (cD B (i+1)).1 ((cD B i).1.getD ((cD B i).2.getD i default).1 []) ((cD B i).2.getD i default).2 (cD B i).2 x
noncomputable def LP (B:Bu) (i x:Nat):Nat:=y8 B ((cD B i).1.getD ((cD B i).2.getD i default).1 []) ((cD B i).2.getD i default).2 x
theorem Gd (B:Bu) (i:Nat):Yk B i=(List.range B.L.toNat).map λa=>(QA B i a:Int):=rfl
theorem Ga (B:Bu) (i:Nat):Yj B i=(List.range B.L.toNat).map λa=>(LP B i a:Int):=rfl
theorem JE (B:Bu) (i:Nat):UF B i B.L.toNat=(cD B (i+1)).2.length:=rfl
theorem BA {B:Bu}{i x:Nat}(h:x<=B.L.toNat):UF B i x<=(cD B (i+1)).2.length:=by
 rw[<- JE];exact xg B _ _ _ _ h
theorem VU (B:Bu):∀ n,(∀ j,j<n->j<(cD B j).2.length)->∀ x∈(cD B n).2,x.2.length=2*B.next.length:=by
 intro n;induction n with
 | zero=>
   intro _ x hx;rw[List.mem_singleton.1 hx];exact gP _
 | succ n ih=>
   intro b;have h1:=ih λj c=>b j om;have hm:(cD B n).2.getD n default∈(cD B n).2:=Go.Pv.bE (b n om);have hl:=h1 _ hm;have key:∀ k,∀ x∈nR B (cD B (n+1)).1 ((cD B n).1.getD ((cD B n).2.getD n default).1 []) ((cD B n).2.getD n default).2 (cD B n).2 k,x.2.length=2*B.next.length:=by
    intro k;induction k with
    | zero=>exact h1
    | succ k a=>
      intro x hx;rcases y4 hx with hx | rfl
      ·exact a x hx
      ·show (n6 _ _).length=_;rw[(je _ _).length_eq];exact hl
   exact key B.L.toNat
theorem Wb {B:Bu}{n i:Nat}(h:∀ j,j<n->j<(cD B j).2.length) (hi:i<n) (x:Nat):1<=LP B i x/\LP B i x<=4*B.next.length+1:=by
 have h1:=VU B i (λj a=>h j om) _ (Go.Pv.bE (d:=default) (h i hi));unfold LP y8;have:=An (marks (Ae B ((cD B i).1.getD ((cD B i).2.getD i default).1 []) x) (Af B ((cD B i).1.getD ((cD B i).2.getD i default).1 []) x) ((cD B i).2.getD i default).2.length) ((cD B i).2.getD i default).2;omega
def VF (l:List Int):Prop:=∀ x∈l,0<=x/\x<65536
theorem wrap_u8 (n:Int) (h:0<=n):IntKind.u8.wrap n=n % 256:=by
 simp[IntKind.wrap,IntKind.bits,IntKind.signed]
theorem ME {x y:Int}(hx:0<=x/\x<256) (a:0<=y/\y<256) (h:UInt8.ofNat x.toNat=UInt8.ofNat y.toNat):x=y:=by
 have h1:=congrArg UInt8.toNat h;rw[UInt8.toNat_ofNat',UInt8.toNat_ofNat']at h1;omega
theorem Br:∀ {l m:List Int},VF l->VF m->FF l=FF m->l=m
 | [],[],_,_,_=>rfl
 | [],y::m,_,_,h=>by simp[FF,b2]at h
 | x::l,[],_,_,h=>by simp[FF,b2]at h
 | x::l,y::m,hl,hm,h=>by
   have hx:=hl x (by simp);have d:=hm y (by simp);have b:FF (x::l)=UInt8.ofNat (IntKind.u8.wrap x).toNat::UInt8.ofNat (IntKind.u8.wrap (x.fdiv 256)).toNat::FF l:=by simp[FF,b2]
   have c:FF (y::m)=UInt8.ofNat (IntKind.u8.wrap y).toNat::UInt8.ofNat (IntKind.u8.wrap (y.fdiv 256)).toNat::FF m:=by simp[FF,b2]
   rw[b,c]at h;injection h with h1 h
   injection h with h2 h
   have f1:x.fdiv 256=x / 256:=Int.fdiv_eq_ediv_of_nonneg _ om;have f2:y.fdiv 256=y / 256:=Int.fdiv_eq_ediv_of_nonneg _ om;rw[wrap_u8 _ om,wrap_u8 _ om]at h1;rw[f1,f2,wrap_u8 _ om,wrap_u8 _ om]at h2;have h1:=ME om om h1;have h2:=ME om om h2;have e:x=y:=by omega
   rw[e,Br (λz a=>hl z (by simp[a])) (λz a=>hm z (by simp[a])) h]
theorem oa (n:Nd) (t:List Nd):eC (n::t)=n.name::(n.par+1)::(n.set.length:Int)::(n.set++eC t):=by simp[eC]
theorem AG:∀ {t u:List Nd},eC t=eC u->t=u
 | [],[],_=>rfl
 | [],n::u,h=>by rw[oa]at h;simp[eC]at h
 | n::t,[],h=>by rw[oa]at h;simp[eC]at h
 | n::t,m::u,h=>by
   rw[oa,oa]at h;injection h with h1 h
   injection h with h2 h
   injection h with h3 h
   obtain⟨d,f⟩:=List.append_inj h om;rw[AG f];obtain⟨a,b,c⟩:=n;obtain⟨g,e,i⟩:=m;have h1:a=g:=h1;have h2:b+1=e+1:=h2;have d:c=i:=d;rw[h1,d,show b=e by omega]
theorem N8 {t u:List Nd}(a:VF (eC t)) (b:VF (eC u)) (h:bZ t=bZ u):t=u:=AG (Br a b h)
theorem BX (k:Nat) (h:k<2147483648):tw (k:Int)=((k % 32768:Nat):Int):=by
 unfold tw;rw[BitVec.toNat_and];have h1:(BitVec.ofInt 64 (k:Int)).toNat=k:=by
  rw[BitVec.ofInt_natCast,BitVec.toNat_ofNat];exact Nat.mod_eq_of_lt om
 have h2:(BitVec.ofInt 64 32767).toNat=32767:=by decide
 rw[h1,h2,show (32767:Nat)=2 ^ 15 - 1 from rfl,Nat.and_two_pow_sub_one_eq_mod,wrap_i64 _ om om]
def XB (x:Nat × List Int):Prop:=x.1<2147483648/\VF x.2
theorem AE {x:Nat × List Int}(h:XB x):VF (rF x):=by
 obtain⟨h1,h2⟩:=h;intro z a;unfold rF at a;have f1:(x.1:Int).fdiv 32768=(x.1:Int) / 32768:=Int.fdiv_eq_ediv_of_nonneg _ om;rw[BX _ h1,f1]at a;rcases List.mem_cons.1 a with rfl | a
 ·omega
 rcases List.mem_cons.1 a with rfl | a
 ·omega
 ·exact h2 z a
theorem N7 {x y:Nat × List Int}(hx:XB x) (c:XB y) (h:dr x=dr y):x=y:=by
 have h:=Br (AE hx) (AE c) h;have f1:(x.1:Int).fdiv 32768=(x.1:Int) / 32768:=Int.fdiv_eq_ediv_of_nonneg _ om;have f2:(y.1:Int).fdiv 32768=(y.1:Int) / 32768:=Int.fdiv_eq_ediv_of_nonneg _ om;unfold rF at h;rw[BX _ hx.1,BX _ c.1,f1,f2]at h;injection h with h1 h
 injection h with h2 h
 obtain⟨a,b⟩:=x;obtain⟨d,f⟩:=y;have h:b=f:=h;have e:a=d:=by simp only at h1 h2;omega
 rw[e,h]
theorem ZC {N:Nat}{t:List Nd}(h:Tr N t) (hl:t.length<=N) (g:N<=1000):VF (eC t):=by
 intro z a;unfold eC at a;obtain⟨n,c,a⟩:=List.mem_flatMap.1 a;obtain⟨i,d,rfl⟩:=iJ c;have h1:=h.1 i d;have f:(t.take i).length=i:=by rw[List.length_take];omega
 have j : -1<=(t.getD i default).par/\(t.getD i default).par<i+1:=by
  rcases Nat.eq_zero_or_pos i with e | e
  ·have:=h1.root (by omega);omega
  ·have:=h1.par (by omega);rw[f]at this;omega
 have hs:(t.getD i default).set.length<=N:=by
  have h2:=k9 (b:=(List.range N).map λ(n:Nat)=>(n:Int)) (h1.inc.imp λh=>by omega) λx hx=>by
   have:=h1.jd x hx;exact List.mem_map.2 ⟨x.toNat,List.mem_range.2 om,by omega⟩
  simpa using h2
 have k:=h1.name;rcases List.mem_cons.1 a with rfl | a
 ·omega
 rcases List.mem_cons.1 a with rfl | a
 ·omega
 rcases List.mem_cons.1 a with rfl | a
 ·omega
 ·have:=h1.jd z a;omega
theorem Ec {α:Type}{key:α->List UInt8}{l:List α}{k:List UInt8}{d:α}(h:cZ key l k<l.length):key (l.getD (cZ key l k) d)=k:=by
 unfold cZ at *;have:=List.findIdx_getElem (xs:=l) (p:=λx=>decide (key x=k)) (w:=h);rw[decide_eq_true_eq]at this;rw[gD,gE h];exact this
theorem yA {α:Type}{l m:List α}{d:α}{i:Nat}(h:i<l.length):(l++m).getD i d=l.getD i d:=by
 simp[gD,List.getElem?_append_left h]
section
variable {B:Bu}
theorem FN (b:Vb B) {t:List Nd}(h:JY B t) (a:Nat):JY B (mC B t a)/\mC B t a=Go.Jo.step B.next.length (λq=>iV B q a) t:=by
 have e:mC B t a=Go.Jo.step B.next.length (λq=>iV B q a) t:=if_pos h;rw[e];exact⟨⟨MP h.2,Rm h.2 h.1⟩,rfl⟩
theorem NH (a:B.next.length<=10) {t:List Nd}(h:JY B t):VF (eC t):=ZC h.2 h.1 om
structure SqI (B:Bu) (n:Nat):Prop where
  tr:∀ t∈(cD B n).1,JY B t
  st:Zl B.next.length (cD B n).1 (cD B n).2
  len:(cD B n).1.length<=1+n*64
theorem Jm {b:List (List Nd)}{t:List Nd} : ∀ {n:Nat}{u:List Nd},u∈jb B b t n->u∈b∨∃ a,a<n/\u=mC B t a
 | 0,u,h=>.inl h
 | n + 1, u, h => by
   rcases y4 h with h | h
   ·rcases Jm h with h | ⟨a,h1,h2⟩
    ·exact .inl h
    ·exact .inr ⟨a,by omega,h2⟩
   ·exact .inr ⟨n,by omega,h⟩
theorem SE {l:List Int}(h:∀ k,k<l.length->0<k->l.getD (k - 1) 0<l.getD k 0):l.Pairwise (· < ·):=by
 rw[List.pairwise_iff_getElem];have key:∀ d i (h1:i<l.length) (h2:i+d+1<l.length),l[i]<l[i+d+1]:=by
  intro d;induction d with
  | zero=>
    intro i h1 h2;have:=h (i+1) h2 om;simpa[gD,h1,h2] using this
  | succ d ih=>
    intro i h1 h2;have h3:=ih i h1 om;have a:=h (i+d+1+1) h2 om;have b:i+d+1<l.length:=by omega
    have h6:i+d+1+1<l.length:=by omega
    simp only[Nat.add_sub_cancel,gD,gE b,gE h6,Option.getD_some]at a;have e:l[i+(d+1)+1]=l[i+d+1+1]:=rfl;omega
 intro i j c g f;have:=key (j - i - 1) i c om;have e:i+(j - i - 1)+1=j:=by omega
 simpa only[e] using this
theorem VP (c:Vb B):JY B (Aa B):=by
 obtain⟨-,-,-,hs,-⟩:=c;unfold Aa;split
 ·exact⟨Nat.zero_le _,λi a=>absurd a (Nat.not_lt_zero _),λi a=>absurd a (Nat.not_lt_zero _)⟩
 ·rename_i dH;have d:0<B.start.length:=List.length_pos_iff.2 dH;have e:1<=B.next.length:=by have:=hs 0 d;omega
  refine⟨e,λi a=>?_,λi a=>?_⟩
  ·have:i=0:=by simp at a;omega
   subst this;refine⟨λ_=>rfl,λh=>absurd h (by simp),⟨by show (1:Int)<=1;omega,by show (1:Int)<=_;omega,by simp⟩,dH,λx hx=>?_,SE λk b h0=>(hs k b).2.2 h0,λh=>absurd h (by simp)⟩;obtain⟨k,b,rfl⟩:=List.getElem_of_mem (show x∈B.start from hx);have:=hs k b;simp only[gD,gE b,Option.getD_some]at this;omega
  ·have:i=0:=by simp at a;omega
   subst this;intro h;have h:(below [(⟨1,-1,B.start⟩:Nd)] 0).length=B.start.length:=h;rw[ve,if_neg (by show ¬ (-1:Int)=0;omega)]at h;simp at h;omega
theorem sqI (b:Vb B) (u:B.next.length<=10):∀ n,(∀ j,j<n->j<(cD B j).2.length)->SqI B n:=by
 intro n;induction n with
 | zero=>
   intro _;refine⟨λt d=>?_,λx hx=>?_,?_⟩
   ·rw[List.mem_singleton.1 d];exact VP b
   ·rw[List.mem_singleton.1 hx];exact⟨by show 0<1;omega,BF om,gP _⟩
   ·show 1<=_;omega
 | succ n ih=>
   intro f;obtain⟨h1,h2,h3⟩:=ih λj v=>f j om;have hm:(cD B n).2.getD n default∈(cD B n).2:=Go.Pv.bE (f n om);obtain⟨i,k,l⟩:=h2 _ hm;have d:JY B ((cD B n).1.getD ((cD B n).2.getD n default).1 []):=h1 _ (Go.Pv.bE i);obtain⟨m,c,w⟩:=qV B (cD B n).1 ((cD B n).1.getD ((cD B n).2.getD n default).1 []) 0 B.L.toNat;rw[Nat.zero_add]at c;have g:(cD B (n+1)).1=jb B (cD B n).1 ((cD B n).1.getD ((cD B n).2.getD n default).1 []) B.L.toNat:=rfl;have o:jb B (cD B n).1 ((cD B n).1.getD ((cD B n).2.getD n default).1 []) 0=(cD B n).1:=rfl;rw[o]at c;have y:=b.1;have p:=b.2.1;refine⟨λt e=>?_,?_,?_⟩
   ·rcases Jm e with h | ⟨a,_,rfl⟩
    ·exact h1 t h
    ·exact (FN b d a).1
   ·refine Mk (λx hx=>?_) k l λa q=>(CA B _ _ q).2;obtain⟨z,r,s⟩:=h2 x hx;refine⟨?_,r,s⟩;show x.1<(cD B (n+1)).1.length;rw[g,c,List.length_append];omega
   ·rw[g,c,List.length_append];omega
theorem Ml (B:Bu) (a:List (List Nd)) (t:List Nd) (r:List Int) (xs:Xs) {n m:Nat}(h:n<=m):∃ d,nR B a t r xs m=nR B a t r xs n++d:=by
 induction h with
 | refl=>exact⟨[],by simp⟩
 | step h ih=>
   rename_i m;obtain⟨d,b⟩:=ih;obtain⟨d2,h1,-⟩:=ur dr (nR B a t r xs m) (kA B a t m,BH B t r m);have h2:nR B a t r xs (m+1)=nR B a t r xs m++d2:=h1;exact⟨d++d2,by rw[h2,b,List.append_assoc]⟩
theorem xq (B:Bu) (n:Nat):∀ d,(∃ m,(cD B (n+d)).1=(cD B n).1++m)/\∃ m,(cD B (n+d)).2=(cD B n).2++m:=by
 intro d;induction d with
 | zero=>exact⟨⟨[],by simp⟩,[],by simp⟩
 | succ d ih=>
   obtain⟨⟨m1,h1⟩,c,h2⟩:=ih;obtain⟨m,a,-⟩:=qV B (cD B (n+d)).1 ((cD B (n+d)).1.getD ((cD B (n+d)).2.getD (n+d) default).1 []) 0 B.L.toNat;rw[Nat.zero_add]at a;obtain⟨b,f,-⟩:=wH B (cD B (n+d+1)).1 ((cD B (n+d)).1.getD ((cD B (n+d)).2.getD (n+d) default).1 []) ((cD B (n+d)).2.getD (n+d) default).2 (cD B (n+d)).2 B.L.toNat;refine⟨⟨m1++m,?_⟩,c++b,?_⟩
   ·have e:(cD B (n+d+1)).1=(cD B (n+d)).1++m:=a;rw[show n+(d+1)=n+d+1 from rfl,e,h1,List.append_assoc]
   ·have e:(cD B (n+d+1)).2=(cD B (n+d)).2++b:=f;rw[show n+(d+1)=n+d+1 from rfl,e,h2,List.append_assoc]
noncomputable def jV (B:Bu) (n j:Nat):List Nd:=(cD B n).1.getD ((cD B n).2.getD j default).1 []
noncomputable def qX (B:Bu) (n j:Nat):List Int:=((cD B n).2.getD j default).2
theorem HP (b:Vb B) (c:B.next.length<=10) {n m j:Nat}(f:n<=m) (e:∀ j,j<n->j<(cD B j).2.length) (a:j<(cD B n).2.length):jV B m j=jV B n j/\qX B m j=qX B n j:=by
 obtain⟨⟨m1,h1⟩,g,h2⟩:=xq B n (m - n);rw[show n+(m - n)=m by omega]at h1 h2;have hx:=((sqI b c n e).st _ (Go.Pv.bE (d:=default) a)).1;unfold jV qX;rw[h2,yA a,h1,yA hx];exact⟨rfl,rfl⟩
theorem BR (e:Vb B) (b:B.next.length<=10) {n i a:Nat}(G:n<=1000) (c:∀ j,j<n->j<(cD B j).2.length) (H:n=(cD B n).2.length) (hi:i<n) (q:a<B.L.toNat) :
 QA B i a<n/\jV B n (QA B i a)=mC B (jV B n i) a/\qX B n (QA B i a)=BH B (jV B n i) (qX B n i) a/\LP B i a=y8 B (jV B n i) (qX B n i) a:=by
 have k:=sqI e b i λj g=>c j om;have f:=sqI e b (i+1) λj g=>c j om;obtain⟨r,s⟩:=HP e b (n:=i) (m:=n) om (λj g=>c j om) (c i hi);obtain⟨t,u,v⟩:=k.st _ (Go.Pv.bE (d:=default) (c i hi));have w:JY B (jV B i i):=k.tr _ (Go.Pv.bE t);have y:=FN e w a;have l:kA B (cD B (i+1)).1 (jV B i i) a<(cD B (i+1)).1.length:=(CA B _ _ q).2;have h:(cD B (i+1)).1.getD (kA B (cD B (i+1)).1 (jV B i i) a) []=mC B (jV B i i) a:=by
  have h1:=Ec (d:=[]) l;exact N8 (NH b (f.tr _ (Go.Pv.bE l))) (NH b y.1) h1
 have z:QA B i a=cZ dr (nR B (cD B (i+1)).1 (jV B i i) (qX B i i) (cD B i).2 (a+1)) (dr (kA B (cD B (i+1)).1 (jV B i i) a,BH B (jV B i i) (qX B i i) a)):=(uQ _ _ _).symm;have o:cZ dr (nR B (cD B (i+1)).1 (jV B i i) (qX B i i) (cD B i).2 (a+1)) (dr (kA B (cD B (i+1)).1 (jV B i i) a,BH B (jV B i i) (qX B i i) a))<(nR B (cD B (i+1)).1 (jV B i i) (qX B i i) (cD B i).2 (a+1)).length:=by
  have:=Ed dr (nR B (cD B (i+1)).1 (jV B i i) (qX B i i) (cD B i).2 a) (kA B (cD B (i+1)).1 (jV B i i) a,BH B (jV B i i) (qX B i i) a);rw[<- uQ]at this;exact this
 obtain⟨m,hm⟩:∃ m,(cD B (i+1)).2=nR B (cD B (i+1)).1 (jV B i i) (qX B i i) (cD B i).2 (a+1)++m:=Ml B _ _ _ _ (show a+1<=B.L.toNat by omega);have A:QA B i a<(cD B (i+1)).2.length:=by rw[hm,List.length_append];omega
 have p:(cD B (i+1)).2.getD (QA B i a) default=(kA B (cD B (i+1)).1 (jV B i i) a,BH B (jV B i i) (qX B i i) a):=by
  rw[hm,yA om,z];have h1:=Ec (d:=default) o;refine N7 ?_ ?_ h1
  ·have C:(nR B (cD B (i+1)).1 (jV B i i) (qX B i i) (cD B i).2 (a+1)).getD (cZ dr (nR B (cD B (i+1)).1 (jV B i i) (qX B i i) (cD B i).2 (a+1)) (dr (kA B (cD B (i+1)).1 (jV B i i) a,BH B (jV B i i) (qX B i i) a))) default∈(cD B (i+1)).2:=by rw[hm];exact List.mem_append_left _ (Go.Pv.bE o)
   obtain⟨I,D,J⟩:=f.st _ C;have:=f.len;exact⟨by omega,λx hx=>by have:=D.2.1 x hx;omega⟩
  ·have:=f.len;have E:(BH B (jV B i i) (qX B i i) a).Perm (qX B i i):=je _ _;exact⟨by show kA B _ _ _<_;omega,λx hx=>by
    have h2:=u.2.1 x (E.mem_iff.1 hx);rw[v]at h2;omega⟩
 obtain⟨⟨m1,h1⟩,K,h2⟩:=xq B (i+1) (n - (i+1));rw[show i+1+(n - (i+1))=n by omega]at h1 h2;have F:QA B i a<n:=by
  have:(cD B (i+1)).2.length<=(cD B n).2.length:=by rw[h2,List.length_append];omega
  omega
 obtain⟨u1,u2⟩:=HP e b (n:=i+1) (m:=n) om (λj g=>c j om) A;rw[u1,u2,r,s];refine⟨F,?_,?_,rfl⟩
 ·unfold jV;rw[p];exact h
 ·unfold qX;rw[p];rfl
end
end Go.Proofs.Ytkbiecjdcjfhaaa
end
