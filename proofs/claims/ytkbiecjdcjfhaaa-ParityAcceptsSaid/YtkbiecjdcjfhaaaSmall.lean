/- accept's small functions. -/
import Derived.Test.YtkbiecjdcjfhaaaNumber
import Derived.Test.YtkbiecjdcjfhaaaValid
import Derived.Test.YtkbiecjdcjfhaaaBase
import Derived.Test.YtkbiecjdcjfhaaaTarjan
set_option linter.unusedSimpArgs false
set_option linter.unusedVariables false
set_option maxRecDepth 100000
set_option maxHeartbeats 16000000
section
namespace Go.Proofs.Ytkbiecjdcjfhaaa
open Go Go.Pv Go.C2 Go.Bn
open Classical
def fk (l:List Nat):List Int:=l.map λ(i:Nat)=>(i:Int)
@[simp] theorem Rh (l:List Nat):(fk l).length=l.length:=by simp[fk]
theorem zY {l:List Nat}{i:Nat}(h:i<l.length):(ints (fk l))[i]? = some (.int .i64 (l.getD i 0:Int)):=by
 simp[ints,fk,gD,h]
structure CI (v:LV) (B:Bu) (ls:List Nat) (bk:Nat) (sv nv lv:LV):Prop where
  eq:v = .agg [.int .i64 B.L,sv,nv,lv, .int .i64 (bk:Int)]
  st:aM sv B.start
  nx:vh nv B.next
  lt:aM lv (fk ls)
  ok:Vb B
  pos:0<ls.length
  bk:bk<ls.length
  big:ls.length<=200
  let':∀ i,i<ls.length->(ls.getD i 0:Int)<B.L
theorem CI.closed {v:LV}{B:Bu}{ls:List Nat}{bk:Nat}{a b lv:LV}(h:CI v B ls bk a b lv):v.closed=true:=by
 rw[h.eq];simp[LV.closed,LV.closed.aq,h.st.closed,h.nx.closed,h.lt.closed]
def Zk (B:Bu):Mv:=λq a=>((B.next.getD q []).getD a []).map λm=>(m.1.toNat,m.2)
def cq (B:Bu) (ls:List Nat) (bk:Nat):C2.Tk:=⟨ls.length,bk,λi=>ls.getD i 0,Zk B⟩
def FB (B:Bu) (ls:List Nat) (p:Pl):nQ:=(B.next.getD p.2 []).getD (ls.getD p.1 0) []
def Bm (B:Bu) (ls:List Nat) (p:Pl):Prop:=p.1<ls.length/\p.2<B.next.length
theorem DO {v:LV}{B:Bu}{ls:List Nat}{bk:Nat}{x m lv:LV}(h:CI v B ls bk x m lv) {p:Pl}(y:Bm B ls p):PE 44 [v, .agg (bJ p)] (λr=>oI r (FB B ls p)):=by
 have z:=h.closed;obtain⟨rfl,A,C,n,D,H,I,J,E⟩:=h;obtain⟨vs,d⟩:=C;obtain⟨g,f⟩:=y;obtain⟨a,q⟩:=p;simp only at g f;obtain⟨j,l⟩:=d.row q f;have F:=D.2.2.2.2 q f;have c:ls.getD a 0<(B.next.getD q []).length:=by have:=E a g;have:=F.1;omega
 have b:=l.row _ c;have K:=A.sl.cell;have L:=d.sl.cell;have M:=n.sl.cell;refine n9 (t:=4) hm Try.func44 (by decide +kernel) c44 (Nat.le_of_ble_eq_true rfl) (by simp[LV.closed.aq,z,bJ];rfl) rfl ?_;refine pF λe N O=>?_;unfold l44;dsimp only[jA,jB,qM,qL,qF,qI,qO];have o:∀ s:St,mM 1 m (.int .i64 (q:Int)) s=some (.aX vs q,s):=λs=>by
  have:=cw (aU:=1) (k:=.i64) (s:=s) d.sl (i:=q) om;simpa using this
 have g1:vs[q]? = some (vs.getD q .top):=d.get f;have u:∀ s:St,mM 1 lv (.int .i64 (a:Int)) s=some (.aX (ints (fk ls)) a,s):=λs=>by
  have:=cw (aU:=1) (k:=.i64) (s:=s) n.sl (i:=a) (by simp;omega);simpa using this
 have g2:=zY g;have w:∀ s:St,mM 1 (vs.getD q .top) (.int .i64 (ls.getD a 0:Int)) s=some (.aX j (ls.getD a 0),s):=λs=>by
  have:=cw (aU:=1) (k:=.i64) (s:=s) l.sl (i:=ls.getD a 0) om;simpa using this
 have g3:j[ls.getD a 0]? = some (j.getD (ls.getD a 0) .top):=l.get c;repeat' (first | refine gA (And.intro @o (And.intro @g1 (And.intro @u (And.intro @g2 (And.intro @w @g3))))) ?_ | (refine gB (And.intro @o (And.intro @g1 (And.intro @u (And.intro @g2 (And.intro @w @g3))))) ?_;rintro (_|_) G<;>try simp only[aG,reduceCtorEq]at G) | fail)
 refine⟨.inr trivial,_,St.empty,?_,b.closed,b⟩;simp only[lk,Nat.reduceEqDiff,if_false,if_true];exact bf b.closed
theorem Fb {v:LV}{B:Bu}{ls:List Nat}{bk:Nat}{j k lv:LV}(h:CI v B ls bk j k lv) {p:Pl}(l:p.1<ls.length) (m:Int × Bool) (q:Nat) (g:m.1=(q:Int)):PO 45 [v, .agg (bJ p), .agg [.int .i64 m.1, .bool m.2]] (.agg (bJ ((cq B ls bk).after p (q,m.2)))):=by
 have n:=h.closed;obtain⟨rfl,o,f,i,u,w,x,y,z⟩:=h;obtain⟨vs,r⟩:=f;obtain⟨a,p2⟩:=p;obtain⟨m1,s⟩:=m;simp only at l g;subst g;have A:=o.sl.cell;have C:=r.sl.cell;have D:=i.sl.cell;have c:fm lv=some ls.length:=by have:=i.sl.len;simpa using this
 refine ZW Try.func45 (by decide +kernel) c45 (Nat.le_of_ble_eq_true rfl) (by simp only[LV.closed.aq,n,Bool.true_and];rfl) rfl ?_;refine ev3 λe E F G=>?_;unfold l45;dsimp only[jA,jG,qF,qS,qA,qO,qm,ql];have d:IntKind.i64.wrap ((a:Int)+1)=((a+1:Nat):Int):=by rw[wrap_i64 _ om om];rfl
 have f:(cq B ls bk).after (a,p2) (q,s)=(if a+1=ls.length then bk else a+1,q):=rfl;rw[f];repeat' (first | refine gA (And.intro @c @d) ?_ | (refine gB (And.intro @c @d) ?_;intro t b;cases t<;>(try simp only[aG]at b)) | apply aA | fail)
 ·have dH:¬ a+1=ls.length:=by rw[d]at b;omega
  simp only[if_neg dH];refine eN (v:=.agg (bJ (a+1,q))) (s':=_) (by simp only[aR.run,svq,Nat.reduceEqDiff,Nat.reduceAdd,Nat.reduceLeDiff,if_false,if_true,List.map,bB,aW,d];rfl) ?_;repeat' (first | refine gA @c ?_ | (refine gB @c ?_;rintro (_|_) b<;>try simp only[aG,reduceCtorEq]at b) | apply aA | fail)
  refine⟨.inr trivial,?_⟩;simp[br,bO,aT,bJ,splice]
 ·have dH:a+1=ls.length:=by rw[d]at b;omega
  simp only[if_pos dH];refine eN (v:=.agg (bJ (bk,q))) (s':=_) (by simp only[aR.run,svq,Nat.reduceEqDiff,Nat.reduceAdd,Nat.reduceLeDiff,if_false,if_true,List.map,bB,aW,d];rfl) ?_;repeat' (first | refine gA @c ?_ | (refine gB @c ?_;rintro (_|_) b<;>try simp only[aG,reduceCtorEq]at b) | apply aA | fail)
  refine⟨.inr trivial,?_⟩;simp[br,bO,aT,bJ,splice]
structure VH (v:LV) (ps:List Pl):Prop where
  sl:Sl v (dm ps) ps.length
  len:ps.length<=1000000
structure FO (s:St) (M:Nat) (pv bv:LV) (acc:Ac Pl):Prop where
  m1:M<s.n
  gM:s.get M=some (.map (lN (acc.map (·.1)) 0))
  sp:dQ s pv 2 (dm (acc.map (·.1))) acc.length
  sb:dQ s bv 1 (ints (acc.map (·.2))) acc.length
theorem B6 {B:Bu}{ls:List Nat}{l:List Pl}(d:l.Nodup) (h:∀ p∈l,Bm B ls p):l.length<=ls.length*B.next.length:=by
 have e:∀ p∈l,p.1*B.next.length+p.2<ls.length*B.next.length:=λp c=>by
  obtain⟨h1,h2⟩:=h p c;have:(p.1+1)*B.next.length<=ls.length*B.next.length:=Nat.mul_le_mul_right _ h1;rw[Nat.add_mul,Nat.one_mul]at this;omega
 have f:(l.map λp=>p.1*B.next.length+p.2).Nodup:=by
  rw[List.nodup_iff_pairwise_ne,List.pairwise_map];refine (List.nodup_iff_pairwise_ne.1 d).imp_of_mem ?_;intro a b g i j k;refine j ?_;obtain⟨a1,a2⟩:=h a g;obtain⟨s,b2⟩:=h b i;have m:(a.1*B.next.length+a.2) % B.next.length=a.2:=by rw[Nat.add_comm,Nat.add_mul_mod_self_right,Nat.mod_eq_of_lt a2]
  have n:(b.1*B.next.length+b.2) % B.next.length=b.2:=by rw[Nat.add_comm,Nat.add_mul_mod_self_right,Nat.mod_eq_of_lt b2]
  have o:a.2=b.2:=by rw[<- m,<- n,k]
  have q:a.1*B.next.length=b.1*B.next.length:=by omega
  have r:a.1=b.1:=Nat.eq_of_mul_eq_mul_right om q;exact Prod.ext r o
 have:=RT _ _ f λx hx=>by
  obtain⟨p,c,rfl⟩:=List.mem_map.1 hx;exact e p c
 simpa using this
theorem qt {α:Type}{l:List α}{i:Nat}{x:α}(h:l[i]? = some x):l.take (i+1)=l.take i++[x]:=by
 rw[List.take_add_one,h];rfl
theorem T2 {succ:Pl->List Pl}{from_:List Pl}{R:Pl->Prop}(b:∀ p∈from_,R p) (i:Nat):Bn.Ok succ from_ R (gJ [] (from_.take i) (-1)) :=
 (Ok.nil succ from_ R).gJ (λp a=>b p (List.mem_of_mem_take a)) λp a=>.inl ⟨rfl,List.mem_of_mem_take a⟩
theorem Kt {ps:List Pl}{k:Nat}{p:Pl}(h:ps[k]? = some p) {s:St} : cU (some 2) (.aX (dm ps) (k*2)) s=some (.agg [.int .i64 (p.1:Int), .int .i64 (p.2:Int)]):=by
 have h1:=pO h;have h3:=(List.getElem?_eq_some_iff.1 h).1;have h2:k*2+2<=(dm ps).length:=by rw[mH];omega
 simp only[cU,aT];rw[if_pos h2,h1];rfl
theorem sB {ps:List Pl}{k j:Nat}{p:Pl}(h:ps[k]? = some p) {s:St}{m:Md}(hs:s.get j=some (.cells m (dm ps))):cU (some 2) (.aH j (k*2)) s=some (.agg [.int .i64 (p.1:Int), .int .i64 (p.2:Int)]):=by
 have h1:=pO h;have h3:=(List.getElem?_eq_some_iff.1 h).1;have h2:k*2+2<=(dm ps).length:=by rw[mH];omega
 simp only[cU,aT,hs];rw[if_pos h2,h1];rfl
def lP (m:Int × Bool):Nat × Bool:=(m.1.toNat,m.2)
theorem succ_eq (B:Bu) (ls:List Nat) (bk:Nat) (p:Pl):(cq B ls bk).succ p=(FB B ls p).map λm=>(cq B ls bk).after p (lP m):=by
 simp only[Tk.succ,Tk.rG,cq,Zk,FB,List.map_map];rfl
theorem D9 {B:Bu}{ls:List Nat}{bk:Nat}(d:Vb B) (n:bk<ls.length) (e:∀ i,i<ls.length->(ls.getD i 0:Int)<B.L) {p:Pl}(f:Bm B ls p):∀ q∈(cq B ls bk).succ p,Bm B ls q:=by
 intro q a;rw[succ_eq]at a;obtain⟨m,hm,rfl⟩:=List.mem_map.1 a;obtain⟨h1,h2⟩:=f;have b:=d.2.2.2.2 p.2 h2;have hl:=e p.1 h1;have g:ls.getD p.1 0<(B.next.getD p.2 []).length:=by have:=b.1;omega
 have h:=b.2 _ g;obtain⟨k,c⟩:=List.mem_iff_getElem?.1 hm;obtain⟨j,o⟩:=List.getElem?_eq_some_iff.1 c;have:=h k j;have l:((B.next.getD p.2 []).getD (ls.getD p.1 0) []).getD k (0,false)=m:=by
  rw[gD];have:((B.next.getD p.2 []).getD (ls.getD p.1 0) [])[k]? = some m:=c;rw[this];rfl
 rw[l]at this;refine⟨?_,?_⟩
 ·show (if p.1+1=ls.length then bk else p.1+1)<ls.length;split<;>omega
 ·show m.1.toNat<B.next.length;omega
theorem xR {B:Bu}{ls:List Nat}(c:Vb B) (d:∀ i,i<ls.length->(ls.getD i 0:Int)<B.L) {p:Pl}(e:Bm B ls p) {k:Nat}{m:Int × Bool}(a:(FB B ls p)[k]? = some m):m.1=(m.1.toNat:Int)/\m.1.toNat<B.next.length:=by
 obtain⟨h1,h2⟩:=e;have b:=c.2.2.2.2 p.2 h2;have hl:=d p.1 h1;have f:ls.getD p.1 0<(B.next.getD p.2 []).length:=by have:=b.1;omega
 have g:=b.2 _ f;obtain⟨h,l⟩:=List.getElem?_eq_some_iff.1 a;have:=g k h;have j:((B.next.getD p.2 []).getD (ls.getD p.1 0) []).getD k (0,false)=m:=by
  rw[gD];have:((B.next.getD p.2 []).getD (ls.getD p.1 0) [])[k]? = some m:=a;rw[this];rfl
 rw[j]at this;omega
theorem JF {v:LV}{B:Bu}{ls:List Nat}{bk:Nat}{T U lv fv:LV}(h:CI v B ls bk T U lv) {from_:List Pl}(hf:VH fv from_) (YU:fv.closed=true) (jZ:∀ p∈from_,Bm B ls p) {s:St} :
 aJ Try.prog GL (.fn (.func 27) [] []) [v,fv] s (λr s'=>∃ M c d,r = .agg [.aI M,c,d]/\s.n<=M/\FO s' M c d (run (cq B ls bk).succ (ls.length*B.next.length+1) 0 (gJ [] from_ (-1)))/\(∀ id,aP c id->s.n<=id)/\(∀ id,aP d id->s.n<=id)/\∀ id,id<s.n->s'.get id=s.get id):=by
 have cx:=h.closed;have zJ:=fun {p:Pl}(u:Bm B ls p)=>DO h u;have haf:=fun {p:Pl}(u:p.1<ls.length) (m:Int × Bool) (q:Nat) (hq:m.1=(q:Int))=>Fb h u m q hq;obtain⟨rfl,dO,R,cm,cQ,oe,K3,gZ,kG⟩:=h;have uz:=R.closed;obtain⟨vs,hn⟩:=R;have mZ:=dO.sl.cell;have uD:=hn.sl.cell;have Ez:=cm.sl.cell;have hNb:ls.length*B.next.length<=600000:=by
  have:ls.length*B.next.length<=200*3000:=Nat.mul_le_mul gZ cQ.2.2.1;omega
 generalize hN:ls.length*B.next.length=N at hNb;refine bL (first:=[]) (caps:=[]) Try.func27 (by decide +kernel) c27 (Nat.le_of_ble_eq_true rfl) (aQ.mono (Q:=λo e s'=>(o = .normal∨o = .jmp .ret)/\∃ M c d,e.at 4 = .aH s.n 0/\s'.get s.n=some (.cells .mut [.aI M,c,d])/\s.n<=M/\FO s' M c d (run (cq B ls bk).succ (N+1) 0 (gJ [] from_ (-1)))/\(∀ id,aP c id->s.n<=id)/\(∀ id,aP d id->s.n<=id)/\∀ id,id<s.n->s'.get id=s.get id) ?_ λo e s' V=>by
  obtain⟨h1,M,c,d,h2,h3,h4⟩:=V;exact⟨h1, .agg [.aI M,c,d],by simp[l27,br,bO,h2,h3,aT],M,c,d,rfl,h4⟩)
 refine Cd.out (pF λe e0 e1=>?_);unfold l27;dsimp only[jA,jG,qN,qF,qS,qI,qA,qB,qC,qO,qm,ql];have Te:=fun {p:Pl}(u:Bm B ls p)=>D9 (bk:=bk) cQ K3 kG u;have ON:∀ l:List Pl,l.Nodup->(∀ x∈l,Bm B ls x)->l.length<=N:=λl h1 h2=>by rw[<- hN];exact B6 h1 h2
 have uX:=hf.sl.len;have hflen:=hf.len;repeat' (first | refine gA trivial ?_ | (refine gB trivial ?_;rintro (_|_) t<;>try simp only[aG,reduceCtorEq]at t) | fail)
 refine cX (v:=.aI (s.n+1)) (s':=(s.new (.cells .mut [.bN, .aj, .aj])).new (.map [])) wN (by simp only[aR.run,St.dZ]) rfl trivial ?_;simp only[Env.au];refine eN (v:=.agg [.aI (s.n+1), .aj, .aj]) (s':=(s.new (.cells .mut [.bN, .aj, .aj])).new (.map [])) (by simp only[aR.run,svq,Nat.reduceEqDiff,Nat.reduceAdd,Nat.reduceLeDiff,if_false,if_true,List.map,bB,aW];rfl) ?_;repeat' (first | refine gA @uX ?_ | (refine gB @uX ?_;rintro (_|_) t<;>try simp only[aG,reduceCtorEq]at t) | fail)
 refine V0 (λe g=>FS (s.n+1) (λid=>id<s.n+1) (s.new (.cells .mut [.bN, .aj, .aj])) g (s.n+1+1) (s.n+1) .aj .aj []/\e.at 2 = .aX [.int .i64 B.L,T,U,lv, .int .i64 (bk:Int)] 0/\e.at 4 = .aH s.n 0/\e.at 5 = .aH (s.n+1+1) 0/\e.at 6 = .fn (.func 47) [] [.aH (s.n+1+1) 0]/\e.at 16=fv/\e.at 17 = .int .i64 (from_.length:Int)/\e.at 18 = .int .i64 0) ?_ ?_
 ·refine⟨⟨by simp<;>omega,by omega,by simp<;>omega,by omega,by simp<;>omega,by omega,by simp,by simp[lN],dQ.nil _ _,dQ.nil _ _,λid h=>absurd h (bq id),λid h=>absurd h (bq id),λid h=>absurd h (bq id),λid h=>⟨by simp<;>omega,by omega,by omega,bq id,bq id⟩,λid h=>?_⟩,ef,ef,ef,ef,ef,ef,ef⟩;simp only[St.ah,St.az,St.dZ];rw[if_neg om,if_neg om,if_neg om]
 clear e0 e1;clear e;rintro e g ⟨b,C,D,E,F,X,Y,H⟩;refine aS (λm e g=>∃ (i:Nat) (c d:LV),m=from_.length - i/\i<=from_.length/\FS (s.n+1) (λid=>id<s.n+1) (s.new (.cells .mut [.bN, .aj, .aj])) g (s.n+1+1) (s.n+1) c d (gJ [] (from_.take i) (-1))/\e.at 2 = .aX [.int .i64 B.L,T,U,lv, .int .i64 (bk:Int)] 0/\e.at 4 = .aH s.n 0/\e.at 5 = .aH (s.n+1+1) 0/\e.at 6 = .fn (.func 47) [] [.aH (s.n+1+1) 0]/\e.at 16=fv/\e.at 17 = .int .i64 (from_.length:Int)/\e.at 18 = .int .i64 (i:Int)) _
  ⟨0, .aj, .aj,rfl,by omega,by simpa[gJ] using b,C,D,E,F,X,Y,H⟩ ?_
 clear b C D E F X Y H;clear g e;rintro m e g ⟨i,c,d,rfl,hi,b,C,D,E,F,X,Y,H⟩;by_cases cM:i<from_.length
 · -- a first place
  obtain⟨p,u⟩:∃ p,from_[i]? = some p:=⟨_,gE cM⟩;have tP:(i:Int)<(from_.length:Int):=by omega
  have G:=λs=>Kt (s:=s) u;have hw:IntKind.i64.wrap ((i:Int)+1)=((i+1:Nat):Int):=by rw[wrap_i64 _ om om];rfl
  have Z:(gJ [] (from_.take i) (-1)).length<=1000000:=by
   have h1:=(T2 (succ:=(cq B ls bk).succ) jZ i);have:=ON _ h1.nd λx hx=>by obtain⟨y,hy,rfl⟩:=List.mem_map.1 hx;exact h1.jd y hy
   simp at this;omega
  repeat' (first | refine gA (And.intro (@cw _ _ _ hf.sl) @G) ?_ | (refine gB (And.intro (@cw _ _ _ hf.sl) @G) ?_;intro z t;cases z<;>(try simp only[aG]at t)) | fail)
  ·exfalso;omega
  have TC:FS (s.n+1) (λid=>id<s.n+1) (s.new (.cells .mut [.bN, .aj, .aj])) ((g.new (.cells .mut [.int .i64 0, .int .i64 0])).put g.n (.cells .mut [.int .i64 (p.1:Int), .int .i64 (p.2:Int)])) (s.n+1+1) (s.n+1) c d (gJ [] (from_.take i) (-1)) :=
   b.keep (by simp) λid w=>by rw[St.ah,if_neg om,St.az,if_neg om]
  refine bH wN (fv:=.fn (.func 47) [] [.aH (s.n+1+1) 0]) (vs:=[.agg (bJ p), .int .i64 (-1)]) ef (by simp only[List.map,lk,Nat.reduceEqDiff,if_false,if_true,List.map];rfl) (aJ.mono (AH TC Z p (-1)) λv J V=>⟨trivial,?_⟩);simp only[Env.au];obtain⟨Ip,sK,Fz⟩:=V;repeat' (first | refine gA trivial ?_ | (refine gB trivial ?_;rintro (_|_) t<;>try simp only[aG,reduceCtorEq]at t) | fail)
  refine⟨from_.length - (i+1),by omega,i+1,Ip,sK,rfl,by omega,by rw[qt u,Bl];exact Fz,?_⟩;simp only[lk,Nat.reduceEqDiff,if_false,if_true,hw,C,D,E,F,X,Y,and_self]
 · -- on with what is found
  have dc:i=from_.length:=by omega
  subst dc;rw[List.take_length]at b;repeat' (first | refine gA trivial ?_ | (refine gB trivial ?_;intro z t;cases z<;>(try simp only[aG]at t)) | fail)
  rotate_left
  ·exfalso;omega
  have K:Bn.Ok (cq B ls bk).succ from_ (Bm B ls) (gJ [] from_ (-1)):=Ok.first jZ;generalize o7:run (cq B ls bk).succ (N+1) 0 (gJ [] from_ (-1))=O;refine aS (λm e g=>∃ (k:Nat) (acc:Ac Pl) (c d:LV),m=N+1 - k/\k<=acc.length/\Bn.Ok (cq B ls bk).succ from_ (Bm B ls) acc/\run (cq B ls bk).succ (N+1 - k) k acc=O/\FS (s.n+1) (λid=>id<s.n+1) (s.new (.cells .mut [.bN, .aj, .aj])) g (s.n+1+1) (s.n+1) c d acc/\e.at 2 = .aX [.int .i64 B.L,T,U,lv, .int .i64 (bk:Int)] 0/\e.at 4 = .aH s.n 0/\e.at 5 = .aH (s.n+1+1) 0/\e.at 6 = .fn (.func 47) [] [.aH (s.n+1+1) 0]/\e.at 9 = .int .i64 (k:Int)) _
   ⟨0,_,c,d,rfl,by omega,K,o7,b,ef,ef,ef,ef,by simp only[lk,Nat.reduceEqDiff,if_false,if_true];rfl⟩ ?_
  clear b cM hi t K C D E F X Y H;clear c d g e;rintro m e g ⟨k,acc,c,d,rfl,hk,Q0,bK,b,C,D,E,F,e9⟩;have lG:=b.sp.len;have GY:=b.gj;have haccN:acc.length<=N:=by
   have:=ON _ Q0.nd λx hx=>by obtain⟨y,hy,rfl⟩:=List.mem_map.1 hx;exact Q0.jd y hy
   simpa using this
  by_cases fB:k<acc.length
  · -- a place is looked at
   obtain⟨x,hx⟩:∃ x,acc[k]? = some x:=⟨_,gE fB⟩;have u:(acc.map (·.1))[k]? = some x.1:=by rw[List.getElem?_map,hx];rfl
   have SJ:Bm B ls x.1:=Q0.jd x (List.mem_of_getElem? hx);have iZ:=Q0.step (λp u=>Te u) hx;have vL:run (cq B ls bk).succ (N+1 - (k+1)) (k+1) (gJ acc ((cq B ls bk).succ x.1) k)=O:=by
    rw[<- bK,show N+1 - k=(N+1 - (k+1))+1 by omega];simp only[run,hx]
   obtain⟨pid,CS,wm,WZ⟩:=b.sp.pos om;have uB:(k:Int)<(acc.length:Int):=by omega
   have G:=sB u WZ;have hw:IntKind.i64.wrap ((k:Int)+1)=((k+1:Nat):Int):=by rw[wrap_i64 _ om om];rfl
   rw[CS]at GY;have hpl':fm (.aD pid 0 acc.length 2)=some acc.length:=rfl;repeat' (first | refine gA (And.intro @cG @G) ?_ | (refine gB (And.intro @cG @G) ?_;intro z t;cases z<;>(try simp only[aG]at t)) | fail)
   ·exfalso;omega
   have P:FS (s.n+1) (λid=>id<s.n+1) (s.new (.cells .mut [.bN, .aj, .aj])) ((g.new (.cells .mut [.int .i64 0, .int .i64 0])).put g.n (.cells .mut [.int .i64 (x.1.1:Int), .int .i64 (x.1.2:Int)])) (s.n+1+1) (s.n+1) c d acc:=
    b.keep (by simp) λid w=>by rw[St.ah,if_neg om,St.az,if_neg om]
   refine cW ez (zJ SJ) wN (by simp only[List.map,lk,Nat.reduceEqDiff,if_false,if_true,List.map];rfl) (λmv sD hmc=>⟨trivial,?_⟩);simp only[Env.au];have q7:=sD.sl.len;have OH:=sD.len;repeat' (first | refine gA @q7 ?_ | (refine gB @q7 ?_;rintro (_|_) t<;>try simp only[aG,reduceCtorEq]at t) | fail)
   have rN:=b.j1;have mP:=b.m1;have hj0:=b.j0;have hm0:=b.m0;generalize rM:FB B ls x.1=ms at *;have R:(cq B ls bk).succ x.1=ms.map λm=>(cq B ls bk).after x.1 (lP m):=by rw[succ_eq,rM]
   generalize B9:(g.new (.cells .mut [.int .i64 0, .int .i64 0])).put g.n (.cells .mut [.int .i64 (x.1.1:Int), .int .i64 (x.1.2:Int)])=J at P ⊢;have Xi:J.get g.n=some (.cells .mut [.int .i64 (x.1.1:Int), .int .i64 (x.1.2:Int)]):=by rw[<- B9,St.ah,if_pos rfl]
   have jY:J.n=g.n+1:=by rw[<- B9];rfl
   have Fz:FS (s.n+1) (λid=>id<s.n+1∨id=g.n) J J (s.n+1+1) (s.n+1) c d acc:=P.M3 (λid w=>by
    rcases w with w | w
    ·exact P.kp id w
    ·subst w;exact⟨by omega,by omega,by omega,λA=>by have:=b.sp.lt A;omega,λA=>by have:=b.sb.lt A;omega⟩) (λ_ _=>rfl)
   clear B9;obtain⟨a1,QW⟩:∃ a1,g.n=a1:=⟨_,rfl⟩;rw[QW]at Xi Fz;have hOkj:∀ j,Bn.Ok (cq B ls bk).succ from_ (Bm B ls) (gJ acc ((ms.take j).map λm=>(cq B ls bk).after x.1 (lP m)) k):=λj=>Q0.gJ (λp u=>by
    obtain⟨m,mP,rfl⟩:=List.mem_map.1 u;exact Te SJ _ (by rw[R];exact List.mem_map_of_mem (List.mem_of_mem_take mP))) λp u=>by
    obtain⟨m,mP,rfl⟩:=List.mem_map.1 u;exact .inr ⟨k,x,rfl,hx,by rw[R];exact List.mem_map_of_mem (List.mem_of_mem_take mP)⟩
   refine aS (λm e s'=>∃ (j:Nat) (c d:LV),m=ms.length - j/\j<=ms.length/\FS (s.n+1) (λid=>id<s.n+1∨id=a1) J s' (s.n+1+1) (s.n+1) c d (gJ acc ((ms.take j).map λm=>(cq B ls bk).after x.1 (lP m)) k)/\e.at 2 = .aX [.int .i64 B.L,T,U,lv, .int .i64 (bk:Int)] 0/\e.at 4 = .aH s.n 0/\e.at 5 = .aH (s.n+1+1) 0/\e.at 6 = .fn (.func 47) [] [.aH (s.n+1+1) 0]/\e.at 9 = .int .i64 (k:Int)/\e.at 10 = .aH a1 0/\e.at 40=mv/\e.at 41 = .int .i64 (ms.length:Int)/\e.at 42 = .int .i64 (j:Int)) _
    ⟨0,c,d,rfl,by omega,by simpa[gJ] using Fz,ef,ef,ef,ef,ef,ef,ef,ef,by simp only[lk,Nat.reduceEqDiff,if_false,if_true];rfl⟩ ?_
   have vM:∀ id,id<s.n+1->J.get id=(s.new (.cells .mut [.bN, .aj, .aj])).get id:=λid w=>P.old id w;clear b P Fz lG GY G hpl' WZ wm CS t C D E F e9 rN mP QW jY;clear pid c d g e;rintro m e g ⟨j,c,d,rfl,hj,b,C,D,E,F,e9,fX,e40,e41,L9⟩;by_cases GU:j<ms.length
   ·obtain⟨I,tO⟩:∃ I,ms[j]? = some I:=⟨_,gE GU⟩;have gL:ms.getD j (0,false)=I:=by rw[gD,tO];rfl
    have hjI:(j:Int)<(ms.length:Int):=by omega
    have G:=λs=>eW (s:=s) GU;rw[gL]at G;have tN:maxLen=9223372036854775807:=by decide
    have jy:IntKind.i64.wrap ((j:Int)+1)=((j+1:Nat):Int):=by rw[wrap_i64 _ om om];rfl
    have nU:g.get a1=some (.cells .mut [.int .i64 (x.1.1:Int), .int .i64 (x.1.2:Int)]):=by rw[b.old a1 (.inr rfl)];exact Xi
    have ha1n:a1<g.n:=(b.kp a1 (.inr rfl)).1;have ha1':¬ a1=g.n:=by omega
    repeat' (first | refine gA (And.intro (@cw _ _ _ sD.sl) @G) ?_ | (refine gB (And.intro (@cw _ _ _ sD.sl) @G) ?_;intro z t;cases z<;>(try simp only[aG]at t)) | fail)
    ·exfalso;omega
    refine dR ez (haf SJ.1 I I.1.toNat (xR (ls:=ls) cQ kG SJ (by rw[rM];exact tO)).1) wN (by simp only[List.map,lk,Nat.reduceEqDiff,if_false,if_true,List.map];rfl) trivial ?_;simp only[Env.au];have P:FS (s.n+1) (λid=>id<s.n+1∨id=a1) J ((g.new (.cells .mut [.int .i64 0, .bool false])).put g.n (.cells .mut [.int .i64 I.1, .bool I.2])) (s.n+1+1) (s.n+1) c d (gJ acc ((ms.take j).map λm=>(cq B ls bk).after x.1 (lP m)) k) :=
     b.keep (by simp) λid w=>by rw[St.ah,if_neg om,St.az,if_neg om]
    have hlj:(gJ acc ((ms.take j).map λm=>(cq B ls bk).after x.1 (lP m)) k).length<=1000000:=by
     have h1:=hOkj j;have:=ON _ h1.nd λx hx=>by obtain⟨y,hy,rfl⟩:=List.mem_map.1 hx;exact h1.jd y hy
     rw[List.length_map]at this;omega
    repeat' (first | refine gA trivial ?_ | (refine gB trivial ?_;rintro (_|_) t<;>try simp only[aG,reduceCtorEq]at t) | fail)
    refine bH wN (fv:=.fn (.func 47) [] [.aH (s.n+1+1) 0]) (vs:=[.agg (bJ ((cq B ls bk).after x.1 (I.1.toNat,I.2))), .int .i64 (k:Int)]) ef (by simp only[List.map,lk,Nat.reduceEqDiff,if_false,if_true,List.map]) (aJ.mono (AH P hlj _ k) λv s3 V=>⟨trivial,?_⟩);simp only[Env.au];obtain⟨Ip,sK,XK⟩:=V;repeat' (first | refine gA trivial ?_ | (refine gB trivial ?_;rintro (_|_) t<;>try simp only[aG,reduceCtorEq]at t) | fail)
    refine⟨ms.length - (j+1),by omega,j+1,Ip,sK,rfl,by omega,?_,?_⟩
    ·rw[qt tO,List.map_append,List.map_cons,List.map_nil,Bl];exact XK
    ·simp only[lk,Nat.reduceEqDiff,if_false,if_true,jy,C,D,E,F,e9,fX,e40,e41,and_self]
   ·have gY:j=ms.length:=by omega
    subst gY;rw[List.take_length,<- R]at b;repeat' (first | refine gA trivial ?_ | (refine gB trivial ?_;intro z t;cases z<;>(try simp only[aG]at t)) | fail)
    ·refine⟨N+1 - (k+1),by omega,k+1,_,c,d,rfl,?_,iZ,vL,b.M3 (λid w=>b.kp id (.inl w)) (λid w=>by rw[b.old id (.inl w)];exact vM id w),?_⟩
     ·have:=Qp ((cq B ls bk).succ x.1) acc k;omega
     ·simp only[lk,Nat.reduceEqDiff,if_false,if_true,hw,C,D,E,F,and_self]
    ·exfalso;omega
  ·have zN:acc=O:=by
    rw[<- bK];have:acc[k]? = none:=List.getElem?_eq_none om;cases h:N+1 - k with
    | zero=>rfl
    | succ f=>simp only[run,this]
   subst zN;have ri:g.get s.n=some (.cells .mut [.bN, .aj, .aj]):=by
    rw[b.old s.n (by show s.n<s.n+1;omega),St.az,if_pos rfl]
   have QV:=b.sp.cell;have Vn:=b.sb.cell;have YW:aV (.aI (s.n+1))=true:=rfl;repeat' (first | refine gA @lG ?_ | (refine gB @lG ?_;intro z t;cases z<;>(try simp only[aG]at t)) | fail)
   ·have rN:=b.j1;have hj0:=b.j0;refine⟨.inr trivial,s.n+1,c,d,ef,by rw[St.ah,if_pos rfl],by omega,⟨by rw[St.dP];exact b.m1,by rw[St.ah,if_neg om];exact b.gM,?_,?_⟩,λid A=>by have:=(b.dp id A).1;omega,λid A=>by have:=(b.db id A).1;omega,λid w=>?_⟩
    ·exact b.sp.mono (by rw[St.dP];exact Nat.le_refl _) λid A=>by rw[St.ah,if_neg (by have:=(b.dp id A).1;omega)]
    ·exact b.sb.mono (by rw[St.dP];exact Nat.le_refl _) λid A=>by rw[St.ah,if_neg (by have:=(b.db id A).1;omega)]
    ·rw[St.ah,if_neg om,b.old id (by show id<s.n+1;omega),St.az,if_neg om]
   ·exfalso;omega
theorem Rt {s:St}{v:LV}{aU n:Nat}{cells:List LV}(h:dQ s v aU cells n) (a:LV.closed.aq cells=true):∃ r s',cK aY v s=some (r,s')/\Sl r cells n/\r.closed=true:=by
 obtain⟨h0,⟨rfl,rfl⟩ | ⟨j,rfl,h1,h2,h3⟩⟩:=h
 ·have:cells=[]:=List.length_eq_zero_iff.1 (by rw[h0,Nat.zero_mul]);subst this;exact⟨.aj,s,bf rfl, .nil,rfl⟩
 ·refine⟨.aB cells n,s.put j (.cells .app cells),?_, .aB _ _,by simp[LV.closed,a]⟩;have b:aY=38+1+1:=rfl;rw[b];unfold cK;simp only[LV.closed,Bool.false_eq_true,if_false,h3,Nat.zero_add,h0,Nat.le_refl,if_true,dg a,Option.bind_eq_bind,Option.bind_some,List.drop_zero];rw[List.take_of_length_le om]
theorem Jy {v:LV}{B:Bu}{ls:List Nat}{bk:Nat}{o x lv:LV}(h:CI v B ls bk o x lv):PE 28 [v] (λr=>VH r (B.start.map λq=>(0,q.toNat))):=by
 have y:=h.closed;obtain⟨rfl,b,z,A,p,H,I,J,K⟩:=h;obtain⟨vs,C⟩:=z;have L:=b.sl.cell;have M:=C.sl.cell;have N:=A.sl.cell;have u:=b.sl.len;refine n9 (t:=2) hm Try.func28 (by decide +kernel) c28 (Nat.le_of_ble_eq_true rfl) (by simp[LV.closed.aq,y]) rfl ?_;refine sJ λe D=>?_;unfold l28;dsimp only[jA,qF,qS,qI,qA,qB,qC,qO,qm,ql];repeat' (first | refine gA @u ?_ | (refine gB @u ?_;rintro (_|_) a<;>try simp only[aG,reduceCtorEq]at a) | fail)
 have c:=p.2.2.2.1;have O:B.start.length<=3000:=by
  have h3:=p.2.2.1;have g:∀ i,i<B.start.length->(i:Int)<=B.start.getD i 0:=by
   intro i;induction i with
   | zero=>intro d;exact (c 0 d).1
   | succ i ih=>
     intro d;have h1:=ih om;have h2:=(c (i+1) d).2.2 om;rw[Nat.add_sub_cancel]at h2;omega
  by_cases P:B.start.length=0
  ·omega
  ·have h1:=g (B.start.length - 1) om;have h2:=(c (B.start.length - 1) om).2.1;omega
 refine aS (λm e s=>∃ (i:Nat) (f:LV),m=B.start.length - i/\i<=B.start.length/\dQ s f 2 (dm ((B.start.take i).map λq=>(0,q.toNat))) i/\e.at 8=o/\e.at 9 = .int .i64 (B.start.length:Int)/\e.at 10 = .int .i64 (i:Int)/\e.at 3=f) _
  ⟨0, .aj,rfl,by omega,dQ.nil _ _,ef,ef,by simp only[lk,Nat.reduceEqDiff,if_false,if_true];rfl,ef⟩ ?_
 clear D;clear e;rintro m e s ⟨i,f,rfl,d,j,Q,R,T,U⟩;by_cases w:i<B.start.length
 ·have V:(i:Int)<(B.start.length:Int):=by omega
  have X:IntKind.i64.wrap ((i:Int)+1)=((i+1:Nat):Int):=by rw[wrap_i64 _ om om];rfl
  have Y:=(c i w).1;have E:B.start[i]? = some (B.start.getD i 0):=by simp[gD,w]
  repeat' (first | refine gA (And.intro (@cw _ _ _ b.sl) @bu) ?_ | (refine gB (And.intro (@cw _ _ _ b.sl) @bu) ?_;intro k a;cases k<;>(try simp only[aG]at a)) | fail)
  ·exfalso;omega
  have l:B.start.getD i 0=((B.start.getD i 0).toNat:Int):=by omega
  refine eN (v:=.agg (bJ (0,(B.start.getD i 0).toNat))) (s':=s) (by simp only[aR.run,svq,Nat.reduceEqDiff,Nat.reduceAdd,if_false,if_true,List.map,bB,aW,bJ,<- l];rfl) ?_;refine mF (n:=i) (aU:=2) (xv:=.agg (bJ (0,(B.start.getD i 0).toNat))) (yv:=f) (vs:=bJ (0,(B.start.getD i 0).toNat)) ef rfl rfl rfl rfl ef j (by decide) om (λZ F a1 a2 a3 a4=>?_);repeat' (first | refine gA trivial ?_ | (refine gB trivial ?_;rintro (_|_) a<;>try simp only[aG,reduceCtorEq]at a) | fail)
  refine⟨B.start.length - (i+1),by omega,i+1, .aD F 0 (i+1) 2,rfl,by omega,?_,ef,ef,ef,ef⟩;rw[qt E,List.map_append,mI];exact a2
 ·have G:i=B.start.length:=by omega
  subst G;rw[List.take_length]at j;repeat' (first | refine gA trivial ?_ | (refine gB trivial ?_;intro k a;cases k<;>(try simp only[aG]at a)) | fail)
  ·obtain⟨r,s',h1,h2,h3⟩:=Rt j (rE _);exact⟨.inr trivial,r,s',by simp only[lk,Nat.reduceEqDiff,if_false,if_true];exact h1,h3,by simpa using h2,by simp;omega⟩
  ·exfalso;omega
theorem vB (l:List Nat):eP l=ints (fk l):=by simp[eP,ints,fk]
theorem BS (l:List Nat):LV.closed.aq (eP l)=true:=by rw[vB];exact bD _
def Yc (s:St) (v:LV) (l:List Nat):Prop:=(v = .aj/\l=[])∨∃ j m,v = .aD j 0 l.length 1/\s.get j=some (.cells m (eP l))
theorem C4 {l:List Nat}(hl:l.length<=1000000) (a:∀ x∈l,x<=1000000):∀ v,Sl v (eP l) l.length->aM v (fk l):=λv h=>by
 have c:maxLen=9223372036854775807:=by decide
 refine⟨by rw[<- vB];simpa using h,by simp;omega,λx hx=>?_⟩;obtain⟨i,b,rfl⟩:=List.mem_map.1 hx;have:=a i b;constructor<;>omega
theorem PD {s:St}{v:LV}{l:List Nat}(n:Nat) (h:Yc s v l) (hl:l.length<=1000000) (b:∀ x∈l,x<=1000000):∃ v' s',cK (n+2) v s=some (v',s')/\aM v' (fk l)/\s'.n=s.n/\(∀ id,¬ aP v id->s'.get id=s.get id)/\∀ id,aP v id->∃ m,s'.get id=some (.cells m (eP l)):=by
 rcases h with⟨rfl,rfl⟩ | ⟨j,m,rfl,c⟩
 ·exact⟨.aj,s,g8 rfl,C4 hl b _ .nil,rfl,λ_ _=>rfl,λid a=>absurd a (bq id)⟩
 ·refine⟨.aB (eP l) l.length,s.put j (.cells (if m = .mut then .app else m) (eP l)),?_,C4 hl b _ (.aB _ _),rfl,λid a=>by rw[St.ah,if_neg λe=>a (aC.2 e)],λid a=>by
   obtain rfl:=aC.1 a;exact⟨_,by rw[St.ah,if_pos rfl]⟩⟩
  unfold cK;simp only[LV.closed,Bool.false_eq_true,if_false,c,Nat.zero_add,Nat.mul_one,tj,Nat.le_refl,if_true,dg (BS l),Option.bind_eq_bind,Option.bind_some,List.drop_zero];rw[List.take_of_length_le (by simp)]
theorem Le (n:Nat):∀ (rv:List LV) (rows:List (List Nat)) (s:St),rv.length=rows.length->(∀ i,i<rows.length->Yc s (rv.getD i .top) (rows.getD i [])/\(rows.getD i []).length<=1000000/\∀ x∈rows.getD i [],x<=1000000) ->
 (∀ i k,i<rows.length->k<rows.length->i≠k->∀ id,aP (rv.getD i .top) id->¬ aP (rv.getD k .top) id) ->
 ∃ vs s',cK.cu (cK (n+2)) rv s=some (vs,s')/\vs.length=rows.length/\(∀ i,i<rows.length->aM (vs.getD i .top) (fk (rows.getD i [])))/\s'.n=s.n/\∀ id,(∀ i,i<rows.length->¬ aP (rv.getD i .top) id)->s'.get id=s.get id:=by
 intro rv;induction rv with
 | nil=>
   intro rows s hl _ _;have:rows=[]:=List.length_eq_zero_iff.1 hl.symm;subst this;exact⟨[],s,rfl,rfl,λi a=>absurd a (Nat.not_lt_zero _),rfl,λ_ _=>rfl⟩
 | cons v rv ih=>
   intro rows s hl h c;match rows,hl with
   | r :: rows, hl =>
     obtain⟨h0,h1,h2⟩:=h 0 (by simp);simp only[List.getD_cons_zero]at h0 h1 h2;obtain⟨v',e,a1,a2,a3,a4,a5⟩:=PD n h0 h1 h2;obtain⟨vs,f,g,b2,l,o,p⟩:=ih rows e (by simpa using hl) (λi a=>by
      obtain⟨c0,c1,c2⟩:=h (i+1) (by simpa using a);simp only[List.getD_cons_succ]at c0 c1 c2;refine⟨?_,c1,c2⟩;rcases c0 with c0 | ⟨j,m,c0,c3⟩
      ·exact .inl c0
      ·exact .inr ⟨j,m,c0,by rw[a4 j λb=>c 0 (i+1) (by simp) (by simpa using a) om j (by simpa using b) (by simp only[List.getD_cons_succ];exact⟨0,_,1,c0⟩)];exact c3⟩) (λi k a q dH id b=>by
      have:=c (i+1) (k+1) (by simpa using a) (by simpa using q) om id (by simpa using b);simpa using this)
     refine⟨v'::vs,f,by simp[cK.cu,a1,g],by simp[b2],λi a=>?_,by rw[o,a3],λid d=>?_⟩
     ·cases i with
      | zero=>simpa using a2
      | succ i=>simpa using l i (by simpa using a)
     ·rw[p id λi a=>by simpa using d (i+1) (by simpa using a),a4 id (by simpa using d 0 (by simp))]
theorem TH {s:St}{j:Nat}{rv:List LV}{rows:List (List Nat)}(d:s.get j=some (.cells .mut rv)) (hl:rv.length=rows.length) (l:rows.length<=1000000) (h:∀ i,i<rows.length->Yc s (rv.getD i .top) (rows.getD i [])/\(rows.getD i []).length<=1000000/\∀ x∈rows.getD i [],x<=1000000)
 (a:∀ i k,i<rows.length->k<rows.length->i≠k->∀ id,aP (rv.getD i .top) id->¬ aP (rv.getD k .top) id) :
 ∃ vs s',cK.cu (cK aY) [.aD j 0 rows.length 1] s=some ([.aB vs rows.length],s')/\dF (.aB vs rows.length) (rows.map fk) vs/\s'.get j=some (.cells .app vs)/\s'.n=s.n/\∀ id,id≠j->(∀ i,i<rows.length->¬ aP (rv.getD i .top) id)->s'.get id=s.get id:=by
 obtain⟨vs,b,a1,a2,a3,a4,a5⟩:=Le 37 rv rows s hl h a;have m:maxLen=9223372036854775807:=by decide
 refine⟨vs,b.put j (.cells .app vs),?_,⟨by simpa using Sl.aB vs rows.length,by simpa using a2,by simp;omega,λi e=>?_⟩,by rw[St.ah,if_pos rfl],a4,λid h1 h2=>by rw[St.ah,if_neg h1];exact a5 id h2⟩
 ·have f:cK aY (.aD j 0 rows.length 1) s=some (.aB vs rows.length,b.put j (.cells .app vs)):=by
   have a:aY=39+1:=rfl;rw[a];unfold cK;simp only[LV.closed,Bool.false_eq_true,if_false,d,Nat.zero_add,Nat.mul_one,hl,Nat.le_refl,if_true,a1,Option.bind_eq_bind,Option.bind_some,List.drop_zero];rw[List.take_of_length_le om]
  simp[cK.cu,f]
 ·have c:i<rows.length:=by simpa using e
  have:=a3 i c;have g:(rows.map fk).getD i []=fk (rows.getD i []):=by simp[gD,c]
  rw[g];exact this
open Go Go.Pv Go.CC
def AB (N:List (List Int)) (i:Nat):List Nat:=(N.getD i []).map Int.toNat
theorem R6 (N:List (List Int)) (i:Nat):(AB N i).length=(N.getD i []).length:=by simp[AB]
theorem R7 {N:List (List Int)}{i k:Nat}(a:k<(N.getD i []).length):(AB N i)[k]? = some ((N.getD i []).getD k 0).toNat:=by
 unfold AB;generalize N.getD i []=row at *;simp[gD,a]
structure PS (n:Nat) (T:S) (s:St) (v7 v8:LV) (pl:List Nat):Prop where
  n4:4<=s.n
  g0:s.get 0=some (.cells .mut (ck n T.part))
  g1:s.get 1=some (.cells .mut (ck n T.idx))
  g2:s.get 2=some (.cells .mut (ck n T.low))
  g3:s.get 3=some (.cells .mut (ck n T.done))
  UE:Sk s v7 T.stack
  MT:Sk s v8 pl
  d7:∀ id,aP v7 id->4<=id
  d8:∀ id,aP v8 id->4<=id
  dj:∀ id,aP v7 id->¬ aP v8 id
theorem PS.app8 {n:Nat}{T:S}{s s':St}{c d:LV}{pl:List Nat}{j v:Nat}(h:PS n T s c d pl) (h1:s.n<=j) (h2:j<s'.n) (h3:s'.get j=some (.cells .mut (eP (pl++[v])))) (e:∀ id,id<s.n->¬ aP d id->s'.get id=s.get id):PS n T s' c (.aD j 0 (pl.length+1) 1) (pl++[v]):=by
 have g:=h.n4;have b:∀ id,id<4->s'.get id=s.get id:=λid i=>e id om λa=>by have:=h.d8 id a;omega
 refine⟨by omega,by rw[b 0 om];exact h.g0,by rw[b 1 om];exact h.g1,by rw[b 2 om];exact h.g2,by rw[b 3 om];exact h.g3,h.UE.mono om λid a=>e id (h.UE.lt a) (h.dj id a), .inr ⟨j,[],by simp,h2,by simpa using h3⟩,h.d7,λid a=>?_,λid a f=>?_⟩
 ·rw[aC.1 a];omega
 ·have:=h.UE.lt a;rw[aC.1 f]at this;omega
theorem PS.app7 {n:Nat}{T b:S}{s s':St}{e f:LV}{pl:List Nat}{j v:Nat}(h:PS n T s e f pl) (h1:s.n<=j) (h2:j<s'.n) (h3:s'.get j=some (.cells .mut (eP (T.stack++[v])))) (g:∀ id,id<s.n->¬ aP e id->s'.get id=s.get id)
 (k:b.part=T.part) (l:b.idx=T.idx) (m:b.low=T.low) (o:b.done=T.done) (i:b.stack=T.stack++[v]):PS n b s' (.aD j 0 (T.stack.length+1) 1) f pl:=by
 have p:=h.n4;have c:∀ id,id<4->s'.get id=s.get id:=λid q=>g id om λa=>by have:=h.d7 id a;omega
 refine⟨by omega,by rw[c 0 om,k];exact h.g0,by rw[c 1 om,l];exact h.g1,by rw[c 2 om,m];exact h.g2,by rw[c 3 om,o];exact h.g3, .inr ⟨j,[],by rw[i];simp,h2,by rw[i];simpa using h3⟩,h.MT.mono om λid a=>g id (h.MT.lt a) λd=>h.dj id d a,λid a=>?_,h.d8,λid a d=>?_⟩
 ·rw[aC.1 a];omega
 ·have:=h.MT.lt d;rw[aC.1 a]at this;omega
theorem PS.row {n:Nat}{T a:S}{s s':St}{c d:LV}{pl:List Nat}(h:PS n T s c d pl) (e:s'.n=s.n) (h0:s'.get 0=some (.cells .mut (ck n a.part))) (h1:s'.get 1=some (.cells .mut (ck n a.idx))) (h2:s'.get 2=some (.cells .mut (ck n a.low))) (h3:s'.get 3=some (.cells .mut (ck n a.done)))
 (ho:∀ id,4<=id->s'.get id=s.get id) (hs:a.stack=T.stack):PS n a s' c d pl:=
 ⟨by rw[e];exact h.n4,h0,h1,h2,h3,by rw[hs];exact h.UE.mono om λid b=>ho id (h.d7 id b),h.MT.mono om λid b=>ho id (h.d8 id b),h.d7,h.d8,h.dj⟩
structure En (n:Nat) (T:S) (iY:List Nat):Prop where
  nd:iY.Nodup
  len:iY.length=T.qQ
  mem:∀ v,v∈iY↔T.idx v≠0
  lt:∀ v∈iY,v<n
theorem En.le {n:Nat}{T:S}{iY:List Nat}(h:En n T iY):iY.length<=n:=Go.C2.RT n iY h.nd h.lt
theorem En.less {n:Nat}{T:S}{iY:List Nat}(h:En n T iY) {v:Nat}(a:v<n) (h0:T.idx v=0):iY.length+1<=n:=by
 have:=Go.C2.RT n (v::iY) (List.nodup_cons.2 ⟨λhm=>(h.mem v).1 hm h0,h.nd⟩) λx hx=>by
  rcases List.mem_cons.1 hx with rfl | hx
  ·exact a
  ·exact h.lt x hx
 simpa using this
theorem En.enter {n:Nat}{T:S}{iY:List Nat}(h:En n T iY) {v:Nat}(a:v<n) (h0:T.idx v=0):En n (T.enter v) (v::iY):=by
 refine⟨List.nodup_cons.2 ⟨λhm=>(h.mem v).1 hm h0,h.nd⟩,by simp[S.enter,h.len],λu=>?_,λx hx=>?_⟩
 ·by_cases e:u=v
  ·subst e;simp[S.enter]
  ·simp only[S.enter,List.mem_cons,e,false_or,jc _ _ e,h.mem]
 ·rcases List.mem_cons.1 hx with rfl | hx
  ·exact a
  ·exact h.lt x hx
theorem En.same {n:Nat}{T a:S}{iY:List Nat}(h:En n T iY) (h1:a.qQ=T.qQ) (h2:a.idx=T.idx):En n a iY:=⟨h.nd,by rw[h1];exact h.len,by rw[h2];exact h.mem,h.lt⟩
def EF (nx:LV) (n r qQ:Nat) (a b:LV) (e:Env):Prop:=e.at 0=nx/\e.at 3 = .aD 0 0 n 1/\e.at 4 = .aD 1 0 n 1/\e.at 5 = .aD 2 0 n 1/\e.at 6 = .aD 3 0 n 1/\e.at 7=a/\e.at 8=b/\e.at 9 = .int .i64 (qQ:Int)/\e.at 10 = .int .i64 (r:Int)/\e.at 27 = .int .i64 (n:Int)/\e.at 28 = .int .i64 (r:Int)
def Frs (N:List (List Int)) (T:S) (fr:List Nat):Prop:=fr=[]∨∃ v,fr=[v]/\v<N.length/\T.idx v=0/\(T.path=[]∨∃ l p,T.path=l++[p]/\(AB N p)[T.done p]? = some v)
theorem FQ {f:Nat->Nat}{a b:List Nat}{v:Nat}(h:(a++v::b).Pairwise λx y=>f x<f y):(∀ w,w∈v::b↔w∈a++v::b/\f v<=f w)/\(a++v::b).filter (λw=>decide (f w<f v))=a:=by
 obtain⟨h1,h2,h3⟩:=List.pairwise_append.1 h;obtain⟨g,j⟩:=List.pairwise_cons.1 h2;have d:∀ w∈a,f w<f v:=λw c=>h3 w c v (by simp);have e:∀ w∈v::b,f v<=f w:=λw c=>by
  rcases List.mem_cons.1 c with rfl | c
  ·exact Nat.le_refl _
  ·exact Nat.le_of_lt (g w c)
 refine⟨λw=>⟨λc=>⟨List.mem_append_right _ c,e w c⟩,λ⟨c,i⟩=>?_⟩,?_⟩
 ·rcases List.mem_append.1 c with c | c
  ·have:=d w c;omega
  ·exact c
 ·rw[List.filter_append,List.filter_eq_self.2 λw c=>by simpa using d w c,List.filter_eq_nil_iff.2 λw c=>by have:=e w c;simp;omega,List.append_nil]
theorem PS.congr {n:Nat}{T a:S}{s:St}{b c:LV}{pl:List Nat}(h:PS n T s b c pl) (d:a.part=T.part) (e:a.idx=T.idx) (f:a.low=T.low) (g:a.done=T.done) (i:a.stack=T.stack):PS n a s b c pl:=
 h.row rfl (by rw[d];exact h.g0) (by rw[e];exact h.g1) (by rw[f];exact h.g2) (by rw[g];exact h.g3) (λ_ _=>rfl) i
theorem PS.pop8 {n:Nat}{T:S}{s:St}{b:LV}{j v:Nat}{l:List Nat}(h:PS n T s b (.aD j 0 (l.length+1) 1) (l++[v])):PS n T s b (.aD j 0 l.length 1) l:=by
 obtain⟨d,cs,h1,h2,h3⟩:=h.MT.pos;cases h1;exact⟨h.n4,h.g0,h.g1,h.g2,h.g3,h.UE,Sk.pop h2 h3,h.d7,λid a=>h.d8 id (by rw[aC.1 a];exact aC.2 rfl),λid a c=>h.dj id a (by rw[aC.1 c];exact aC.2 rfl)⟩
theorem PS.pop7 {n:Nat}{T:S}{s:St}{b:LV}{j y:Nat}{st pl:List Nat}(h:PS n T s (.aD j 0 (st.length+1) 1) b pl) (hs:T.stack=st++[y]):PS n { T with stack:=st } s (.aD j 0 st.length 1) b pl:=by
 have c:=h.UE;rw[hs]at c;obtain⟨d,cs,h1,h2,h3⟩:=c.pos;cases h1;exact⟨h.n4,h.g0,h.g1,h.g2,h.g3,Sk.pop h2 h3,h.MT,λid a=>h.d7 id (by rw[aC.1 a];exact aC.2 rfl),h.d8,λid a=>h.dj id (by rw[aC.1 a];exact aC.2 rfl)⟩
def UL (f:Nat->Nat) (a:List Nat) (x:Nat):Nat->Nat:=λw=>if w∈a then x else f w
theorem Nz {nx:LV}{N:List (List Int)}{vN:List LV}(hN:dF nx N vN) (hb:N.length<=1048576) (hr:∀ i,i<N.length->∀ k,k<(N.getD i []).length->0<=(N.getD i []).getD k 0/\(N.getD i []).getD k 0<N.length) :
 PE 46 [nx] (λr=>∃ p:Nat->Nat,aM r ((List.range N.length).map λi=>(p i:Int))/\∀ u v,u<N.length->v<N.length->(p u=p v↔wD (AB N) u v/\wD (AB N) v u)):=by
 refine n9 (t:=2) hm Try.func46 (by decide +kernel) c46 (Nat.le_of_ble_eq_true rfl) (by simp[LV.closed.aq,hN.closed]) rfl ?_;refine sJ λe z=>?_;have tN:maxLen=9223372036854775807:=by decide
 obtain⟨n,hn⟩:∃ n,N.length=n:=⟨_,rfl⟩;have fZ:=hN.sl;have hlen:fm nx=some n:=by rw[<- hn];exact fZ.len
 rw[hn]at hb;unfold l46;dsimp only[jA,jB,jG,jH,qM,qL,qS,qI,qA,qB,qC,qm,ql];repeat' (first | refine gA @hlen ?_ | (refine gB @hlen ?_;rintro (_|_) c<;>try simp only[aG,reduceCtorEq]at c) | fail)
 refine aS (λm e s=>∃ (r:Nat) (T:S) (iY:List Nat) (o Y:LV),m=n - r/\r<=n/\T.path=[]/\(∀ v,v<r->T.idx v≠0)/\Inv n (AB N) T/\En n T iY/\PS n T s o Y []/\e.at 0=nx/\e.at 3 = .aD 0 0 n 1/\e.at 4 = .aD 1 0 n 1/\e.at 5 = .aD 2 0 n 1/\e.at 6 = .aD 3 0 n 1/\e.at 7=o/\e.at 8=Y/\e.at 9 = .int .i64 (T.qQ:Int)/\e.at 27 = .int .i64 (n:Int)/\e.at 28 = .int .i64 (r:Int)) n
  ⟨0,S.init,[], .aj, .aj,by simp,by omega,rfl,λv Q=>absurd Q (Nat.not_lt_zero _),Oj n (AB N),⟨by simp,rfl,by simp[S.init],by simp⟩,⟨by simp[cj],by simp[cj,S.init],by simp[cj,S.init],by simp[cj,S.init],by simp[cj,S.init], .inl ⟨rfl,rfl⟩, .inl ⟨rfl,rfl⟩,λid h=>absurd h (bq id),λid h=>absurd h (bq id),λid h=>absurd h (bq id)⟩,
   ef,ef,ef,ef,ef,ef,ef,by simp only[lk,Nat.reduceEqDiff,if_false,if_true];rfl,ef,by simp only[lk,Nat.reduceEqDiff,if_false,if_true];rfl⟩ ?_
 clear z;rintro m e s ⟨r,T,iY,o,Y,rfl,hrn,hp,R,d,L,b,z,A,B,C,D,E,F,G,H,I⟩;repeat' (first | refine gA trivial ?_ | (refine gB trivial ?_;intro O c;cases O<;>(try simp only[aG]at c)) | fail)
 · -- all roots
  have hrn':r=n:=by omega
  have iD:=d.final hp λv Q=>R v om;have KT:aM (.aB (ck n T.part) n) ((List.range n).map λi=>(T.part i:Int)):=by
   refine⟨?_,by simp;omega,λx hx=>?_⟩
   ·rw[qc];have:=Sl.aB (ints ((List.range n).map λi=>(T.part i:Int))) n;simpa using this
   ·obtain⟨i,hi,rfl⟩:=List.mem_map.1 hx;have dc:i<n:=by simpa using hi
    obtain⟨q,q1,q2⟩:=d.root i (iD i i dc dc).1;have h1:=d.jd q (by rw[q2];exact (iD i i dc dc).1);have h2:=L.len;have h3:=L.le;constructor<;>omega
  refine⟨.inr trivial, .aB (ck n T.part) n,s.put 0 (.cells .app (ck n T.part)),?_,?_,T.part,by rw[hn];exact KT,λu v hu Q=>(iD u v om om).2⟩
  ·simp only[lk,Nat.reduceEqDiff,if_false,if_true];exact tW b.g0 (by simp) (by rw[qc];exact bD _)
  ·exact KT.closed
 · -- a root
  refine kj (λe s=>∃ (fr:List Nat) (Zr:LV),(fr=[]/\T.idx r≠0∨fr=[r]/\T.idx r=0)/\PS n T s o Zr fr/\EF nx n r T.qQ o Zr e) ?_ ?_
  ·have g:(ck n T.idx)[r]? = some (.int .i64 (T.idx r:Int)):=dL om;have g1:=b.g1;repeat' (first | refine gA (And.intro @cG @g) ?_ | (refine gB (And.intro @cG @g) ?_;intro O c;cases O<;>(try simp only[aG]at c)) | fail)
   ·exact⟨[],Y, .inl ⟨rfl,by omega⟩,b,by simp only[EF,lk,Nat.reduceEqDiff,if_false,if_true,z,A,B,C,D,E,F,G,H,I,and_self]⟩
   ·refine F7 (v:=r) (ls:=[]) ef ef b.MT (by simp) (λs' j h1 h2 h3 h4=>?_);repeat' (first | refine gA trivial ?_ | (refine gB trivial ?_;rintro (_|_) c<;>try simp only[aG,reduceCtorEq]at c) | fail)
    exact⟨[r], .aD j 0 (0+1) 1, .inr ⟨rfl,by omega⟩,b.app8 h1 h2 h3 h4,by simp only[EF,lk,dJ,gW,Nat.reduceEqDiff,if_false,if_true,z,A,B,C,D,E,F,G,H,I,and_self]⟩
  clear z A B C D E F G H I;rintro e s ⟨fr,Zr,og,vP,z,A,B,C,D,E,F,G,K,H,I⟩;repeat' (first | refine gA trivial ?_ | (refine gB trivial ?_;rintro (_|_) c<;>try simp only[aG,reduceCtorEq]at c) | fail)
  refine aS (λm e s=>∃ (T:S) (iY fr:List Nat) (o Y:LV),m=2*(n - iY.length - fr.length)+(T.path++fr).length/\Frs N T fr/\(T.idx r≠0∨r∈fr)/\(∀ v,v<r->T.idx v≠0)/\Inv n (AB N) T/\En n T iY/\PS n T s o Y (T.path++fr)/\EF nx n r T.qQ o Y e) _
   ⟨T,iY,fr,o,Zr,rfl,by
    rcases og with⟨rfl,_⟩ | ⟨rfl,h0⟩
    ·exact .inl rfl
    ·exact .inr ⟨r,rfl,by omega,h0, .inl hp⟩,by
    rcases og with⟨rfl,h0⟩ | ⟨rfl,h0⟩
    ·exact .inl h0
    ·exact .inr (by simp),R,d,L,by rw[hp];exact vP,z,A,B,C,D,E,F,G,K,H,I⟩ ?_
  clear d L b vP R hp og z A B C D E F G K H I;clear fr Zr o Y iY T s e;rintro m e s ⟨T,iY,fr,o,Y,rfl,og,Z,R,d,L,b,z,A,B,C,D,E,F,G,K,H,I⟩;rcases List.eq_nil_or_concat (T.path++fr) with V | ⟨l,v,V⟩
  · -- the way is empty
   have QM:=b.MT.len;rw[V]at QM;have W0:T.path=[]/\fr=[]:=by simpa using V
   obtain⟨hp,rfl⟩:=W0;rw[List.append_nil,hp]at b;repeat' (first | refine gA @QM ?_ | (refine gB @QM ?_;intro O c;cases O<;>(try simp only[aG]at c)) | fail)
   ·refine⟨n - (r+1),by omega,r+1,T,iY,o,Y,rfl,by omega,hp,λv Q=>?_,d,L,b,?_⟩
    ·by_cases h:v<r
     ·exact R v h
     ·obtain rfl:v=r:=by omega
      rcases Z with h | h
      ·exact h
      ·cases h
    ·have hw:IntKind.i64.wrap ((r:Int)+1)=((r+1:Nat):Int):=by rw[wrap_i64 _ om om];rfl
     simp only[lk,gW,Nat.reduceEqDiff,if_false,if_true,hw,z,A,B,C,D,E,F,G,H,I,and_self]
   ·simp at c
  · -- the last on the way
   rw[List.concat_eq_append]at V;rw[V]at b;obtain⟨U,c8,rfl,hj8,hg8⟩:=b.MT.pos;have QM:fm (.aD U 0 (l.length+1) 1)=some (l.length+1):=rfl;have hvm:v∈T.path++fr:=by rw[V];simp
   have LZ:v<n:=by
    rcases List.mem_append.1 hvm with h | h
    ·exact (d.jd v ((d.mem v).1 (d.kY v h)).1).1
    ·rcases og with rfl | ⟨x,rfl,hx,_⟩
     ·cases h
     ·rw[List.mem_singleton.1 h,<- hn];exact hx
   have hEle:=L.le;have uA:l.length<=n:=by
    have gK:T.path.Nodup:=by
     rw[List.nodup_iff_pairwise_ne];exact d.BJ.imp λh e=>by rw[e]at h;exact Nat.lt_irrefl _ h
    have h1:=Go.C2.RT n T.path gK λx hx=>(d.jd x ((d.mem x).1 (d.kY x hx)).1).1;have h2:(T.path++fr).length=l.length+1:=by rw[V];simp
    have h3:fr.length<=1:=by rcases og with rfl | ⟨x,rfl,_⟩<;>simp
    simp only[List.length_append]at h2;omega
   have hw:IntKind.i64.wrap (((l.length+1:Nat):Int) - 1)=(l.length:Int):=by rw[wrap_i64 _ om om];omega
   have hlt8:(l.length:Int)<((l.length+1:Nat):Int):=by omega
   have OS:=AK l v c8;have hvI:(v:Int)<(n:Int):=by omega
   repeat' (first | refine gA (And.intro @QM (And.intro @cG (And.intro @hw @OS))) ?_ | (refine gB (And.intro @QM (And.intro @cG (And.intro @hw @OS))) ?_;intro O c;cases O<;>(try simp only[aG]at c)) | fail)
   ·exfalso;omega
   refine kj (λe s=>∃ (T':S) (ent':List Nat) (v7':LV),T'.path=l++[v]/\Inv n (AB N) T'/\En n T' ent'/\PS n T' s v7' (.aD U 0 (l.length+1) 1) (l++[v])/\2*(n - ent'.length)+(l.length+1)<=2*(n - iY.length - fr.length)+(T.path++fr).length/\T'.idx r≠0/\(∀ v,v<r->T'.idx v≠0)/\e.at 11 = .int .i64 (v:Int)/\EF nx n r T'.qQ v7' (.aD U 0 (l.length+1) 1) e) ?_ ?_
   ·have g:(ck n T.idx)[v]? = some (.int .i64 (T.idx v:Int)):=dL LZ;have g1:=b.g1;repeat' (first | refine gA (And.intro @cG @g) ?_ | (refine gB (And.intro @cG @g) ?_;intro O c;cases O<;>(try simp only[aG]at c)) | fail)
    · -- TR before
     have YV:fr=[]:=by
      rcases og with h | ⟨x,rfl,_,hx,_⟩
      ·exact h
      ·have:=(List.append_inj' (V:T.path++[x]=l++[v]) rfl).2;have:x=v:=by simpa using this
       subst this;omega
     subst YV;rw[List.append_nil]at V;refine⟨T,iY,o,V,d,L,b,by rw[List.append_nil,V];simp,?_,R,ef,by simp only[EF,lk,Nat.reduceEqDiff,if_false,z,A,B,C,D,E,F,G,K,H,I,and_self]⟩;rcases Z with h | h
     ·exact h
     ·cases h
    · -- TR now
     have Yx:T.idx v=0:=by omega
     obtain⟨x,rfl,uR,Om,hx3⟩:∃ x,fr=[x]/\x<N.length/\T.idx x=0/\(T.path=[]∨∃ l p,T.path=l++[p]/\(AB N p)[T.done p]? = some x):=by
      rcases og with rfl | h
      ·rw[List.append_nil]at V;exact absurd Yx ((d.mem v).1 (d.kY v (by rw[V];simp))).1
      ·exact h
     obtain⟨WY,hpl2⟩:=List.append_inj' (V:T.path++[x]=l++[v]) rfl;obtain rfl:x=v:=by simpa using hpl2
     have hlss:=L.less LZ Yx;have hcnt:=L.len;have hwc:IntKind.i64.wrap ((T.qQ:Int)+1)=((T.qQ+1:Nat):Int):=by rw[wrap_i64 _ om om];rfl
     repeat' (first | refine gA (And.intro @cG @hwc) ?_ | (refine gB (And.intro @cG @hwc) ?_;rintro (_|_) c<;>try simp only[aG,reduceCtorEq]at c) | fail)
     refine nw (i:=1) (v:=x) (n:=n) (y:=T.qQ+1) (f:=T.idx) (f':=(T.enter x).idx) ef ef b.g1 LZ (λj=>rfl) (λs1 n1 h1 P=>?_);repeat' (first | refine gA (And.intro @cG @hwc) ?_ | (refine gB (And.intro @cG @hwc) ?_;rintro (_|_) c<;>try simp only[aG,reduceCtorEq]at c) | fail)
     refine nw (i:=2) (v:=x) (n:=n) (y:=T.qQ+1) (f:=T.low) (f':=(T.enter x).low) ef ef (by rw[P 2 om];exact b.g2) LZ (λj=>rfl) (λs2 n2 h2 o2=>?_);have Fy:PS n ⟨(T.enter x).idx,(T.enter x).low,T.part,T.done,T.qQ+1,T.stack,T.path⟩ s2 o (.aD U 0 (l.length+1) 1) (l++[x]) :=
      b.row (by rw[n2,n1]) (by rw[o2 0 om,P 0 om];exact b.g0) (by rw[o2 1 om];exact h1) h2 (by rw[o2 3 om,P 3 om];exact b.g3) (λid aO=>by rw[o2 id om,P id om]) rfl
     repeat' (first | refine gA trivial ?_ | (refine gB trivial ?_;rintro (_|_) c<;>try simp only[aG,reduceCtorEq]at c) | fail)
     have hsl7:T.stack.length<=n:=by
      have gK:T.stack.Nodup:=by
       rw[List.nodup_iff_pairwise_ne];exact d.By.imp λh e=>by rw[e]at h;exact Nat.lt_irrefl _ h
      exact Go.C2.RT n T.stack gK λx hx=>(d.jd x ((d.mem x).1 hx).1).1
     refine F7 (v:=x) (ls:=T.stack) ef ef Fy.UE om (λs3 j3 k1 k2 k3 k4=>?_);repeat' (first | refine gA trivial ?_ | (refine gB trivial ?_;rintro (_|_) c<;>try simp only[aG,reduceCtorEq]at c) | fail)
     refine⟨T.enter x,x::iY, .aD j3 0 (T.stack.length+1) 1,by rw[<- WY];rfl,d.enter LZ Yx hx3,L.enter LZ Yx,Fy.app7 k1 k2 k3 k4 rfl rfl rfl rfl rfl,by rw[WY];simp;omega,?_,λw hw=>?_,ef,by simp only[EF,lk,Nat.reduceEqDiff,if_false,if_true,hwc,z,A,B,C,D,E,F,G,K,H,I,S.enter,and_self]⟩
     ·by_cases e:r=x
      ·subst e;simp[S.enter]
      ·simp only[S.enter,jc _ _ e];rcases Z with h | h
       ·exact h
       ·exact absurd (List.mem_singleton.1 h) e
     ·by_cases e:w=x
      ·subst e;simp[S.enter]
      ·simp only[S.enter,jc _ _ e];exact R w hw
   generalize hM:2*(n - iY.length - fr.length)+(T.path++fr).length=M;clear d L b hEle og Z R V hvm hg8 hj8 OS QM hw hlt8 z A B C D E F G K H I hM;clear c8 fr iY T o s e;rintro e s ⟨T,iY,o,X,d,L,b,rM,Z,R,nW,z,A,B,C,D,E,F,G,K,H,I⟩;have bV:=hN.row v om;have fN:fm (vN.getD v .top)=some (N.getD v []).length:=bV.sl.len;have Tg:∀ s:St,mM 1 nx (.int .i64 (v:Int)) s=some (.aX vN v,s):=λs=>by
    have:=cw (aU:=1) (k:=.i64) (s:=s) fZ (i:=v) om;simpa using this
   have hgN:vN[v]? = some (vN.getD v .top):=hN.tV om;repeat' (first | refine gA trivial ?_ | (refine gB trivial ?_;rintro (_|_) c<;>try simp only[aG,reduceCtorEq]at c) | fail)
   refine aS (λm e s=>∃ T:S,m=(AB N v).length - T.done v/\T.path=l++[v]/\Inv n (AB N) T/\En n T iY/\PS n T s o (.aD U 0 (l.length+1) 1) (l++[v])/\T.idx r≠0/\(∀ v,v<r->T.idx v≠0)/\e.at 11 = .int .i64 (v:Int)/\EF nx n r T.qQ o (.aD U 0 (l.length+1) 1) e) _ ⟨T,rfl,X,d,L,b,Z,R,nW,z,A,B,C,D,E,F,G,K,H,I⟩ ?_;clear X d L b Z R nW z A B C D E F G K H I;clear T s e;rintro m e s ⟨T,rfl,X,d,L,b,Z,R,nW,z,A,B,C,D,E,F,G,K,H,I⟩;have hvp:v∈T.path:=by rw[X];simp
   have hvi:=((d.mem v).1 (d.kY v hvp)).1;have gd:(ck n T.done)[v]? = some (.int .i64 (T.done v:Int)):=dL LZ;have g3:=b.g3;have fG:=R6 N v;have hdle:=d.dle v;have hEle:=L.le;have hvI2:(v:Int)<(n:Int):=by omega
   by_cases hd:T.done v<(N.getD v []).length
   · -- a next one
    obtain⟨hu0,wU⟩:=hr v om _ hd;have Vd:=R7 hd;have hiaR:∀ s:St,mM 1 (vN.getD v .top) (.int .i64 (T.done v:Int)) s=some (.aX (ints (N.getD v [])) (T.done v),s):=λs=>by
     have:=cw (aU:=1) (k:=.i64) (s:=s) bV.sl (i:=T.done v) om;simpa using this
    have hgR:(ints (N.getD v []))[T.done v]? = some (.int .i64 (((N.getD v []).getD (T.done v) 0).toNat:Int)):=by
     rw[Int.toNat_of_nonneg hu0];exact bu om
    obtain⟨u,hu⟩:∃ u,u=((N.getD v []).getD (T.done v) 0).toNat:=⟨_,rfl⟩;rw[<- hu]at Vd hgR;have B7:u<n:=by omega
    have huI:(u:Int)<(n:Int):=by omega
    have gi:(ck n T.idx)[u]? = some (.int .i64 (T.idx u:Int)):=dL B7;have g1:=b.g1;clear hu hu0 wU;repeat' (first | refine gA (And.intro @cG (And.intro @Tg (And.intro @hgN (And.intro @fN (And.intro @gd (And.intro @hiaR (And.intro @hgR @gi))))))) ?_ | (refine gB (And.intro @cG (And.intro @Tg (And.intro @hgN (And.intro @fN (And.intro @gd (And.intro @hiaR (And.intro @hgR @gi))))))) ?_;intro O c;cases O<;>(try simp only[aG]at c)) | fail)
    ·exfalso;omega
    · -- known
     have hui:T.idx u≠0:=by omega
     have uU:=b.MT;refine kj (λe s=>PS n ⟨T.idx,(T.kr v u).low,T.part,T.done,T.qQ,T.stack,T.path⟩ s o (.aD U 0 (l.length+1) 1) (l++[v])/\e.at 11 = .int .i64 (v:Int)/\EF nx n r T.qQ o (.aD U 0 (l.length+1) 1) e) ?_ ?_
     ·have gp:(ck n T.part)[u]? = some (.int .i64 (T.part u:Int)):=dL B7;have gl:(ck n T.low)[v]? = some (.int .i64 (T.low v:Int)):=dL LZ;have gm:(ck n T.low)[u]? = some (.int .i64 (T.low u:Int)):=dL B7;have g0:=b.g0;have g2:=b.g2;repeat' (first | refine gA (And.intro @cG (And.intro @gp (And.intro @gl @gm))) ?_ | (refine gB (And.intro @cG (And.intro @gp (And.intro @gl @gm))) ?_;intro O c;cases O<;>(try simp only[aG]at c)) | fail)
      ·have hz:T.part u≠0:=by omega
       refine⟨b.congr rfl rfl (by simp[S.kr,hz]) rfl rfl,ef,by simp only[EF,lk,Nat.reduceEqDiff,if_false,z,A,B,C,D,E,F,G,K,H,I,and_self]⟩
      ·have hz:T.part u=0:=by omega
       have uW:min (T.low v:Int) (T.low u:Int)=((min (T.low v) (T.low u):Nat):Int):=by omega
       refine nw (i:=2) (v:=v) (n:=n) (y:=min (T.low v) (T.low u)) (f:=T.low) (f':=(T.kr v u).low) ef ef b.g2 LZ (λj=>by simp[S.kr,hz,jT]) (λs1 n1 h1 P=>?_);repeat' (first | refine gA trivial ?_ | (refine gB trivial ?_;rintro (_|_) c<;>try simp only[aG,reduceCtorEq]at c) | fail)
       refine⟨b.row n1 (by rw[P 0 om];exact b.g0) (by rw[P 1 om];exact b.g1) h1 (by rw[P 3 om];exact b.g3) (λid aO=>P id om) rfl,ef,by simp only[EF,lk,Nat.reduceEqDiff,if_false,z,A,B,C,D,E,F,G,K,H,I,and_self]⟩
     clear g3 g1 uU z A B C D E F G K nW H I;clear b s e;rintro e s ⟨b,nW,z,A,B,C,D,E,F,G,K,H,I⟩;have g3:=b.g3;have hwd:IntKind.i64.wrap ((T.done v:Int)+1)=((T.done v+1:Nat):Int):=by
      have:=bV.len;rw[wrap_i64 _ om om];rfl
     repeat' (first | refine gA (And.intro @cG (And.intro @gd @hwd)) ?_ | (refine gB (And.intro @cG (And.intro @gd @hwd)) ?_;rintro (_|_) c<;>try simp only[aG,reduceCtorEq]at c) | fail)
     refine nw (i:=3) (v:=v) (n:=n) (y:=T.done v+1) (f:=T.done) (f':=(T.kr v u).done) ef ef b.g3 LZ (λj=>rfl) (λs1 n1 h1 P=>?_);repeat' (first | refine gA trivial ?_ | (refine gB trivial ?_;rintro (_|_) c<;>try simp only[aG,reduceCtorEq]at c) | fail)
     refine⟨(AB N v).length - (T.done v+1),by omega,T.kr v u,by simp[S.kr],X,d.kr X Vd hui,L.same rfl rfl,b.row n1 (by rw[P 0 om];exact b.g0) (by rw[P 1 om];exact b.g1) (by rw[P 2 om];exact b.g2) h1 (λid aO=>P id om) rfl,Z,R,ef,by simp only[EF,lk,Nat.reduceEqDiff,if_false,z,A,B,C,D,E,F,G,K,H,I,S.kr,and_self]⟩
    · -- fresh
     have hu0:T.idx u=0:=by omega
     have hlss:=L.less B7 hu0;have hlen8:(l++[v]).length=l.length+1:=by simp
     have uA:l.length+1<=n:=by
      have gK:T.path.Nodup:=by
       rw[List.nodup_iff_pairwise_ne];exact d.BJ.imp λh e=>by rw[e]at h;exact Nat.lt_irrefl _ h
      have h1:=Go.C2.RT n T.path gK λx hx=>(d.jd x ((d.mem x).1 (d.kY x hx)).1).1;rw[X,hlen8]at h1;exact h1
     refine F7 (v:=u) (ls:=l++[v]) ef ef b.MT om (λs' j k1 k2 k3 k4=>?_);repeat' (first | refine gA trivial ?_ | (refine gB trivial ?_;rintro (_|_) c<;>try simp only[aG,reduceCtorEq]at c) | fail)
     refine⟨2*(n - iY.length - 1)+(l.length+2),by omega,T,iY,[u],o, .aD j 0 ((l++[v]).length+1) 1,by rw[X];simp, .inr ⟨u,rfl,by omega,hu0, .inr ⟨l,v,X,Vd⟩⟩, .inl Z,R,d,L,by rw[X];exact b.app8 k1 k2 k3 k4,by simp only[EF,lk,Nat.reduceEqDiff,if_false,if_true,z,A,B,C,D,E,F,G,K,H,I,and_self]⟩
   · -- none left
    have hdv:T.done v=(AB N v).length:=by omega
    have hw:IntKind.i64.wrap (((l.length+1:Nat):Int) - 1)=(l.length:Int):=by
     have uA:l.length+1<=n:=by
      have gK:T.path.Nodup:=by
       rw[List.nodup_iff_pairwise_ne];exact d.BJ.imp λh e=>by rw[e]at h;exact Nat.lt_irrefl _ h
      have h1:=Go.C2.RT n T.path gK λx hx=>(d.jd x ((d.mem x).1 (d.kY x hx)).1).1;rw[X]at h1;simpa using h1
     rw[wrap_i64 _ om om];omega
    have QM:fm (.aD U 0 (l.length+1) 1)=some (l.length+1):=rfl;have gl:(ck n T.low)[v]? = some (.int .i64 (T.low v:Int)):=dL LZ;have gi:(ck n T.idx)[v]? = some (.int .i64 (T.idx v:Int)):=dL LZ;have g1:=b.g1;have g2:=b.g2;repeat' (first | refine gA (And.intro @cG (And.intro @Tg (And.intro @hgN (And.intro @fN (And.intro @gd @QM))))) ?_ | (refine gB (And.intro @cG (And.intro @Tg (And.intro @hgN (And.intro @fN (And.intro @gd @QM))))) ?_;intro O c;cases O<;>(try simp only[aG]at c)) | fail)
    rotate_left
    ·exfalso;omega
    refine Dz wN (j:=U) (n:=l.length+1) (m:=l.length) ef ef om ?_;repeat' (first | refine gA (And.intro @cG (And.intro @gl @gi)) ?_ | (refine gB (And.intro @cG (And.intro @gl @gi)) ?_;intro O c;cases O<;>(try simp only[aG]at c)) | fail)
    · -- a part is whole
     have hnl':¬ T.low v<T.idx v:=by omega
     have hIR:=d.pN X hdv hnl';have Vl:∀ (st r':List Nat) (o:LV) (e:Env) (s:St),st++v::r'=T.stack->PS n ⟨T.idx,T.low,UL T.part (v::r') (T.idx v),T.done,T.qQ,st,l⟩ s o (.aD U 0 l.length 1) l->EF nx n r T.qQ o (.aD U 0 l.length 1) e ->
      ∃ m,m<M/\∃ (T:S) (iY fr:List Nat) (o Y:LV),m=2*(n - iY.length - fr.length)+(T.path++fr).length/\Frs N T fr/\(T.idx r≠0∨r∈fr)/\(∀ v,v<r->T.idx v≠0)/\Inv n (AB N) T/\En n T iY/\PS n T s o Y (T.path++fr)/\EF nx n r T.qQ o Y e:=by
      intro st r' o e s dO hPS hEF;have wk:=d.By;rw[<- dO]at wk;obtain⟨c1,c2⟩:=FQ wk;have Ep:(T.pN v).path=l:=by simp[S.pN,X]
      refine⟨2*(n - iY.length)+l.length,by omega,T.pN v,iY,[],o, .aD U 0 l.length 1,by rw[Ep];simp, .inl rfl, .inl Z,R,hIR,L.same rfl rfl,?_,hEF⟩;rw[Ep,List.append_nil];refine hPS.congr ?_ rfl rfl rfl ?_
      ·funext w;simp only[S.pN,UL];rw[<- dO];by_cases h:w∈v::r'
       ·rw[if_pos h,if_pos ((c1 w).1 h)]
       ·rw[if_neg h,if_neg λhh=>h ((c1 w).2 hh)]
      ·simp only[S.pN];rw[<- dO,c2]
     refine aS (λm e s=>∃ (st pd:List Nat) (o:LV) (x:Int),m=st.length/\st++pd=T.stack/\(pd=[]/\x = -1∨∃ y r',pd=y::r'/\x=(y:Int))/\(v∈st∨∃ r',pd=v::r')/\PS n ⟨T.idx,T.low,UL T.part pd (T.idx v),T.done,T.qQ,st,l⟩ s o (.aD U 0 l.length 1) l/\e.at 11 = .int .i64 (v:Int)/\e.at 13 = .int .i64 x/\EF nx n r T.qQ o (.aD U 0 l.length 1) e) _
      ⟨T.stack,[],o,-1,rfl,by simp, .inl ⟨rfl,rfl⟩, .inl (d.kY v hvp),b.pop8.congr (by funext w;simp[UL]) rfl rfl rfl rfl,ef,ef,by simp only[EF,lk,Nat.reduceEqDiff,if_false,if_true,z,A,B,C,D,E,F,G,K,H,I,and_self]⟩ ?_
     clear g3 g1 g2 z A B C D E F G K nW H I;clear b s e;rintro m e s ⟨st,pd,o,x,rfl,dO,hx,Q,b,nW,Lm,z,A,B,C,D,E,F,G,K,H,I⟩;rcases List.eq_nil_or_concat st with SQ | ⟨J,y,SQ⟩
     ·subst SQ;repeat' (first | refine gA trivial ?_ | (refine gB trivial ?_;intro O c;cases O<;>(try simp only[aG]at c)) | fail)
      ·rcases Q with Q | ⟨r',rfl⟩
       ·cases Q
       ·exact Vl [] r' o _ _ dO b (by simp only[EF,lk,Nat.reduceEqDiff,if_false,z,A,B,C,D,E,F,G,K,H,I,and_self])
      all_goals
       exfalso;rcases Q with Q | ⟨r',rfl⟩
       ·cases Q
       ·rcases hx with⟨h,_⟩ | ⟨y,r2,h,hxy⟩
        ·cases h
        ·cases h;omega
     ·rw[List.concat_eq_append]at SQ;subst SQ;have h7:=b.UE;obtain⟨j7,c7,hv7,hj7,GZ⟩:=h7.pos;subst hv7;have hl7:fm (.aD j7 0 (J.length+1) 1)=some (J.length+1):=rfl;have Ys:y∈T.stack:=by rw[<- dO];simp
      have Wu:y<n:=(d.jd y ((d.mem y).1 Ys).1).1;have hyI:(y:Int)<(n:Int):=by omega
      have hsl7:J.length+1<=n:=by
       have gK:T.stack.Nodup:=by
        rw[List.nodup_iff_pairwise_ne];exact d.By.imp λh e=>by rw[e]at h;exact Nat.lt_irrefl _ h
       have:=Go.C2.RT n T.stack gK λx hx=>(d.jd x ((d.mem x).1 hx).1).1;rw[<- dO]at this;simp only[List.length_append,List.length_cons,List.length_nil]at this;omega
      have hw7:IntKind.i64.wrap (((J.length+1:Nat):Int) - 1)=(J.length:Int):=by rw[wrap_i64 _ om om];omega
      have hlt7:(J.length:Int)<((J.length+1:Nat):Int):=by omega
      have OS:=AK J y c7;have g1:=b.g1;repeat' (first | refine gA (And.intro @cG (And.intro @hl7 (And.intro @hw7 @OS))) ?_ | (refine gB (And.intro @cG (And.intro @hl7 (And.intro @hw7 @OS))) ?_;intro O c;cases O<;>(try simp only[aG]at c)) | fail)
      ·rcases hx with⟨_,h⟩ | ⟨y',r',rfl,h⟩
       ·exfalso;omega
       ·obtain rfl:y'=v:=by omega
        exact Vl _ r' _ _ _ dO b (by simp only[EF,lk,Nat.reduceEqDiff,if_false,z,A,B,C,D,E,F,G,K,H,I,and_self])
      ·refine Dz wN (j:=j7) (n:=J.length+1) (m:=J.length) ef ef om ?_;repeat' (first | refine gA (And.intro @cG @gi) ?_ | (refine gB (And.intro @cG @gi) ?_;rintro (_|_) c<;>try simp only[aG,reduceCtorEq]at c) | fail)
       refine nw (i:=0) (v:=y) (n:=n) (y:=T.idx v) (f:=UL T.part pd (T.idx v)) (f':=UL T.part (y::pd) (T.idx v)) ef ef b.g0 Wu (λj=>by
        by_cases h:j=y
        ·simp[UL,h]
        ·simp[UL,h]) (λs1 n1 h1 P=>?_)
       repeat' (first | refine gA trivial ?_ | (refine gB trivial ?_;rintro (_|_) c<;>try simp only[aG,reduceCtorEq]at c) | fail)
       refine⟨J.length,by simp,J,y::pd, .aD j7 0 J.length 1,(y:Int),rfl,by rw[<- dO];simp, .inr ⟨y,pd,rfl,rfl⟩,?_,(b.pop7 rfl).row n1 h1 (by rw[P 1 om];exact b.g1) (by rw[P 2 om];exact b.g2) (by rw[P 3 om];exact b.g3) (λid aO=>P id om) rfl,ef,ef,by simp only[EF,lk,Nat.reduceEqDiff,if_false,if_true,z,A,B,C,D,E,F,G,K,H,I,and_self]⟩;rcases Q with Q | ⟨r',rfl⟩
       ·rcases List.mem_append.1 Q with Q | Q
        ·exact .inl Q
        ·exact .inr ⟨pd,by rw[List.mem_singleton.1 Q]⟩
       ·exfalso;rcases hx with⟨h,_⟩ | ⟨y2,r2,h,hxy⟩
        ·cases h
        ·cases h;omega
    · -- not yet
     have YL:T.low v<T.idx v:=by omega
     have Ep:T.BL.path=l:=by simp[S.BL,X]
     exact⟨2*(n - iY.length)+l.length,by omega,T.BL,iY,[],o, .aD U 0 l.length 1,by rw[Ep];simp, .inl rfl, .inl Z,R,d.BL X hdv YL,L.same rfl rfl,by rw[Ep,List.append_nil];exact b.pop8.congr rfl rfl rfl rfl rfl,by simp only[EF,lk,Nat.reduceEqDiff,if_false,if_true,z,A,B,C,D,E,F,G,K,H,I,S.BL,and_self]⟩
open Go Go.Pv Go.C2 Go.Bn Go.CC
structure NR (n0:Nat) (s:St) (j7 n:Nat) (rows:Nat->List Nat) (rv:List LV):Prop where
  len:rv.length=n
  g:s.get j7=some (.cells .mut rv)
  lt:j7<s.n
  row:∀ i,i<n->dQ s (rv.getD i .top) 1 (eP (rows i)) (rows i).length
  low:∀ i,i<n->∀ id,aP (rv.getD i .top) id->n0<=id/\id≠j7
  dj:∀ i k,i<n->k<n->i≠k->∀ id,aP (rv.getD i .top) id->¬ aP (rv.getD k .top) id
theorem NR.keep {a:Nat}{s s':St}{b n:Nat}{rows:Nat->List Nat}{rv:List LV}(h:NR a s b n rows rv) (d:s.n<=s'.n) (hs:∀ id,id<s.n->s'.get id=s.get id):NR a s' b n rows rv:=
 ⟨h.len,by rw[hs _ h.lt];exact h.g,by have:=h.lt;omega,λi c=>(h.row i c).mono d λid e=>hs id ((h.row i c).lt e),h.low,h.dj⟩
theorem NR.congr {a:Nat}{s:St}{b n:Nat}{rows c:Nat->List Nat}{rv:List LV}(h:NR a s b n rows rv) (e:∀ i,i<n->c i=rows i):NR a s b n c rv:=
 ⟨h.len,h.g,h.lt,λi d=>by rw[e i d];exact h.row i d,h.low,h.dj⟩
theorem EG {α:Type}{l:List α}{i k:Nat}{x d:α}(h:i<l.length):(l.set i x).getD k d=if k=i then x else l.getD k d:=by
 by_cases e:k=i
 ·subst e;simp[gD,h]
 ·have a:i≠k:=λh=>e h.symm;simp[gD,e,a]
theorem NR.put {f:Nat}{s s2 s3:St}{d n:Nat}{rows:Nat->List Nat}{rv:List LV}(h:NR f s d n rows rv) (p:d<f) (q:f<=s.n) {i j:Nat}(hi:i<n) {r:List Nat}(h1:s.n<=j) (h2:dQ s2 (.aD j 0 r.length 1) 1 (eP r) r.length) (t:s.n<=s2.n) (hs:∀ id,id<s.n->¬ aP (rv.getD i .top) id->s2.get id=s.get id)
 (u:s3.n=s2.n) (h3:s3.get d=some (.cells .mut (rv.set i (.aD j 0 r.length 1)))) (ho:∀ id,id≠d->s3.get id=s2.get id):NR f s3 d n (λk=>if k=i then r else rows k) (rv.set i (.aD j 0 r.length 1)):=by
 have hl:=h.len;have v:=h.lt;have g:∀ k,(rv.set i (.aD j 0 r.length 1)).getD k .top=if k=i then .aD j 0 r.length 1 else rv.getD k .top:=λk=>EG (by rw[hl];exact hi)
 refine⟨by simp[hl],h3,by omega,λk b=>?_,λk b id a=>?_,λk l b m dH id a c=>?_⟩
 ·rw[g];by_cases e:k=i
  ·rw[if_pos e,if_pos e];exact h2.mono om λid a=>ho id (by rw[aC.1 a];omega)
  ·rw[if_neg e,if_neg e];exact (h.row k b).mono om λid a=>by
    rw[ho id (h.low k b id a).2];exact hs id ((h.row k b).lt a) λc=>h.dj k i b hi e id a c
 ·rw[g]at a;by_cases e:k=i
  ·rw[if_pos e]at a;rw[aC.1 a];exact⟨by omega,by omega⟩
  ·rw[if_neg e]at a;exact h.low k b id a
 ·rw[g]at a c;by_cases e:k=i
  ·rw[if_pos e]at a;rw[if_neg om]at c;have:=(h.row l m).lt c;rw[aC.1 a]at this;omega
  ·rw[if_neg e]at a;by_cases o:l=i
   ·rw[if_pos o]at c;have:=(h.row k b).lt a;rw[aC.1 c]at this;omega
   ·rw[if_neg o]at c;exact h.dj k l b m dH id a c
theorem Sf {n:Nat}{ms:nQ}(h:Zm n ms):ms.length<=2*n:=by
 let f:Nat->Int:=λk=>2*(ms.getD k (0,false)).1+(if (ms.getD k (0,false)).2=true then 1 else 0);have b:∀ k,k<ms.length->(k:Int)<=f k:=by
  intro k;induction k with
  | zero=>
    intro a;have:=(h 0 a).1;show (0:Int)<=2*_+_;split<;>omega
  | succ k ih=>
    intro a;have h1:=ih om;have h2:=(h (k+1) a).2.2 om;rw[Nat.add_sub_cancel]at h2;have h3:f k<f (k+1):=by
     show 2*(ms.getD k (0,false)).1+_<2*(ms.getD (k+1) (0,false)).1+_;rcases h2 with h2 | ⟨h2,c,d⟩
     ·split<;>split<;>omega
     ·rw[c,d,h2];simp only[Bool.false_eq_true,if_false,if_true];omega
    omega
 by_cases e:ms.length=0
 ·omega
 ·have h1:=b (ms.length - 1) om;have h2:=(h (ms.length - 1) om).2.1;have h3:f (ms.length - 1)<=2*(ms.getD (ms.length - 1) (0,false)).1+1:=by
   show 2*_+_<=_;split<;>omega
  omega
theorem Cw {B:Bu}{ls:List Nat}(a:Vb B) (c:∀ i,i<ls.length->(ls.getD i 0:Int)<B.L) {p:Pl}(d:Bm B ls p):(FB B ls p).length<=6000:=by
 obtain⟨h1,h2⟩:=d;have b:=a.2.2.2.2 p.2 h2;have hl:=c p.1 h1;have e:ls.getD p.1 0<(B.next.getD p.2 []).length:=by have:=b.1;omega
 have:=Sf (b.2 _ e);have h3:=a.2.2.1;show ((B.next.getD p.2 []).getD (ls.getD p.1 0) []).length<=6000;omega
def sN (B:Bu) (ls:List Nat) (bk:Nat) (ps:List Pl) (i:Nat):List Nat:=(FB B ls (ps.getD i (0,0))).map λm=>(idx ((cq B ls bk).after (ps.getD i (0,0)) (lP m)) ps 0).getD 0
def Ye (k:C2.Tk) (x:Pl) (m:Int × Bool):Prop:=m.2=true/\∃ a,jR k.E a (k.after x (lP m)) x
def CB (B:Bu) (ls:List Nat) (bk:Nat) (ps:List Pl) (x y:Pl) (ok:Bool):Prop:=
 (ok=true/\∃ (i k:Nat) (m:Int × Bool),ps[i]? = some x/\(FB B ls x)[k]? = some m/\Ye (cq B ls bk) x m/\y=(cq B ls bk).after x (lP m)/\∀ (b d:Nat) (a:Pl) (c:Int × Bool),(b<i∨b=i/\d<k)->ps[b]? = some a->(FB B ls a)[d]? = some c->¬ Ye (cq B ls bk) a c) ∨
 (ok=false/\x=(0,0)/\y=(0,0)/\∀ (b d:Nat) (a:Pl) (c:Int × Bool),ps[b]? = some a->(FB B ls a)[d]? = some c->¬ Ye (cq B ls bk) a c)
theorem Rk {v:LV}{B:Bu}{ls:List Nat}{bk:Nat}{sv nv lv V bv:LV}(h:CI v B ls bk sv nv lv) {from_:List Pl}{acc:Ac Pl}(Q0:Bn.Ok (cq B ls bk).succ from_ (Bm B ls) acc) (hCl:Cl (cq B ls bk).succ acc acc.length) {s:St}{M:Nat}(hF:FO s M V bv acc) :
 aJ Try.prog GL (.fn (.func 26) [] []) [v, .agg [.aI M,V,bv]] s (λr s'=>∃ x y ok,r = .cy [.agg (bJ x), .agg (bJ y), .bool ok]/\CB B ls bk (acc.map (·.1)) x y ok/\s.n<=s'.n/\∀ id,id<s.n->s'.get id=s.get id):=by
 have cx:=h.closed;have zJ:=fun {p:Pl}(t:Bm B ls p)=>DO h t;have haf:=fun {p:Pl}(t:p.1<ls.length) (m:Int × Bool) (q:Nat) (hq:m.1=(q:Int))=>Fb h t m q hq;obtain⟨rfl,dO,nF,cm,cQ,oe,K3,gZ,kG⟩:=h;obtain⟨vs,hn⟩:=nF;have mZ:=dO.sl.cell;have uD:=hn.sl.cell;have Ez:=cm.sl.cell;have hNb:ls.length*B.next.length<=600000:=by
  have:ls.length*B.next.length<=200*3000:=Nat.mul_le_mul gZ cQ.2.2.1;omega
 have fG:acc.length<=600000:=by
  have:=B6 Q0.nd λx hx=>by obtain⟨y,hy,rfl⟩:=List.mem_map.1 hx;exact Q0.jd y hy
  rw[List.length_map]at this;omega
 have lG:=hF.sp.len;have QV:=hF.sp.cell;have Vn:=hF.sb.cell;have YW:aV (.aI M)=true:=rfl;have hM:=hF.m1;refine bL (first:=[]) (caps:=[]) Try.func26 (by decide +kernel) c26 (Nat.le_of_ble_eq_true rfl) (aQ.mono (Q:=λo e s'=>(o = .normal∨o = .jmp .ret)/\∃ x y ok,e.at 4 = .aH (s.n+1) 0/\e.at 5 = .aH (s.n+1+1) 0/\e.at 6 = .bool ok/\s'.get (s.n+1)=some (.cells .mut (bJ x))/\s'.get (s.n+1+1)=some (.cells .mut (bJ y))/\CB B ls bk (acc.map (·.1)) x y ok/\s.n<=s'.n/\∀ id,id<s.n->s'.get id=s.get id) ?_ λo e s' hh=>by
  obtain⟨h1,x,y,ok,h2,h3,h4,h5,h6,h7⟩:=hh;exact⟨h1, .cy [.agg (bJ x), .agg (bJ y), .bool ok],by simp[l26,br,bO,h2,h3,h4,h5,h6,aT,bJ],x,y,ok,rfl,h7⟩)
 refine Cd.out (pF λe e0 e1=>?_);unfold l26;dsimp only[jA,jB,jE,jG,jH,qM,qL,qN,qF,qS,qI,qA,qB,qC,qK,qO,qG,qm,ql];repeat' (first | refine gA trivial ?_ | (refine gB trivial ?_;rintro (_|_) c<;>try simp only[aG,reduceCtorEq]at c) | fail)
 have hgM:=hF.gM;have hspx:=hF.sp;generalize uU:acc.map (·.1)=ps at *;have hpsl:ps.length=acc.length:=by rw[<- uU];simp
 generalize YH:acc.length=n at *;have OB:∀ {i:Nat}{p:Pl},ps[i]? = some p->Bm B ls p:=fun {i p} t=>by
  rw[<- uU,List.getElem?_map]at t;obtain⟨x,hx,rfl⟩:=Option.map_eq_some_iff.1 t;exact Q0.jd x (List.mem_of_getElem? hx)
 have Tp:∀ {i:Nat}{p:Pl},ps[i]? = some p->∀ q∈(cq B ls bk).succ p,q∈ps:=fun {i p} t q hq=>by
  have cM:=(List.getElem?_eq_some_iff.1 t).1;rw[<- uU,List.getElem?_map]at t;obtain⟨x,hx,rfl⟩:=Option.map_eq_some_iff.1 t;rw[<- uU];exact hCl i x om hx q hq
 have gK:ps.Nodup:=by rw[<- uU];exact Q0.nd
 refine Mq (λe C=>C.n=s.n+1+1+1/\C.get s.n=some (.cells .mut [.aI M,V,bv])/\C.get (s.n+1)=some (.cells .mut [.int .i64 0, .int .i64 0])/\C.get (s.n+1+1)=some (.cells .mut [.int .i64 0, .int .i64 0])/\(∀ id,id<s.n->C.get id=s.get id)/\e.at 2 = .aX [.int .i64 B.L,sv,nv,lv, .int .i64 (bk:Int)] 0/\e.at 3 = .aH s.n 0/\e.at 4 = .aH (s.n+1) 0/\e.at 5 = .aH (s.n+1+1) 0/\e.at 6 = .bool false/\e.at 17 = .aH s.n 1) ?_ ?_
 ·refine⟨rfl,?_,?_,?_,λid A=>?_,ef,ef,ef,ef,ef,ef⟩
  ·simp only[St.az,St.dZ];rw[if_neg om,if_neg om,if_pos trivial]
  ·simp only[St.az,St.dZ];rw[if_neg om,if_pos trivial]
  ·simp only[St.az,St.dZ];rw[if_pos trivial]
  ·simp only[St.az,St.dZ];rw[if_neg om,if_neg om,if_neg om]
 clear e0 e1;clear e;rintro e C ⟨gH,g3,g4,g5,vM,I,N,O,P,R,P4⟩;repeat' (first | refine gA @lG ?_ | (refine gB @lG ?_;rintro (_|_) c<;>try simp only[aG,reduceCtorEq]at c) | fail)
 have hnI:(n:Int)<=600000:=by omega
 refine cX (v:=.aD C.n 0 n 1) (s':=C.new (.cells .mut (List.replicate n .aj))) wN (by
  have h1:(n:Int)*24<=big:=by unfold big;omega
  have h2:(n:Int)<=big:=by unfold big;omega
  simp only[aR.run,lk,dJ,gW,Nat.reduceEqDiff,if_false,if_true];rw[if_pos ⟨by omega,Int.le_refl _,h1,h2,trivial⟩,Int.toNat_natCast,wO]) rfl trivial ?_
 simp only[Env.au];refine Mq (λe s2=>NR (C.n+1) s2 C.n n (λ_=>[]) (List.replicate n .aj)/\s2.n=C.n+1/\(∀ id,id<C.n->s2.get id=C.get id)/\e.at 2 = .aX [.int .i64 B.L,sv,nv,lv, .int .i64 (bk:Int)] 0/\e.at 3 = .aH s.n 0/\e.at 4 = .aH (s.n+1) 0/\e.at 5 = .aH (s.n+1+1) 0/\e.at 6 = .bool false/\e.at 20 = .aD C.n 0 n 1) ?_ ?_
 ·have hrp:∀ i,i<n->(List.replicate n LV.aj).getD i .top = .aj:=λi hi=>by simp[gD,hi]
  refine⟨⟨by simp,by rw[St.az,if_pos rfl],by simp,λi hi=>by rw[hrp i hi];exact dQ.nil _ _,λi hi id z=>by rw[hrp i hi]at z;exact absurd z (bq id),λi k hi hk dH id z=>by rw[hrp i hi]at z;exact absurd z (bq id)⟩,rfl,λid A=>by rw[St.az,if_neg om],ef,ef,ef,ef,ef,ef⟩
 clear I N O P R P4;clear e;rintro e s2 ⟨w,jY,H,I,N,O,P,R,TU⟩;obtain⟨f,hj7⟩:∃ f,f=C.n:=⟨_,rfl⟩;rw[<- hj7]at w jY H TU;have hj7s:s.n+1+1<f:=by omega
 have Ze:s2.get s.n=some (.cells .mut [.aI M,V,bv]):=by rw[H _ om];exact g3
 clear hj7;repeat' (first | refine gA @lG ?_ | (refine gB @lG ?_;rintro (_|_) c<;>try simp only[aG,reduceCtorEq]at c) | fail)
 refine aS (λm e s'=>∃ (i:Nat) (rv:List LV),m=n - i/\i<=n/\NR (f+1) s' f n (λx=>if x<i then sN B ls bk ps x else []) rv/\f<s'.n/\(∀ id,id<f->s'.get id=C.get id)/\e.at 2 = .aX [.int .i64 B.L,sv,nv,lv, .int .i64 (bk:Int)] 0/\e.at 3 = .aH s.n 0/\e.at 4 = .aH (s.n+1) 0/\e.at 5 = .aH (s.n+1+1) 0/\e.at 6 = .bool false/\e.at 7 = .aD f 0 n 1/\e.at 22=V/\e.at 23 = .int .i64 (n:Int)/\e.at 24 = .int .i64 (i:Int)) _
  ⟨0,_,rfl,by omega,w.congr (λi _=>by simp),by omega,H,ef,ef,ef,ef,ef,ef,ef,ef,by simp only[lk,Nat.reduceEqDiff,if_false,if_true];rfl⟩ ?_
 clear w jY H Ze I N O P R TU;clear s2 e;rintro m e s2 ⟨i,rv,rfl,hi,w,QO,H,I,N,O,P,R,X,uE,wB,Q9⟩;have Ze:s2.get s.n=some (.cells .mut [.aI M,V,bv]):=by rw[H _ om];exact g3
 have gM':s2.get M=some (.map (lN ps 0)):=by rw[H _ om,vM _ hM];exact hgM
 by_cases cM:i<n
 ·obtain⟨p,t⟩:∃ p,ps[i]? = some p:=⟨_,gE om⟩;have Cb:=OB t;obtain⟨pid,CS,wm,WZ⟩:=hspx.pos om;have OD:s2.get pid=some (.cells .mut (dm ps)):=by rw[H _ om,vM _ wm];exact WZ
  have tP:(i:Int)<(n:Int):=by omega
  have L6:mM 2 V (.int .i64 (i:Int)) s2=some (.aH pid (i*2),s2):=by
   rw[CS,cG tP,Nat.zero_add]
  have T:=sB t OD;have hw:IntKind.i64.wrap ((i:Int)+1)=((i+1:Nat):Int):=by rw[wrap_i64 _ om om];rfl
  clear CS;repeat' (first | refine gA (And.intro @L6 @T) ?_ | (refine gB (And.intro @L6 @T) ?_;intro U c;cases U<;>(try simp only[aG]at c)) | fail)
  ·exfalso;omega
  have XG:=w.keep (s':=(s2.new (.cells .mut [.int .i64 0, .int .i64 0])).put s2.n (.cells .mut [.int .i64 (p.1:Int), .int .i64 (p.2:Int)])) (by simp) λid A=>by rw[St.ah,if_neg om,St.az,if_neg om]
  have J:((s2.new (.cells .mut [.int .i64 0, .int .i64 0])).put s2.n (.cells .mut [.int .i64 (p.1:Int), .int .i64 (p.2:Int)])).get s2.n=some (.cells .mut [.int .i64 (p.1:Int), .int .i64 (p.2:Int)]):=by rw[St.ah,if_pos rfl]
  have D:∀ id,id<f->((s2.new (.cells .mut [.int .i64 0, .int .i64 0])).put s2.n (.cells .mut [.int .i64 (p.1:Int), .int .i64 (p.2:Int)])).get id=C.get id:=λid A=>by rw[St.ah,if_neg om,St.az,if_neg om];exact H id A
  have Yy:∀ x,x<n->¬ aP (rv.getD x .top) s2.n:=λx hx z=>by have:=(w.row x hx).lt z;omega
  have S8:((s2.new (.cells .mut [.int .i64 0, .int .i64 0])).put s2.n (.cells .mut [.int .i64 (p.1:Int), .int .i64 (p.2:Int)])).n=s2.n+1:=rfl;generalize (s2.new (.cells .mut [.int .i64 0, .int .i64 0])).put s2.n (.cells .mut [.int .i64 (p.1:Int), .int .i64 (p.2:Int)])=s3 at XG J D S8 ⊢;obtain⟨a9,hae⟩:∃ a9,s2.n=a9:=⟨_,rfl⟩;rw[hae]at J Yy S8 QO;refine Mq (λe s'=>s'=s3/\e.at 2 = .aX [.int .i64 B.L,sv,nv,lv, .int .i64 (bk:Int)] 0/\e.at 3 = .aH s.n 0/\e.at 4 = .aH (s.n+1) 0/\e.at 5 = .aH (s.n+1+1) 0/\e.at 6 = .bool false/\e.at 7 = .aD f 0 n 1/\e.at 22=V/\e.at 23 = .int .i64 (n:Int)/\e.at 24 = .int .i64 (i:Int)/\e.at 8 = .int .i64 (i:Int)/\e.at 9 = .aH a9 0/\e.at 29 = .agg [.int .i64 B.L,sv,nv,lv, .int .i64 (bk:Int)]/\e.at 30 = .agg [.int .i64 (p.1:Int), .int .i64 (p.2:Int)]) ?_ ?_
  ·exact⟨rfl,ef,ef,ef,ef,ef,ef,ef,ef,ef,ef,ef,ef,ef⟩
  clear I N O P R X uE wB Q9 L6 T OD w Ze gM' H c;clear e;rintro e s' ⟨rfl,I,N,O,P,R,X,uE,wB,Q9,e8,e9,Zj,Q8⟩;refine cW ez (zJ Cb) wN (by simp only[List.map,lk,List.map,Zj,Q8];rfl) (λmv sD hmc=>⟨trivial,?_⟩);simp only[Env.au];have q7:=sD.sl.len;have OH:=sD.len;have tN:maxLen=9223372036854775807:=by decide
  have hmsl:=Cw cQ kG Cb;generalize rM:FB B ls p=ms at *;have zf:ps.getD i (0,0)=p:=by rw[gD,t];rfl
  have W2:sN B ls bk ps i=ms.map λm=>(idx ((cq B ls bk).after p (lP m)) ps 0).getD 0:=by simp only[sN,zf,rM]
  have OP:∀ (j:Nat) (m:Int × Bool),ms[j]? = some m->∃ u,idx ((cq B ls bk).after p (lP m)) ps 0=some u/\u<n:=λj m mP=>by
   have cJ:(cq B ls bk).after p (lP m)∈ps:=Tp t _ (by rw[succ_eq,rM];exact List.mem_map_of_mem (List.mem_of_getElem? mP));cases hx:idx ((cq B ls bk).after p (lP m)) ps 0 with
   | none=>exact absurd cJ (nD.1 hx)
   | some u=>
     have:=(nC hx).2;have:=(List.getElem?_eq_some_iff.1 this).1;exact⟨u,rfl,by omega⟩
  repeat' (first | refine gA @q7 ?_ | (refine gB @q7 ?_;rintro (_|_) c<;>try simp only[aG,reduceCtorEq]at c) | fail)
  refine aS (λm e s'=>∃ (j:Nat) (rv:List LV),m=ms.length - j/\j<=ms.length/\NR (f+1) s' f n (λx=>if x<i then sN B ls bk ps x else if x=i then (sN B ls bk ps i).take j else []) rv/\a9<s'.n/\(∀ id,id<f->s'.get id=C.get id)/\s'.get a9=some (.cells .mut [.int .i64 (p.1:Int), .int .i64 (p.2:Int)])/\(∀ x,x<n->¬ aP (rv.getD x .top) a9)/\e.at 2 = .aX [.int .i64 B.L,sv,nv,lv, .int .i64 (bk:Int)] 0/\e.at 3 = .aH s.n 0/\e.at 4 = .aH (s.n+1) 0/\e.at 5 = .aH (s.n+1+1) 0/\e.at 6 = .bool false/\e.at 7 = .aD f 0 n 1/\e.at 22=V/\e.at 23 = .int .i64 (n:Int)/\e.at 24 = .int .i64 (i:Int)/\e.at 8 = .int .i64 (i:Int)/\e.at 9 = .aH a9 0/\e.at 31=mv/\e.at 32 = .int .i64 (ms.length:Int)/\e.at 33 = .int .i64 (j:Int)) _
   ⟨0,rv,rfl,by omega,XG.congr (λx _=>by simp),by omega,D,J,Yy,ef,ef,ef,ef,ef,ef,ef,ef,ef,ef,ef,ef,ef,by simp only[lk,Nat.reduceEqDiff,if_false,if_true];rfl⟩ ?_
  clear XG J D Yy S8 I N O P R X uE wB Q9 e8 e9 Zj Q8;clear rv e s';rintro m e s3 ⟨j,rv,rfl,hj,w,Xy,D,J,Yy,I,N,O,P,R,X,uE,wB,Q9,e8,e9,X3,Mb,Ma⟩;by_cases GU:j<ms.length
  ·obtain⟨l,tO⟩:∃ l,ms[j]? = some l:=⟨_,gE GU⟩;have gL:ms.getD j (0,false)=l:=by rw[gD,tO];rfl
   have hjI:(j:Int)<(ms.length:Int):=by omega
   have T:=λs=>eW (s:=s) GU;rw[gL]at T;have jy:IntKind.i64.wrap ((j:Int)+1)=((j+1:Nat):Int):=by rw[wrap_i64 _ om om];rfl
   have OF:¬ f=s3.n:=by have:=w.lt;omega
   have OE:¬ a9=s3.n:=by omega
   have hnes:¬ s.n=s3.n:=by omega
   have GZ:=w.g;have q9:rv[i]? = some (rv.getD i .top):=by
    have:i<rv.length:=by rw[w.len];exact cM
    simp[gD,this]
   have Ze:s3.get s.n=some (.cells .mut [.aI M,V,bv]):=by rw[D _ om];exact g3
   repeat' (first | refine gA (And.intro (@cw _ _ _ sD.sl) (And.intro @T (And.intro @cG @q9))) ?_ | (refine gB (And.intro (@cw _ _ _ sD.sl) (And.intro @T (And.intro @cG @q9))) ?_;intro U c;cases U<;>(try simp only[aG]at c)) | fail)
   ·exfalso;omega
   obtain⟨u,wU,zc⟩:=OP j l tO;have Y:∀ id,id<s3.n->((s3.new (.cells .mut [.int .i64 0, .bool false])).put s3.n (.cells .mut [.int .i64 l.1, .bool l.2])).get id=s3.get id:=λid A=>by rw[St.ah,if_neg om,St.az,if_neg om]
   have O9:((s3.new (.cells .mut [.int .i64 0, .bool false])).put s3.n (.cells .mut [.int .i64 l.1, .bool l.2])).get s3.n=some (.cells .mut [.int .i64 l.1, .bool l.2]):=by rw[St.ah,if_pos rfl]
   have qv:((s3.new (.cells .mut [.int .i64 0, .bool false])).put s3.n (.cells .mut [.int .i64 l.1, .bool l.2])).n=s3.n+1:=rfl;have hlt3:=w.lt;generalize (s3.new (.cells .mut [.int .i64 0, .bool false])).put s3.n (.cells .mut [.int .i64 l.1, .bool l.2])=K at Y O9 qv ⊢;have h47:K.get f=some (.cells .mut rv):=by rw[Y _ hlt3];exact GZ
   have h4s:K.get s.n=some (.cells .mut [.aI M,V,bv]):=by rw[Y _ om];exact Ze
   have h4M:K.get M=some (.map (lN ps 0)):=by rw[Y _ om,D _ om,vM _ hM];exact hgM
   have h49:K.get a9=some (.cells .mut [.int .i64 (p.1:Int), .int .i64 (p.2:Int)]):=by rw[Y _ Xy];exact J
   have Vk:fu PK (.agg (bJ ((cq B ls bk).after p (l.1.toNat,l.2)))) (lN ps 0) 0=some (some (u, .int .i64 (u:Int))):=by
    rw[Ny];have:idx ((cq B ls bk).after p (l.1.toNat,l.2)) ps 0=some u:=wU;rw[this];rfl
   refine dR ez (haf Cb.1 l l.1.toNat (xR (ls:=ls) cQ kG Cb (by rw[rM];exact tO)).1) wN (by simp only[List.map,lk,Nat.reduceEqDiff,if_false,if_true,List.map];rfl) ⟨.inr ⟨rfl,by simp only[aR.run,lk,gW,Nat.reduceEqDiff,if_false,if_true,aT,Env.au,h47,q9]⟩, .inr ⟨rfl,by simp only[aR.run,lk,gW,Nat.reduceEqDiff,if_false,if_true,aT,Env.au,h4s]⟩,trivial⟩ ?_;simp only[Env.au];refine cX (v:=.int .i64 (u:Int)) (s':=K) wN (rZ (M:=M) (kv:=.agg (bJ ((cq B ls bk).after p (l.1.toNat,l.2)))) ef ef rfl h4M Vk) rfl trivial ?_;simp only[Env.au];have hlen:(sN B ls bk ps i).length=ms.length:=by rw[W2];simp
   have Vd:(sN B ls bk ps i)[j]? = some u:=by rw[W2,List.getElem?_map,tO,Option.map_some,wU];rfl
   have lT:((sN B ls bk ps i).take j).length=j:=by rw[List.length_take,hlen];omega
   have TA:=w.keep (s':=K) om Y;have UY:=TA.row i cM;simp only[Nat.lt_irrefl,if_false,if_true,lT]at UY;have h5:∀ id,id<K.n->(K.new (.cells .mut [.int .i64 (u:Int)])).get id=K.get id:=λid A=>by rw[St.az,if_neg om]
   have f47:(K.new (.cells .mut [.int .i64 (u:Int)])).get f=some (.cells .mut rv):=by rw[h5 _ om];exact h47
   have f4s:(K.new (.cells .mut [.int .i64 (u:Int)])).get s.n=some (.cells .mut [.aI M,V,bv]):=by rw[h5 _ om];exact h4s
   have f4M:(K.new (.cells .mut [.int .i64 (u:Int)])).get M=some (.map (lN ps 0)):=by rw[h5 _ om];exact h4M
   have f49:(K.new (.cells .mut [.int .i64 (u:Int)])).get a9=some (.cells .mut [.int .i64 (p.1:Int), .int .i64 (p.2:Int)]):=by rw[h5 _ om];exact h49
   have f4b:(K.new (.cells .mut [.int .i64 (u:Int)])).get s3.n=some (.cells .mut [.int .i64 l.1, .bool l.2]):=by rw[h5 _ om];exact O9
   have vJ:∀ a b:LV,(if (0:Nat)+2<=[a,b].length then some (LV.agg ((List.drop 0 [a,b]).take 2)) else none)=some (.agg [a,b]):=λa b=>rfl;refine F6 (n:=j) (aU:=1) (xv:=.int .i64 (u:Int)) (yv:=rv.getD i .top) (vs:=[.int .i64 (u:Int)]) ef rfl rfl rfl rfl ef UY ⟨.inr ⟨rfl,by simp only[aR.run,lk,gW,Nat.reduceEqDiff,if_false,if_true,aT,f47,q9]⟩, .inr ⟨rfl,by simp only[aR.run,lk,gW,Nat.reduceEqDiff,if_false,if_true,aT,f4s]⟩, .inr ⟨rfl,by simp only[aR.run,lk,dJ,gW,Nat.reduceEqDiff,Nat.reduceAdd,if_false,if_true,aT,I]⟩, .inr ⟨rfl,by simp only[aR.run,lk,dJ,gW,Nat.reduceEqDiff,Nat.reduceAdd,if_false,if_true,aT,e9,f49]⟩, .inr ⟨rfl,by simp only[aR.run,lk,dJ,gW,Nat.reduceEqDiff,Nat.reduceAdd,if_false,if_true,aT,f4b]⟩, .inr ⟨rfl,rZ (M:=M) (kv:=.agg (bJ ((cq B ls bk).after p (l.1.toNat,l.2)))) ef ef rfl f4M Vk⟩,trivial⟩ (by decide) om (λs5 j5 a1 a2 a3 a4=>?_);have h57:s5.get f=some (.cells .mut rv):=by rw[a4 f om λz=>(TA.low i cM _ z).2 rfl];exact h47
   repeat' (first | refine gA @cG ?_ | (refine gB @cG ?_;rintro (_|_) c<;>try simp only[aG,reduceCtorEq]at c) | fail)
   refine iH (i:=f) (o:=i) (n:=1) (cs:=rv) (vs:=[.aD j5 0 (j+1) 1]) (cs':=rv.set i (.aD j5 0 (j+1) 1)) (v:=.aD j5 0 (j+1) 1) ef ef rfl h57 rfl (by rw[w.len];omega) rfl ?_;repeat' (first | refine gA trivial ?_ | (refine gB trivial ?_;rintro (_|_) c<;>try simp only[aG,reduceCtorEq]at c) | fail)
   have mN:(sN B ls bk ps i).take (j+1)=(sN B ls bk ps i).take j++[u]:=qt Vd;have WQ:((sN B ls bk ps i).take (j+1)).length=j+1:=by rw[List.length_take,hlen];omega
   have hj5:j5<s5.n:=a2.lt (aC.2 rfl);have OA:=TA.put (s2:=s5) (s3:=s5.put f (.cells .mut (rv.set i (.aD j5 0 (j+1) 1)))) (i:=i) (j:=j5) (r:=(sN B ls bk ps i).take (j+1)) om om cM a1 (by rw[WQ,mN,kD];exact a2) a3 a4 rfl (by rw[WQ,St.ah,if_pos rfl]) (λid A=>by rw[St.ah,if_neg A]);rw[WQ]at OA;have hrvl:=w.len;refine⟨ms.length - (j+1),by omega,j+1,_,rfl,by omega,OA.congr (λx hx=>?_),by rw[St.dP];omega,λid A=>?_,?_,λx hx z=>?_,?_⟩
   ·by_cases h1:x=i
    ·subst h1;simp
    ·by_cases h2:x<i
     ·simp[h1,h2]
     ·simp[h1,h2]
   ·rw[St.ah,if_neg om,a4 id om λz=>by have:=(TA.low i cM _ z).1;omega,Y _ om];exact D id A
   ·have ha97:¬ a9=f:=λe=>by
     rw[e]at J;rw[GZ]at J;cases J;have Yv:=w.row i cM;have KW:([LV.int .i64 (p.1:Int), .int .i64 (p.2:Int)]:List LV).length=n:=w.len;have AX:i=0∨i=1:=by
      have:(2:Nat)=n:=KW;omega
     rcases AX with rfl | rfl
     ·obtain⟨_,⟨h,_⟩ | ⟨_,h,_⟩⟩:=Yv<;>cases h
     ·obtain⟨_,⟨h,_⟩ | ⟨_,h,_⟩⟩:=Yv<;>cases h
    rw[St.ah,if_neg ha97,a4 a9 om (Yy i cM)];exact h49
   ·rw[EG om]at z;by_cases h1:x=i
    ·rw[if_pos h1]at z;have:=aC.1 z;omega
    ·rw[if_neg h1]at z;exact Yy x hx z
   ·simp only[lk,Nat.reduceEqDiff,if_false,if_true,jy,I,N,O,P,R,X,e8,e9,uE,wB,Q9,X3,Mb,and_self]
  ·have gY:j=ms.length:=by omega
   subst gY;repeat' (first | refine gA trivial ?_ | (refine gB trivial ?_;intro U c;cases U<;>(try simp only[aG]at c)) | fail)
   ·refine⟨n - (i+1),by omega,i+1,rv,rfl,by omega,w.congr (λx hx=>?_),by have:=w.lt;omega,D,?_⟩
    ·by_cases h1:x<i
     ·rw[if_pos om,if_pos h1]
     ·by_cases h2:x=i
      ·subst h2;rw[if_pos om,if_neg h1,if_pos rfl,List.take_of_length_le (by rw[W2];simp)]
      ·rw[if_neg om,if_neg h1,if_neg h2]
    ·simp only[lk,Nat.reduceEqDiff,if_false,if_true,hw,I,N,O,P,R,X,uE,wB,and_self]
   ·exfalso;omega
 · -- all rows are there
  have dc:i=n:=by omega
  subst dc;obtain⟨rows,IU⟩:∃ rows,rows=(List.range i).map (sN B ls bk ps):=⟨_,rfl⟩;have fN:rows.length=i:=by rw[IU];simp
  have hrg:∀ x,x<i->rows.getD x []=sN B ls bk ps x:=λx hx=>by rw[IU];simp[gD,hx]
  have W4:∀ x,x<i->(sN B ls bk ps x).length<=6000/\∀ y∈sN B ls bk ps x,y<i:=λx hx=>by
   obtain⟨p,t⟩:∃ p,ps[x]? = some p:=⟨_,gE om⟩;have zf:ps.getD x (0,0)=p:=by rw[gD,t];rfl
   refine⟨by simp only[sN,List.length_map,zf];exact Cw cQ kG (OB t),λy hy=>?_⟩;simp only[sN,zf]at hy;obtain⟨m,mP,rfl⟩:=List.mem_map.1 hy;have cJ:(cq B ls bk).after p (lP m)∈ps:=Tp t _ (by rw[succ_eq];exact List.mem_map_of_mem mP);cases hx:idx ((cq B ls bk).after p (lP m)) ps 0 with
   | none=>exact absurd cJ (nD.1 hx)
   | some u=>
     have:=(nC hx).2;have:=(List.getElem?_eq_some_iff.1 this).1;simp only[Option.getD_some];omega
  repeat' (first | refine gA trivial ?_ | (refine gB trivial ?_;intro U c;cases U<;>(try simp only[aG]at c)) | fail)
  rotate_left
  ·exfalso;omega
  obtain⟨Z,s3,OW,hIs,GZ,nG,Ov⟩:=TH (rv:=rv) (rows:=rows) w.g (by rw[w.len,fN]) om (λx hx=>by
   rw[fN]at hx;rw[hrg x hx];refine⟨?_,by have:=(W4 x hx).1;omega,λy hy=>by have:=(W4 x hx).2 y hy;omega⟩;have h0:=w.row x hx;simp only[hx,if_true]at h0;obtain⟨_,⟨h1,h2⟩ | ⟨j,h1,_,_,h2⟩⟩:=h0
   ·exact .inl ⟨h1,List.length_eq_zero_iff.1 h2⟩
   ·exact .inr ⟨j, .mut,h1,h2⟩) (λx y hx hy dH id z=>w.dj x y om om dH id z)
  rw[fN]at OW hIs Ov;have hrz:∀ x,x<i->(rows.map fk).getD x []=fk (sN B ls bk ps x):=λx hx=>by
   rw[<- hrg x hx];have:x<rows.length:=by omega
   simp[gD,this]
  have mO:=Nz hIs (by simp;omega) (λx hx k hk=>by
   have IP:x<i:=by simpa[fN] using hx
   rw[hrz x IP]at hk ⊢;have lU:k<(sN B ls bk ps x).length:=by simpa using hk
   have:(fk (sN B ls bk ps x)).getD k 0=((sN B ls bk ps x).getD k 0:Int):=by simp[fk,gD,lU]
   rw[this];have cm:=(W4 x IP).2 _ (bE (d:=0) lU);simp only[List.length_map,fN];omega)
  refine bH wN rfl (by simp only[List.map,lk,Nat.reduceEqDiff,if_false,if_true,List.map]) (nM OW (lZ ez mO λr hr rL=>⟨trivial,?_⟩));simp only[Env.au];obtain⟨pt,uy,W0⟩:=hr;simp only[List.length_map,fN]at uy W0;have nF:∀ x,x<i->AB (rows.map fk) x=sN B ls bk ps x:=λx hx=>by
   simp only[AB,hrz x hx,fk,List.map_map];exact List.map_id'' (λ_=>rfl) _
  have hwalk:∀ (x:Nat) (q:Pl),ps[x]? = some q->(AB (rows.map fk) x).map (λj=>ps[j]?)=((cq B ls bk).succ q).map some:=λx q hq=>by
   have hx:x<i:=by have:=(List.getElem?_eq_some_iff.1 hq).1;omega
   have YR:ps.getD x (0,0)=q:=by rw[gD,hq];rfl
   rw[nF x hx,succ_eq];simp only[sN,YR,List.map_map];refine List.map_congr_left λm mP=>?_;have cJ:(cq B ls bk).after q (lP m)∈ps:=Tp hq _ (by rw[succ_eq];exact List.mem_map_of_mem mP);simp only[Function.comp];cases AX:idx ((cq B ls bk).after q (lP m)) ps 0 with
   | none=>exact absurd cJ (nD.1 AX)
   | some u=>
     have:=(nC AX).2;simpa using this
  have hhit:∀ (x k:Nat) (q:Pl) (m:Int × Bool),ps[x]? = some q->(FB B ls q)[k]? = some m->∃ u,(sN B ls bk ps x)[k]? = some u/\u<i/\(pt u=pt x↔∃ a,jR (cq B ls bk).E a ((cq B ls bk).after q (lP m)) q):=λx k q m hq hk=>by
   have hx:x<i:=by have:=(List.getElem?_eq_some_iff.1 hq).1;omega
   have YR:ps.getD x (0,0)=q:=by rw[gD,hq];rfl
   have cJ:(cq B ls bk).after q (lP m)∈ps:=Tp hq _ (by rw[succ_eq];exact List.mem_map_of_mem (List.mem_of_getElem? hk));cases AX:idx ((cq B ls bk).after q (lP m)) ps 0 with
   | none=>exact absurd cJ (nD.1 AX)
   | some u=>
     have z:=(nC AX).2;rw[Nat.sub_zero]at z;have hui:u<i:=by have:=(List.getElem?_eq_some_iff.1 z).1;omega
     have hnu:(sN B ls bk ps x)[k]? = some u:=by
      simp only[sN,YR,List.getElem?_map,hk,Option.map_some,AX,Option.getD_some]
     refine⟨u,hnu,hui,?_⟩;rw[W0 u x hui hx,RH gK hwalk z hq];exact⟨λh=>h.1,λh=>⟨h, .one (by rw[nF x hx];exact List.mem_of_getElem? hnu)⟩⟩
  have D:∀ id,id<f->s3.get id=C.get id:=λid A=>by
   rw[Ov id om λx hx z=>by have:=(w.low x hx _ z).1;omega];exact H id A
  have hj3:f<s3.n:=by rw[nG];exact w.lt
  have g3'':s3.get s.n=some (.cells .mut [.aI M,V,bv]):=by rw[D _ om];exact g3
  repeat' (first | refine gA @lG ?_ | (refine gB @lG ?_;rintro (_|_) c<;>try simp only[aG,reduceCtorEq]at c) | fail)
  refine aS (λm e s'=>∃ x:Nat,m=i - x/\x<=i/\(∀ (i' F:Nat) (x':Pl) (G:Int × Bool),i'<x->ps[i']? = some x'->(FB B ls x')[F]? = some G->¬ Ye (cq B ls bk) x' G)/\f<s'.n/\s'.get f=some (.cells .app Z)/\(∀ id,id<f->s'.get id=C.get id)/\e.at 2 = .aX [.int .i64 B.L,sv,nv,lv, .int .i64 (bk:Int)] 0/\e.at 3 = .aH s.n 0/\e.at 4 = .aH (s.n+1) 0/\e.at 5 = .aH (s.n+1+1) 0/\e.at 6 = .bool false/\e.at 7 = .aD f 0 i 1/\e.at 12=r/\e.at 58=V/\e.at 59 = .int .i64 (i:Int)/\e.at 60 = .int .i64 (x:Int)) _
   ⟨0,rfl,by omega,λi' F x' G h=>absurd h (Nat.not_lt_zero _),hj3,GZ,D,ef,ef,ef,ef,ef,ef,ef,ef,ef,by simp only[lk,Nat.reduceEqDiff,if_false,if_true];rfl⟩ ?_
  clear w H Ze gM' GZ nG Ov D hj3 g3'' OW I N O P R X uE wB Q9;clear cM c QO;clear s3 s2 e rv;rintro m e s2 ⟨x,rfl,hx,tM,QO,GZ,H,I,N,O,P,R,X,vV,e58,e59,e60⟩;have hne12:¬ s.n+1+1=s.n+1:=by omega
  have g4':s2.get (s.n+1)=some (.cells .mut [.int .i64 0, .int .i64 0]):=by rw[H _ om];exact g4
  have g5':s2.get (s.n+1+1)=some (.cells .mut [.int .i64 0, .int .i64 0]):=by rw[H _ om];exact g5
  by_cases Ej:x<i
  ·obtain⟨p,t⟩:∃ p,ps[x]? = some p:=⟨_,gE om⟩;have Cb:=OB t;obtain⟨pid,CS,wm,WZ⟩:=hspx.pos om;have OD:s2.get pid=some (.cells .mut (dm ps)):=by rw[H _ om,vM _ wm];exact WZ
   have hxI:(x:Int)<(i:Int):=by omega
   have L6:mM 2 V (.int .i64 (x:Int)) s2=some (.aH pid (x*2),s2):=by
    rw[CS,cG hxI,Nat.zero_add]
   have T:=sB t OD;have hw:IntKind.i64.wrap ((x:Int)+1)=((x+1:Nat):Int):=by rw[wrap_i64 _ om om];rfl
   clear CS;repeat' (first | refine gA (And.intro @L6 @T) ?_ | (refine gB (And.intro @L6 @T) ?_;intro U c;cases U<;>(try simp only[aG]at c)) | fail)
   ·exfalso;omega
   have Ov:∀ id,id<s2.n->((s2.new (.cells .mut [.int .i64 0, .int .i64 0])).put s2.n (.cells .mut [.int .i64 (p.1:Int), .int .i64 (p.2:Int)])).get id=s2.get id:=λid A=>by rw[St.ah,if_neg om,St.az,if_neg om]
   have J:((s2.new (.cells .mut [.int .i64 0, .int .i64 0])).put s2.n (.cells .mut [.int .i64 (p.1:Int), .int .i64 (p.2:Int)])).get s2.n=some (.cells .mut [.int .i64 (p.1:Int), .int .i64 (p.2:Int)]):=by rw[St.ah,if_pos rfl]
   have S8:((s2.new (.cells .mut [.int .i64 0, .int .i64 0])).put s2.n (.cells .mut [.int .i64 (p.1:Int), .int .i64 (p.2:Int)])).n=s2.n+1:=rfl;generalize (s2.new (.cells .mut [.int .i64 0, .int .i64 0])).put s2.n (.cells .mut [.int .i64 (p.1:Int), .int .i64 (p.2:Int)])=s3 at Ov J S8 ⊢;obtain⟨a9,hae⟩:∃ a9,s2.n=a9:=⟨_,rfl⟩;have hg73:s3.get f=some (.cells .app Z):=by rw[Ov _ QO];exact GZ
   have D:∀ id,id<f->s3.get id=C.get id:=λid A=>by rw[Ov _ om];exact H id A
   rw[hae]at J S8 QO;refine cW ez (zJ Cb) wN (by simp only[List.map,lk,Nat.reduceEqDiff,if_false,if_true,List.map];rfl) (λmv sD hmc=>⟨trivial,?_⟩);simp only[Env.au];have q7:=sD.sl.len;have hmsl:=Cw cQ kG Cb;generalize rM:FB B ls p=ms at *;repeat' (first | refine gA @q7 ?_ | (refine gB @q7 ?_;rintro (_|_) c<;>try simp only[aG,reduceCtorEq]at c) | fail)
   refine aS (λm e s'=>∃ k:Nat,m=ms.length - k/\k<=ms.length/\(∀ F G,F<k->ms[F]? = some G->¬ Ye (cq B ls bk) p G)/\a9<s'.n/\s'.get f=some (.cells .app Z)/\(∀ id,id<f->s'.get id=C.get id)/\s'.get a9=some (.cells .mut [.int .i64 (p.1:Int), .int .i64 (p.2:Int)])/\e.at 2 = .aX [.int .i64 B.L,sv,nv,lv, .int .i64 (bk:Int)] 0/\e.at 3 = .aH s.n 0/\e.at 4 = .aH (s.n+1) 0/\e.at 5 = .aH (s.n+1+1) 0/\e.at 6 = .bool false/\e.at 7 = .aD f 0 i 1/\e.at 12=r/\e.at 58=V/\e.at 59 = .int .i64 (i:Int)/\e.at 60 = .int .i64 (x:Int)/\e.at 13 = .int .i64 (x:Int)/\e.at 14 = .aH a9 0/\e.at 67=mv/\e.at 68 = .int .i64 (ms.length:Int)/\e.at 69 = .int .i64 (k:Int)) _
    ⟨0,rfl,by omega,λF G h=>absurd h (Nat.not_lt_zero _),by omega,hg73,D,J,ef,ef,ef,ef,ef,ef,ef,ef,ef,ef,ef,ef,ef,ef,by simp only[lk,Nat.reduceEqDiff,if_false,if_true];rfl⟩ ?_
   clear Ov J S8 hg73 D hae GZ H L6 T OD g4' g5' c I N O P R X vV e58 e59 e60;clear s3 e s2;rintro m e s3 ⟨k,rfl,hk,S6,Xy,GZ,D,J,I,N,O,P,R,X,vV,e58,e59,e60,Lm,TV,Vz,XZ,e69⟩;have g4':s3.get (s.n+1)=some (.cells .mut [.int .i64 0, .int .i64 0]):=by rw[D _ om];exact g4
   have g5':s3.get (s.n+1+1)=some (.cells .mut [.int .i64 0, .int .i64 0]):=by rw[D _ om];exact g5
   by_cases fB:k<ms.length
   ·obtain⟨l,tO⟩:∃ l,ms[k]? = some l:=⟨_,gE fB⟩;have gL:ms.getD k (0,false)=l:=by rw[gD,tO];rfl
    have uB:(k:Int)<(ms.length:Int):=by omega
    have T:=λs=>eW (s:=s) fB;rw[gL]at T;have jy:IntKind.i64.wrap ((k:Int)+1)=((k+1:Nat):Int):=by rw[wrap_i64 _ om om];rfl
    obtain⟨u,wU,zc,hu3⟩:=hhit x k p l t (by rw[rM];exact tO);have OF:¬ f=s3.n:=by omega
    have OE:¬ a9=s3.n:=by omega
    have qv:¬ s.n+1=s3.n:=by omega
    have Fo:¬ s.n+1+1=s3.n:=by omega
    have bV:=hIs.row x (by rw[List.length_map,fN];exact Ej);rw[hrz x Ej]at bV;have hgv:Z[x]? = some (Z.getD x .top):=hIs.tV (by rw[List.length_map,fN];omega);have Xd:k<(sN B ls bk ps x).length:=(List.getElem?_eq_some_iff.1 wU).1;have hiar:∀ s,mM 1 (Z.getD x .top) (.int .i64 (k:Int)) s=some (.aX (ints (fk (sN B ls bk ps x))) k,s):=λs=>by
     have:=cw (aU:=1) (k:=.i64) (s:=s) bV.sl (i:=k) (by simp;omega);simpa using this
    have Vd:(ints (fk (sN B ls bk ps x)))[k]? = some (.int .i64 (u:Int)):=by
     rw[zY Xd,gD,wU];rfl
    have hia1:∀ s,mM 1 r (.int .i64 (u:Int)) s=some (.aX (ints ((List.range i).map λy=>(pt y:Int))) u,s):=λs=>by
     have:=cw (aU:=1) (k:=.i64) (s:=s) uy.sl (i:=u) (by simp;omega);simpa using this
    have hia2:∀ s,mM 1 r (.int .i64 (x:Int)) s=some (.aX (ints ((List.range i).map λy=>(pt y:Int))) x,s):=λs=>by
     have:=cw (aU:=1) (k:=.i64) (s:=s) uy.sl (i:=x) (by simp;omega);simpa using this
    have hgt1:(ints ((List.range i).map λy=>(pt y:Int)))[u]? = some (.int .i64 (pt u:Int)):=by simp[ints,zc]
    have OR:(ints ((List.range i).map λy=>(pt y:Int)))[x]? = some (.int .i64 (pt x:Int)):=by simp[ints,Ej]
    obtain⟨mq,mg⟩:=l;have oM:¬ Ye (cq B ls bk) p (mq,mg)->∀ F G,F<k+1->ms[F]? = some G->¬ Ye (cq B ls bk) p G:=λhh F G h1 h2=>by
     by_cases h:F<k
     ·exact S6 F G h h2
     ·obtain rfl:F=k:=by omega
      rw[tO]at h2;cases h2;exact hh
    cases mg with
    | false=>
      repeat' (first | refine gA (And.intro (@cw _ _ _ sD.sl) @T) ?_ | (refine gB (And.intro (@cw _ _ _ sD.sl) @T) ?_;intro U c;cases U<;>(try simp only[aG]at c)) | fail)
      ·exfalso;omega
      refine⟨ms.length - (k+1),by omega,k+1,rfl,by omega,oM (λh=>by cases h.1),by simp only[St.dP,St.dZ];omega,by rw[St.ah,if_neg OF,St.az,if_neg OF];exact GZ,λid A=>by rw[St.ah,if_neg om,St.az,if_neg om];exact D id A,by rw[St.ah,if_neg OE,St.az,if_neg OE];exact J,?_⟩;simp only[lk,Nat.reduceEqDiff,if_false,if_true,jy,I,N,O,P,R,X,vV,e58,e59,e60,Lm,TV,Vz,XZ,and_self]
    | true=>
      repeat' (first | refine gA (And.intro (@cw _ _ _ sD.sl) (And.intro @T (And.intro @cG (And.intro @hgv (And.intro @hiar (And.intro @Vd (And.intro @hia1 (And.intro @hgt1 (And.intro @hia2 @OR))))))))) ?_ | (refine gB (And.intro (@cw _ _ _ sD.sl) (And.intro @T (And.intro @cG (And.intro @hgv (And.intro @hiar (And.intro @Vd (And.intro @hia1 (And.intro @hgt1 (And.intro @hia2 @OR))))))))) ?_;intro U c;cases U<;>(try simp only[aG]at c)) | fail)
      ·exfalso;omega
      ·refine⟨ms.length - (k+1),by omega,k+1,rfl,by omega,oM (λh=>c (by rw[hu3.2 h.2])),by simp only[St.dP,St.dZ];omega,by rw[St.ah,if_neg OF,St.az,if_neg OF];exact GZ,λid A=>by rw[St.ah,if_neg om,St.az,if_neg om];exact D id A,by rw[St.ah,if_neg OE,St.az,if_neg OE];exact J,?_⟩;simp only[lk,Nat.reduceEqDiff,if_false,if_true,jy,I,N,O,P,R,X,vV,e58,e59,e60,Lm,TV,Vz,XZ,and_self]
      ·have hpe':pt u=pt x:=by omega
       have Y:∀ id,id<s3.n->((s3.new (.cells .mut [.int .i64 0, .bool false])).put s3.n (.cells .mut [.int .i64 mq, .bool true])).get id=s3.get id:=λid A=>by rw[St.ah,if_neg om,St.az,if_neg om]
       have hn4':((s3.new (.cells .mut [.int .i64 0, .bool false])).put s3.n (.cells .mut [.int .i64 mq, .bool true])).n=s3.n+1:=rfl;generalize (s3.new (.cells .mut [.int .i64 0, .bool false])).put s3.n (.cells .mut [.int .i64 mq, .bool true])=K at Y hn4' ⊢;have f9:K.get a9=some (.cells .mut [.int .i64 (p.1:Int), .int .i64 (p.2:Int)]):=by rw[Y _ Xy];exact J
       have f4:K.get (s.n+1)=some (.cells .mut [.int .i64 0, .int .i64 0]):=by rw[Y _ om];exact g4'
       have f5:K.get (s.n+1+1)=some (.cells .mut [.int .i64 0, .int .i64 0]):=by rw[Y _ om];exact g5'
       refine dR ez (haf Cb.1 (mq,true) mq.toNat (xR (ls:=ls) cQ kG Cb (by rw[rM];exact tO)).1) wN (by simp only[List.map,lk,Nat.reduceEqDiff,if_false,if_true,List.map];rfl) ⟨.inr ⟨rfl,by simp only[aR.run,lk,dJ,gW,Nat.reduceEqDiff,Nat.reduceAdd,if_false,if_true,aT,Env.au,TV,f9]⟩,trivial⟩ ?_;simp only[Env.au];refine iH (i:=s.n+1) (o:=0) (n:=2) (cs:=[.int .i64 0, .int .i64 0]) (vs:=bJ p) (cs':=bJ p) (v:=.agg (bJ p)) ef (by simp only[lk,Nat.reduceEqDiff,if_false,if_true];rfl) rfl f4 rfl (by simp) rfl ?_;refine iH (i:=s.n+1+1) (o:=0) (n:=2) (cs:=[.int .i64 0, .int .i64 0]) (vs:=bJ ((cq B ls bk).after p (mq.toNat,true))) (cs':=bJ ((cq B ls bk).after p (mq.toNat,true))) (v:=.agg (bJ ((cq B ls bk).after p (mq.toNat,true)))) ef ef rfl (by rw[St.ah,if_neg om];exact f5) rfl (by simp) rfl ?_;repeat' (first | refine gA trivial ?_ | (refine gB trivial ?_;rintro (_|_) c<;>try simp only[aG,reduceCtorEq]at c) | fail)
       refine⟨.inr trivial,p,(cq B ls bk).after p (mq.toNat,true),true,ef,ef,ef,by rw[St.ah,if_neg om,St.ah,if_pos rfl],by rw[St.ah,if_pos rfl], .inl ⟨rfl,x,k,(mq,true),t,by rw[rM];exact tO,⟨rfl,hu3.1 hpe'⟩,rfl,λi' F x' G h1 h2 h3=>?_⟩,by simp only[St.dP];omega,λid A=>?_⟩
       ·rcases h1 with h1 | ⟨rfl,h1⟩
        ·exact tM i' F x' G h1 h2 h3
        ·rw[t]at h2;cases h2;rw[rM]at h3;exact S6 F G h1 h3
       ·rw[St.ah,if_neg om,St.ah,if_neg om,Y _ om,D _ om];exact vM id A
   ·have lU:k=ms.length:=by omega
    subst lU;repeat' (first | refine gA trivial ?_ | (refine gB trivial ?_;intro U c;cases U<;>(try simp only[aG]at c)) | fail)
    ·refine⟨i - (x+1),by omega,x+1,rfl,by omega,λi' F x' G h1 h2 h3=>?_,by omega,GZ,D,?_⟩
     ·by_cases h:i'<x
      ·exact tM i' F x' G h h2 h3
      ·obtain rfl:i'=x:=by omega
       rw[t]at h2;cases h2;rw[rM]at h3;exact S6 F G (List.getElem?_eq_some_iff.1 h3).1 h3
     ·simp only[lk,Nat.reduceEqDiff,if_false,if_true,hw,I,N,O,P,R,X,vV,e58,e59,and_self]
    ·exfalso;omega
  ·have IP:x=i:=by omega
   subst IP;repeat' (first | refine gA trivial ?_ | (refine gB trivial ?_;intro U c;cases U<;>(try simp only[aG]at c)) | fail)
   ·refine eN (v:=.agg [.int .i64 0, .int .i64 0]) (s':=s2) (by simp only[aR.run,bB,List.map,aW];rfl) ?_;refine eN (v:=.agg [.int .i64 0, .int .i64 0]) (s':=s2) (by simp only[aR.run,bB,List.map,aW];rfl) ?_;repeat' (first | refine gA trivial ?_ | (refine gB trivial ?_;rintro (_|_) c<;>try simp only[aG,reduceCtorEq]at c) | fail)
    refine⟨.inr trivial,(0,0),(0,0),false,ef,ef,ef,?_,?_, .inr ⟨rfl,rfl,rfl,λi' F x' G h1 h2=>tM i' F x' G (by have:=(List.getElem?_eq_some_iff.1 h1).1;omega) h1 h2⟩,by simp only[St.dP];omega,λid A=>?_⟩
    ·simp only[St.ah];rw[if_neg om,if_pos trivial];rfl
    ·simp only[St.ah];rw[if_pos trivial];rfl
    ·simp only[St.ah];rw[if_neg om,if_neg om,H _ om];exact vM id A
   ·exfalso;omega
def Jz (B:Bu) (ls:List Nat) (bk:Nat) (from_:List Pl):Ac Pl:=run (cq B ls bk).succ (ls.length*B.next.length+1) 0 (gJ [] from_ (-1))
theorem HU {B:Bu}{ls:List Nat}{bk:Nat}(b:Vb B) (c:bk<ls.length) (d:∀ i,i<ls.length->(ls.getD i 0:Int)<B.L) {from_:List Pl}(e:∀ p∈from_,Bm B ls p) :
 Bn.Ok (cq B ls bk).succ from_ (Bm B ls) (Jz B ls bk from_)/\Cl (cq B ls bk).succ (Jz B ls bk from_) (Jz B ls bk from_).length/\∀ p∈from_,p∈(Jz B ls bk from_).map (·.1) :=
 VX (N:=ls.length*B.next.length) (λp a=>D9 b c d a) (λl h1 h2=>B6 h1 h2) _ 0 _ (Ok.first e) (λi x f=>absurd f (Nat.not_lt_zero i)) (λp a=>Fc a) om
def G8 (B:Bu):List Pl:=B.start.map λq=>(0,q.toNat)
theorem uG {B:Bu}(b:Vb B) {z:Int}(c:z∈B.start):(z.toNat:Int)=z/\z.toNat<B.next.length:=by
 obtain⟨i,a⟩:=List.mem_iff_getElem?.1 c;obtain⟨h1,h2⟩:=List.getElem?_eq_some_iff.1 a;have:=b.2.2.2.1 i h1;have d:B.start.getD i 0=z:=by rw[gD,a];rfl
 rw[d]at this;omega
theorem u6 {B:Bu}{ls:List Nat}(a:Vb B) (b:0<ls.length):∀ p∈G8 B,Bm B ls p:=by
 intro p c;obtain⟨z,d,rfl⟩:=List.mem_map.1 c;exact⟨b,(uG a d).2⟩
theorem AN (B:Bu) (ls:List Nat) (bk:Nat) (x:Pl):(cq B ls bk).rG x=(FB B ls x).map lP:=by
 simp only[Tk.rG,cq,Zk,FB];rfl
theorem X9 {B:Bu}(e:Vb B) (q a:Nat) (f:q<B.next.length):∀ m∈Zk B q a,m.1<B.next.length:=by
 intro m hm;simp only[Zk]at hm;obtain⟨c,g,rfl⟩:=List.mem_map.1 hm;have h:=e.2.2.2.2 q f;obtain⟨k,d⟩:=List.mem_iff_getElem?.1 g;obtain⟨b,l⟩:=List.getElem?_eq_some_iff.1 d;have i:a<(B.next.getD q []).length:=by
  apply Classical.byContradiction;intro n;have:(B.next.getD q []).getD a []=[]:=by rw[gD,List.getElem?_eq_none om];rfl
  rw[this]at b;exact absurd b (Nat.not_lt_zero k)
 have:=h.2 a i k b;have j:((B.next.getD q []).getD a []).getD k (0,false)=c:=by
  rw[gD,d];rfl
 rw[j]at this;show c.1.toNat<_;omega
def Yh (B:Bu) (w:Nat->Nat):Prop:=Acc (λq=>(q:Int)∈B.start) (Zk B) w
theorem FH {B:Bu}{ls:List Nat}{bk:Nat}(d:Vb B) (n:0<ls.length) (o:bk<ls.length) (v:∀ i,i<ls.length->(ls.getD i 0:Int)<B.L) {x y:Pl}{ok:Bool}(p:CB B ls bk ((Jz B ls bk (G8 B)).map (·.1)) x y ok):ok=true↔Yh B (cq B ls bk).word:=by
 obtain⟨h1,h2,h3⟩:=HU d o v (u6 d n);have r:=Lh h1 h2 h3;have w:=T5 (k:=cq B ls bk) (start:=λq=>(q:Int)∈B.start) (S:=B.next.length) n o (λq c=>by have:=(uG d c).2;simpa using this) (λq a c=>X9 d q a c);refine Iff.trans ?_ w.symm;constructor
 ·intro s;rcases p with⟨_,i,k,m,e,f,A,G,_⟩ | ⟨h,_⟩
  ·obtain⟨g,b,j⟩:=A;obtain⟨q,c,a,l⟩:=(r x).1 (List.mem_of_getElem? e);obtain⟨z,t,rfl⟩:=List.mem_map.1 c;exact⟨z.toNat,a,x,lP m,b,by show ((z.toNat:Nat):Int)∈B.start;rw[(uG d t).1];exact t,l,by rw[AN];exact List.mem_map_of_mem (List.mem_of_getElem? f),g,j⟩
  ·rw[h]at s;cases s
 ·rintro⟨q,a,u,m,b,c,l,hm,g,j⟩;rcases p with⟨h,_⟩ | ⟨_,_,_,C⟩
  ·exact h
  ·exfalso;have D:=(r u).2 ⟨(0,q),List.mem_map.2 ⟨(q:Int),c,by simp⟩,a,l⟩;obtain⟨i,e⟩:=List.mem_iff_getElem?.1 D;rw[AN]at hm;obtain⟨E,F,rfl⟩:=List.mem_map.1 hm;obtain⟨k,f⟩:=List.mem_iff_getElem?.1 F;exact C i k u E e f ⟨g,b,j⟩
end Go.Proofs.Ytkbiecjdcjfhaaa
end
