/- The document numbers the states as the program does: by trees and records themselves. -/
import Derived.Test.YtkbiecjdcjfhaaaGreatPbd
import Derived.Test.YtkbiecjdcjfhaaaGreatRt
import Derived.Test.YtkbiecjdcjfhaaaGreatRn
import Derived.Test.YtkbiecjdcjfhaaaGreatRa
set_option linter.unusedSimpArgs false
set_option linter.unusedVariables false
set_option maxRecDepth 100000
set_option maxHeartbeats 16000000
section
namespace Go.Proofs.YtkbiecjdcjfhaaaGreat
open Go Go.Pv Go.pR
open Classical
abbrev Zs:=List (List Nd × List Int)
def DF (a:List (List Nd)) (x:Nat × List Int):List Nd × List Int:=(a.getD x.1 [],x.2)
noncomputable def zB (B:Bu) (i x:Nat):Zs:=(oo B (cL B (i+1)).1 (jV B i i) (pL B i i) (cL B i).2 x).map (DF (cL B (i+1)).1)
noncomputable def A2 (Z:Zs) (z:List Nd × List Int):Zs:=if Z.findIdx (λy=>decide (y=z))<Z.length then Z else Z++[z]
section
variable {B:Bu}
theorem Jh {α:Type}{key:α->List UInt8}{l:List α}{x:α}(h:l.Nodup):(gY key l x).Nodup:=by
 unfold gY;split
 ·exact h
 ·rename_i c;refine List.nodup_append.2 ⟨h,by simp,λa d b f e=>c ?_⟩;rw[List.mem_singleton.1 f]at e;subst e;exact List.findIdx_lt_length_of_exists ⟨a,d,by simp⟩
theorem Cf {a:List (List Nd)}{t:List Nd}(h:a.Nodup):∀ n,(jh B a t n).Nodup
 | 0=>h
 | n+1=>Jh (Cf h n)
theorem D8:∀ n,(cL B n).1.Nodup
 | 0=>by show ([xj B]).Nodup;simp
 | n+1=>Cf (D8 n) _
theorem getD_inj {α:Type}{l:List α}(h:l.Nodup) {i j:Nat}(a:i<l.length) (b:j<l.length) {d:α}(e:l.getD i d=l.getD j d):i=j:=by
 rw[gD,gD,gE a,gE b]at e;exact (List.getElem_inj h).1 e
theorem Jn (i:Nat):zB B i 0=(cL B i).2.map (DF (cL B (i+1)).1):=rfl
theorem XI (i:Nat):zB B i B.L.toNat=(cL B (i+1)).2.map (DF (cL B (i+1)).1):=rfl
theorem GZ (i x:Nat):(zB B i x).length=Bc B i x:=by
 unfold zB Bc;rw[List.length_map];rfl
theorem Pk (a:Vb B) (b:B.next.length<=10) {n:Nat}(c:∀ j,j<n->j<(cL B j).2.length):(cL B n).2.map (DF (cL B (n+1)).1)=(cL B n).2.map (DF (cL B n).1):=by
 obtain⟨⟨d,h1⟩,-⟩:=Cp B n 1;refine List.map_congr_left λx hx=>?_;have:=((sqI a b n c).st x hx).1;unfold DF;rw[h1,zw this]
theorem Te (a:Vb B) (b:B.next.length<=10) {i:Nat}(c:∀ j,j<i+1->j<(cL B j).2.length):zB B (i+1) 0=zB B i B.L.toNat:=by
 rw[Jn,XI,Pk a b c]
theorem xU:zB B 0 0=[(xj B,lN (2*B.next.length))]:=by
 rw[Jn];obtain⟨⟨a,h1⟩,-⟩:=Cp B 0 1;show [DF (cL B 1).1 (0,lN (2*B.next.length))]=_;unfold DF;rw[h1];rfl
theorem N5 (c:Vb B) (f:B.next.length<=10) {i:Nat}(b:∀ j,j<i+1->j<(cL B j).2.length):XD B.next.length (cL B (i+1)).1 (cL B i).2/\EP B (jV B i i)/\mL (pL B i i)/\(pL B i i).length=2*B.next.length:=by
 have a:=sqI c f i λj q=>b j om;have g:=b i om;obtain⟨h,k,m⟩:=a.st _ (Go.Pv.cn (d:=default) g);refine⟨λy n=>?_,a.tr _ (Go.Pv.cn h),k,m⟩;obtain⟨r,o,p⟩:=a.st y n;obtain⟨⟨t,h1⟩,-⟩:=Cp B i 1;exact⟨by rw[h1,List.length_append];omega,o,p⟩
theorem zB_at (f:Vb B) (g:B.next.length<=10) {i:Nat}(b:∀ j,j<i+1->j<(cL B j).2.length) {x:Nat} : i<(zB B i x).length/\(zB B i x).getD i default=(jV B i i,pL B i i):=by
 have h:=b i om;obtain⟨d,c⟩:=N6 B (cL B (i+1)).1 (jV B i i) (pL B i i) (cL B i).2 (Nat.zero_le x);have c:oo B (cL B (i+1)).1 (jV B i i) (pL B i i) (cL B i).2 x=(cL B i).2++d:=c;obtain⟨h1,-⟩:=N5 f g b;have a:i<((cL B i).2++d).length:=by rw[List.length_append];omega
 unfold zB;rw[c];refine⟨by rw[List.length_map];exact a,?_⟩;rw[Go.pR.getD_map a,zw h];obtain⟨⟨k,h2⟩,-⟩:=Cp B i 1;have hx:=((sqI f g i λj m=>b j om).st _ (Go.Pv.cn (d:=default) h)).1;unfold DF jV pL;rw[h2,zw hx]
theorem Td (b:Vb B) (f:B.next.length<=10) {i:Nat}(p:i<=1000) (q:∀ j,j<i+1->j<(cL B j).2.length) {x:Nat}(hx:x<B.L.toNat) :
 (zB B i x).findIdx (λy=>decide (y=(kz B (jV B i i) x,vA B (jV B i i) (pL B i i) x)))=nxC B i x/\zB B i (x+1)=A2 (zB B i x) (kz B (jV B i i) x,vA B (jV B i i) (pL B i i) x):=by
 obtain⟨h1,h2,h3,r⟩:=N5 b f q;have c:=sqI b f (i+1) q;have C:(cL B (i+1)).1.Nodup:=D8 (i+1);have t:XD B.next.length (cL B (i+1)).1 (oo B (cL B (i+1)).1 (jV B i i) (pL B i i) (cL B i).2 x):=G0 h1 h3 r λa N=>(xS B _ _ (show a<B.L.toNat by omega)).2;have D:=Oz b h2 x;have k:kA B (cL B (i+1)).1 (jV B i i) x<(cL B (i+1)).1.length:=(xS B _ _ hx).2;have m:(cL B (i+1)).1.getD (kA B (cL B (i+1)).1 (jV B i i) x) []=kz B (jV B i i) x:=by
  have h1:=Qp (d:=[]) k;exact Qb (Py f (c.tr _ (Go.Pv.cn k))) (Py f D.1) h1
 have u:=c.len;have E:∀ y∈oo B (cL B (i+1)).1 (jV B i i) (pL B i i) (cL B i).2 x,XB y:=λy g=>by
  obtain⟨O,F,Q⟩:=t y g;exact⟨by omega,λv b=>by have:=F.2.1 v b;omega⟩
 have n:XB (kA B (cL B (i+1)).1 (jV B i i) x,vA B (jV B i i) (pL B i i) x):=by
  have H:(vA B (jV B i i) (pL B i i) x).Perm (pL B i i):=lE _ _;exact⟨by show kA B _ _ _<_;omega,λv b=>by
   have:=h3.2.1 v (H.mem_iff.1 b);rw[r]at this;omega⟩
 have key:∀ y∈oo B (cL B (i+1)).1 (jV B i i) (pL B i i) (cL B i).2 x,(dr y=dr (kA B (cL B (i+1)).1 (jV B i i) x,vA B (jV B i i) (pL B i i) x))↔DF (cL B (i+1)).1 y=(kz B (jV B i i) x,vA B (jV B i i) (pL B i i) x):=λy g=>by
  constructor
  ·intro e;have:=Qa (E y g) n e;rw[this];unfold DF;rw[m]
  ·intro e;unfold DF at e;have o:=congrArg Prod.fst e;have w:=congrArg Prod.snd e;simp only at o w;rw[<- m]at o;have:=getD_inj C (t y g).1 k o;have:y=(kA B (cL B (i+1)).1 (jV B i i) x,vA B (jV B i i) (pL B i i) x):=Prod.ext this w;rw[this]
 have I:∀ l:Xs,(∀ y∈l,(dr y=dr (kA B (cL B (i+1)).1 (jV B i i) x,vA B (jV B i i) (pL B i i) x))↔DF (cL B (i+1)).1 y=(kz B (jV B i i) x,vA B (jV B i i) (pL B i i) x))->(l.map (DF (cL B (i+1)).1)).findIdx (λy=>decide (y=(kz B (jV B i i) x,vA B (jV B i i) (pL B i i) x)))=dw dr l (dr (kA B (cL B (i+1)).1 (jV B i i) x,vA B (jV B i i) (pL B i i) x)):=by
  intro l;induction l with
  | nil=>intro _;rfl
  | cons y l ih=>
    intro h;have h1:=ih λz J=>h z (List.mem_cons_of_mem _ J);have h2:=h y List.mem_cons_self;unfold dw at h1 ⊢;rw[List.map_cons,List.findIdx_cons,List.findIdx_cons,h1];have e:decide (DF (cL B (i+1)).1 y=(kz B (jV B i i) x,vA B (jV B i i) (pL B i i) x))=decide (dr y=dr (kA B (cL B (i+1)).1 (jV B i i) x,vA B (jV B i i) (pL B i i) x)):=by
     simp only[h2]
    rw[e]
 have A:=I _ key;have M:nxC B i x=dw dr (oo B (cL B (i+1)).1 (jV B i i) (pL B i i) (cL B i).2 x) (dr (kA B (cL B (i+1)).1 (jV B i i) x,vA B (jV B i i) (pL B i i) x)):=rfl;refine⟨A.trans M.symm,?_⟩;unfold A2;show (gY dr (oo B (cL B (i+1)).1 (jV B i i) (pL B i i) (cL B i).2 x) (kA B (cL B (i+1)).1 (jV B i i) x,vA B (jV B i i) (pL B i i) x)).map (DF (cL B (i+1)).1)=_;unfold zB;rw[A,List.length_map];unfold gY;split
 ·rfl
 ·rw[List.map_append];congr 1;show [DF (cL B (i+1)).1 (kA B (cL B (i+1)).1 (jV B i i) x,vA B (jV B i i) (pL B i i) x)]=_;unfold DF;rw[m]
theorem Pa (i x:Nat):prC B i x=nJ (marks (Ap B (jV B i i) x) (Aq B (jV B i i) x) (pL B i i).length) (pL B i i):=rfl
end
theorem nd_eq {a b:Nd}(h1:a.name=b.name) (h2:a.par=b.par) (h3:a.set=b.set):a=b:=by
 cases a;cases b;simp only at h1 h2 h3;subst h1 h2 h3;rfl
theorem OH {z x:LV}{a b:List Nd}{Q R:List (Int × Int × LV)}(f:jK z a Q) (g:jK x b R):PO 65 [z,x] (.bool (decide (a=b))):=by
 have r:=f.sl.len;have A:=g.sl.len;have C:=f.closed;have D:=g.closed;have mK:=f.lim;have E:=g.lim;have je:=lG;refine gO (t:=4) hm Tryz.func65 br c65 bw (by simp[LV.closed.au,C,D]) rfl rfl ?_;refine mH λe F H=>?_;unfold l65;dsimp only[jA,jB,jF,qM,qL,qF,qS,qI,qA,qB,qC,qK,qP,qT,qm,qR];by_cases dB:a.length=b.length
 ·have Z : (a.length : Int) = (b.length : Int) := by omega
  have v:ji x=some a.length:=by rw[A,dB]
  clear Z A;repeat' (first|refine aH (aj @r @v) ?_|(first|apply ah|apply af)<;>intro c)
  refine aN (λm e s=>s=St.empty/\∃ i:Nat,m=a.length - i/\i<=a.length/\Bx (∀ k,k<i->a.getD k default=b.getD k default)/\e.at 0=z/\e.at 1=x/\e.at 5 = .int .i64 (i:Int)) _
   ⟨rfl,0,rfl,by omega,⟨λk S=>absurd S (Nat.not_lt_zero _)⟩,ef,ef,by simp only[lk,Nat.reduceEqDiff,if_false,if_true];rfl⟩ ?_
  clear F H;clear e;rintro m e s ⟨hs,i,rfl,hi,heq,F,H,e5⟩;subst hs;have j:=Bx.mk dB;by_cases cy:i<a.length
  ·have iQ:(i:Int)<(a.length:Int):=by omega
   have T:(i:Int)<(b.length:Int):=by omega
   have U:=@bQ i om;obtain⟨o,w,I,J⟩:=gZ f.len f.nd cy;obtain⟨d,p,L,M⟩:=gZ g.len g.nd (show i<b.length by omega);have hint:=ye J M;have V:a.getD i default≠b.getD i default->Bx (decide (a=b)=false):=λh=>⟨decide_eq_false λe=>h (by rw[e])⟩;have X:(a.getD i default).name=(b.getD i default).name->(a.getD i default).par=(b.getD i default).par->(a.getD i default).set=(b.getD i default).set->Bx (∀ k,k<i+1->a.getD k default=b.getD k default):=λh1 h2 h3=>⟨λk S=>by
    by_cases h:k<i
    ·exact heq.out k h
    ·rw[show k=i by omega];exact nd_eq h1 h2 h3⟩
   generalize (Q.getD i default).2.2=xa at *;generalize (R.getD i default).2.2=xb at *;have N:=Bx.mk V;have O:=Bx.mk X;clear V X dB;by_cases u:(a.getD i default).name=(b.getD i default).name
   ·by_cases y:(a.getD i default).par=(b.getD i default).par
    ·rw[<- u]at d;rw[<- y]at p;have n:=Bx.mk (And.intro u y);clear u y;repeat' (first|refine aH (aj @r (aj (@cU _ _ _ f.sl) (aj (@cU _ _ _ g.sl) (aj @o (aj @w (aj @I (aj @d (aj @p @L)))))))) ?_|(first|apply ah|apply af)<;>intro c)
     refine cO ff (hint) (by first | exact wN | (apply wG;(simp only[lk,Nat.reduceEqDiff,reduceIte];(try rfl);done))) ef (λbb c=>⟨by first | trivial | (simp only[dG,aK,bq.run,Env.aB,Env.cp,u6,Nat.reduceEqDiff,Nat.reduceAdd,Nat.reduceLeDiff,reduceIte,bG,iI,List.map,cu,beq_self_eq_true,reduceCtorEq,false_or,true_and,and_true,Option.some.injEq, *];done),?_⟩);simp only[Env.aB];cases bb<;>simp only[decide_eq_true_eq,decide_eq_false_iff_not]at c
     ·have q:=N.out λh=>c (by rw[h]);clear c;repeat' (first|refine aH trivial ?_|(first|apply ah|apply af)<;>intro c)
      refine⟨.inr trivial,?_⟩;rw[q.out];exact ef
     ·have hY:=O.out n.out.1 n.out.2 c;clear c;repeat' (first|refine aH @U ?_|(first|apply ah|apply af)<;>intro c)
      refine⟨a.length - (i+1),by omega,trivial,i+1,rfl,by omega,hY,?_⟩;simp only[lk,dM,Nat.reduceEqDiff,if_false,if_true,U,F,H,and_self]
    ·have q:=N.out λh=>y (by rw[h]);rw[<- u]at d;clear hint u;repeat' (first|refine aH (aj @r (aj (@cU _ _ _ f.sl) (aj (@cU _ _ _ g.sl) (aj @o (aj @w (aj @d @p)))))) ?_|(first|apply ah|apply af)<;>intro c)
     refine⟨.inr trivial,?_⟩;rw[q.out];exact ef
   ·have q:=N.out λh=>u (by rw[h]);clear hint;repeat' (first|refine aH (aj @r (aj (@cU _ _ _ f.sl) (aj (@cU _ _ _ g.sl) (aj @o @d)))) ?_|(first|apply ah|apply af)<;>intro c)
    refine⟨.inr trivial,?_⟩;rw[q.out];exact ef
  ·have hT:Bx (decide (a=b)=true):=⟨decide_eq_true (by
    apply List.ext_getElem j.out;intro k h1 h2;have:=heq.out k om;rwa[gD,gD,gE h1,gE h2]at this)⟩
   clear dB j;repeat' (first|refine aH @r ?_|(first|apply ah|apply af)<;>intro c)
   refine⟨.inr trivial,?_⟩;rw[hT.out];exact ef
 ·have q:Bx (decide (a=b)=false):=⟨decide_eq_false λh=>dB (by rw[h])⟩;have Y:¬ (a.length:Int)=(b.length:Int):=by omega
  clear dB;repeat' (first|refine aH (aj @r @A) ?_|(first|apply ah|apply af)<;>intro c)
  refine⟨.inr trivial,?_⟩;rw[q.out];exact ef
def N4 (r:LV × LV):List LV:=[r.1,r.2]
theorem DW (r:LV × LV):(N4 r).length=2:=rfl
structure IsZ (r:LV × LV) (z:List Nd × List Int):Prop where
  tr:∃ rs,jK r.1 z.1 rs
  rc:aP r.2 z.2
theorem pX {v:LV}{cs:List LV}{n:Nat}(h:Sl v cs n):cells? v=some [v]:=by cases h<;>rfl
theorem IsZ.cl {r:LV × LV}{z:List Nd × List Int}(h:IsZ r z):r.1.closed=true/\r.2.closed=true/\bf r.1=true/\bf r.2=true:=by
 obtain⟨rs,h1⟩:=h.tr;exact⟨h1.closed,h.rc.closed,h1.sl.cell,h.rc.sl.cell⟩
structure ZM (s:St) (j:Nat) (Z:Zs) (rs:List (LV × LV)):Prop where
  get:s.get j=some (.cells .mut (dm N4 rs))
  lt:j<s.n
  len:rs.length=Z.length
  at_:∀ i,i<Z.length->IsZ (rs.getD i default) (Z.getD i default)
theorem ZM.keep {s s':St}{j:Nat}{Z:Zs}{rs:List (LV × LV)}(h:ZM s j Z rs) (a:s.n<=s'.n) (hs:s'.get j=s.get j):ZM s' j Z rs:=⟨hs.trans h.get,by have:=h.lt;omega,h.len,h.at_⟩
theorem ZM.ld {s:St}{j:Nat}{Z:Zs}{rs:List (LV × LV)}(h:ZM s j Z rs) {i:Nat}(a:i<Z.length):cz none (.aO j (i*2)) s=some (rs.getD i default).1/\cz none (.aO j (i*2+1)) s=some (rs.getD i default).2:=by
 have b:rs[i]? = some (rs.getD i default):=by
  have:i<rs.length:=by rw[h.len];exact a
  simp[gD,this]
 have g:=λk c=>xh (k:=k) DW b c [];simp only[List.append_nil]at g;have g0:=g 0 om;rw[Nat.add_zero]at g0;exact⟨iW h.get (g0.trans rfl),iW h.get ((g 1 om).trans rfl)⟩
theorem ZM.snoc {s s':St}{j a:Nat}{Z:Zs}{rs:List (LV × LV)}(h:ZM s j Z rs) {r:LV × LV}{z:List Nd × List Int}(b:IsZ r z) (c:s'.get a=some (.cells .mut (dm N4 rs++N4 r))) (d:a<s'.n):ZM s' a (Z++[z]) (rs++[r]):=by
 refine⟨by rw[gh,oq];exact c,d,by rw[List.length_append,List.length_append,h.len];rfl,λi f=>?_⟩;rw[List.length_append,List.length_singleton]at f;by_cases e:i<Z.length
 ·rw[Go.pR.dz e,Go.pR.dz (by rw[h.len];exact e)];exact h.at_ i e
 ·have e:i=Z.length:=by omega
  subst e;rw[Go.pR.bZ (Nat.le_refl _),Go.pR.bZ (by rw[h.len];exact Nat.le_refl _),h.len,Nat.sub_self];exact b
theorem Hr {s:St}{j:Nat}{Z:Zs}{rs:List (LV × LV)}(c:ZM s j Z rs) (O:Z.length<=10000) {r:LV × LV}{z:List Nd × List Int}(q:IsZ r z) :
 aM Tryz.prog GL (.fn (.func 31) [] []) [.aE j 0 Z.length 2, .agg [r.1,r.2]] s (λv s'=>∃ b t,v = .cE [.aE b 0 (A2 Z z).length 2, .int .i64 (Z.findIdx (λy=>decide (y=z)):Int)]/\ZM s' b (A2 Z z) t/\(b=j∨s.n<=b)/\s.n<=s'.n/\∀ id,id<s.n->id≠j->s'.get id=s.get id):=by
 have je:=lG;obtain⟨c1,c2,c3,c4⟩:=q.cl;refine bM (first:=[]) (caps:=[]) Tryz.func31 br c31 bw (aX.mono (Q:=λo e s'=>(o = .normal∨o = .jmp .ret)/\∃ b t,(e.at 4 = .aE b 0 (A2 Z z).length 2/\e.at 5 = .int .i64 (Z.findIdx (λy=>decide (y=z)):Int))/\ZM s' b (A2 Z z) t/\(b=j∨s.n<=b)/\s.n<=s'.n/\∀ id,id<s.n->id≠j->s'.get id=s.get id) ?_ λo e s' T=>by
  obtain⟨h1,b,t,⟨h2,U⟩,h3⟩:=T;exact⟨h1,_,by simp[l31,aW,bD,h2,U],b,t,rfl,h3⟩)
 refine Cd.out (mH λe u V=>?_);have bV:(LV.agg [r.1,r.2]).closed=true:=by simp[LV.closed,LV.closed.au,c1,c2]
 obtain⟨rz,E⟩:=q.tr;have F:=q.rc;have X:=Bx.mk q;clear q;obtain⟨d,f⟩:=r;simp only at *;unfold l31;dsimp only[jA,jB,jE,qM,qL,qN,qF,qS,qI,qA,qB,qC,qO,qV,qJ,qX,qm,qR];repeat' (first|refine aG trivial ?_|(first|apply ah|apply af)<;>intro a)
 refine aN (λm e s1=>s1=s/\∃ i:Nat,m=Z.length - i/\i<=Z.length/\Bx (∀ k,k<i->Z.getD k default≠z)/\e.at 0 = .aE j 0 Z.length 2/\e.at 3 = .aY [d,f] 0/\e.at 6 = .int .i64 (i:Int)) _
  ⟨rfl,0,rfl,Nat.zero_le _,⟨λk g=>absurd g (Nat.not_lt_zero _)⟩,ef,ef,by simp only[lk,Nat.reduceEqDiff,if_false,if_true];rfl⟩ ?_
 clear u V;clear e;rintro m e s1 ⟨Y,i,rfl,hi,x,u,H,e6⟩;subst Y;by_cases A:i<Z.length
 ·have iQ:(i:Int)<(Z.length:Int):=by omega
  have C:=@bQ i om;obtain⟨l0,l1⟩:=c.ld A;have R:=c.at_ i A;obtain⟨ri,WM⟩:=R.tr;have lZ:=R.rc;have S:Z.getD i default=z->Bx (A2 Z z=Z/\Z.findIdx (λy=>decide (y=z))=i):=λh=>⟨by
   have h1:Z.findIdx (λy=>decide (y=z))=i:=by
    rw[List.findIdx_eq A];refine⟨?_,λk g=>?_⟩
    ·rw[gD,gE A]at h;exact decide_eq_true h
    ·have:=x.out k g;rw[gD,gE om]at this;exact decide_eq_false this
   exact⟨by unfold A2;rw[if_pos om],h1⟩⟩
  have I:Z.getD i default≠z->Bx (∀ k,k<i+1->Z.getD k default≠z):=λh=>⟨λk g=>by
   by_cases e:k<i
   ·exact x.out k e
   ·rw[show k=i by omega];exact h⟩
  have h1:=ye lZ F;have h2:=OH WM E;generalize w:Z.getD i default=zi at *;generalize (rs.getD i default).1=xv at *;generalize (rs.getD i default).2=yv at *;have sw:=Bx.mk w;clear w;repeat' (first|refine aG (aj @eF (aj @l0 @l1)) ?_|(first|apply ah|apply af)<;>intro a)
  refine cO ff (h1) (by first | exact wN | (apply wG;(simp only[lk,Nat.reduceEqDiff,reduceIte,u,H,e6];(try rfl);done))) ef (λJ a=>⟨by first | trivial | (simp only[dG,aK,bq.run,Env.aB,Env.cp,u6,Nat.reduceEqDiff,Nat.reduceAdd,Nat.reduceLeDiff,reduceIte,bG,iI,List.map,cu,beq_self_eq_true,reduceCtorEq,false_or,true_and,and_true,Option.some.injEq, *];done),?_⟩);simp only[Env.aB];cases J<;>simp only[decide_eq_true_eq,decide_eq_false_iff_not]at a
  ·have p:=I λh=>a (by rw[h]);clear a h1 h2;repeat' (first|refine aG (aj @eF (aj @l0 @l1)) ?_|(first|apply ah|apply af)<;>intro a)
   repeat' (first|refine aG @C ?_|(first|apply ah|apply af)<;>intro a)
   refine⟨Z.length - (i+1),by omega,trivial,i+1,rfl,by omega,p,?_⟩;simp only[lk,Nat.reduceEqDiff,if_false,if_true,C,u,H,and_self]
  ·have fy:=Bx.mk a;clear a h1;repeat' (first|refine aG (aj @eF (aj @l0 @l1)) ?_|(first|apply ah|apply af)<;>intro a)
   refine cO ff (h2) (by first | exact wN | (apply wG;(simp only[lk,Nat.reduceEqDiff,reduceIte];(try rfl);done))) ef (λJ a=>⟨by first | trivial | (simp only[dG,aK,bq.run,Env.aB,Env.cp,u6,Nat.reduceEqDiff,Nat.reduceAdd,Nat.reduceLeDiff,reduceIte,bG,iI,List.map,cu,beq_self_eq_true,reduceCtorEq,false_or,true_and,and_true,Option.some.injEq, *];done),?_⟩);simp only[Env.aB];cases J<;>simp only[decide_eq_true_eq,decide_eq_false_iff_not]at a
   ·have p:=I λh=>a (by rw[h]);clear a h2;repeat' (first|refine aG trivial ?_|(first|apply ah|apply af)<;>intro a)
    repeat' (first|refine aG @C ?_|(first|apply ah|apply af)<;>intro a)
    refine⟨Z.length - (i+1),by omega,trivial,i+1,rfl,by omega,p,?_⟩;simp only[lk,dM,Nat.reduceEqDiff,if_false,if_true,C,u,H,and_self]
   ·have L:=S (Prod.ext a fy.out);clear a h2 S I;repeat' (first|refine aG trivial ?_|(first|apply ah|apply af)<;>intro a)
    repeat' (first|refine aG trivial ?_|(first|apply ah|apply af)<;>intro a)
    refine⟨.inr trivial,j,rs,?_,?_, .inl rfl,Nat.le_refl _,λ_ _ _=>trivial⟩
    ·rw[L.out.1,L.out.2];exact⟨ef,ef⟩
    ·rw[L.out.1];exact c
 ·have Af:i=Z.length:=by omega
  subst Af;have p:Bx (A2 Z z=Z++[z]/\Z.findIdx (λy=>decide (y=z))=Z.length):=⟨by
   have h1:Z.findIdx (λy=>decide (y=z))=Z.length:=List.findIdx_eq_length.2 λy hy=>by
    obtain⟨k,g,rfl⟩:=List.getElem_of_mem hy;have:=x.out k g;rw[gD,gE g]at this;exact decide_eq_false this
   exact⟨by unfold A2;rw[if_neg om],h1⟩⟩
  have ZT:cells? (.agg [d,f])=some [d,f]:=by
   have:[d,f].all bf=true:=by simp only[List.all_cons,List.all_nil,Bool.and_true,c3,c4]
   simp only[cells?,this,if_true]
  have zc:=c.lt;clear x;repeat' (first|refine aG trivial ?_|(first|apply ah|apply af)<;>intro a)
  refine qb (n:=Z.length) (aZ:=2) (xv:=.agg [d,f]) (yv:=.aE j 0 Z.length 2) (vs:=[d,f]) (cells:=dm N4 rs) ef ZT rfl rfl (kQ.closed (by simp[LV.closed.au,c1,c2])) ef ⟨by rw[eN DW,c.len], .inr ⟨j,[],rfl,c.lt,by rw[List.append_nil];exact c.get⟩⟩ (by decide) om (λM N a1 a2 a3 a4 a5 a6=>?_);have D:Bx (ZM M N (Z++[z]) (rs++[(d,f)])/\s1.n<=N/\s1.n<=M.n/\∀ id,id<s1.n->id≠j->M.get id=s1.get id):=⟨c.snoc X.out a3 a2,a1,a5,λid aS dB=>a6 id aS λhu=>dB (aI.1 hu)⟩;clear a3 a4 a6;repeat' (first|refine aG trivial ?_|(first|apply ah|apply af)<;>intro a)
  refine⟨.inr trivial,N,rs++[(d,f)],?_,?_, .inr D.out.2.1,D.out.2.2.1,D.out.2.2.2⟩
  ·rw[p.out.1,p.out.2,List.length_append,List.length_singleton];exact⟨ef,ef⟩
  ·rw[p.out.1];exact D.out.1
structure BO (B:Bu) (most:Nat) (i j:Nat) (s:St) (rs:List (LV × LV)) (v1 v2:LV):Prop where
  g0:s.get 0=some (.cells .mut [.int .i64 0, .int .i64 0, .aq, .aq])
  g2:s.get 2=some (.cells .mut [.int .i64 B.L, .int .i64 0,v1,v2])
  n2:2<s.n
  j0:j≠0/\j≠2
  zm:ZM s j (zB B i 0) rs
  r1:eH s v1 (PB B) i
  r2:eH s v2 (Pc B) i
  u1:∀ id,aQ v1 id->2<id/\id≠j/\¬ aQ v2 id
  u2:∀ id,aQ v2 id->2<id/\id≠j
  ok:∀ k,k<i->k<(cL B k).2.length
  le:∀ k,k<=i->(cL B k).2.length<=most
structure BN (B:Bu) (most:Nat) (i j x jx:Nat) (sI s:St) (rs:List (LV × LV)) (w1 w2:LV):Prop where
  zm:ZM s jx (zB B i x) rs
  jo:jx=j∨sI.n<=jx
  s1:Sx s w1 (ints ((PB B i).take x)) x
  s2:Sx s w2 (ints ((Pc B i).take x)) x
  u1:∀ id,aQ w1 id->sI.n<=id/\id≠jx/\¬ aQ w2 id
  u2:∀ id,aQ w2 id->sI.n<=id/\id≠jx
  n:sI.n<=s.n
  o:∀ id,id<sI.n->id≠j->s.get id=sI.get id
  le:(zB B i x).length<=most
section
variable {P:Program}{G:bP}{K:Env->St->Prop}{l:List bC}{e:Env}{s:St}{fl:Bool}
theorem TI {a aZ:Nat}{x:bF}{z:List LV}{xv:LV}{vs:List LV}{jT:List (Nat × Option (Nat × Bool) × bq)}(hx:x.ev e=xv) (d:cells? xv=some vs) (b:z.length=aZ) (c:vs.length=aZ) (f:dG jT (Tr.set e a (.aE s.n 0 1 aZ)) (s.new (.cells .mut vs)))
 (h:W P G K l (Tr.set e a (.aE s.n 0 1 aZ)) (s.new (.cells .mut vs))):W P G K (⟨some a, .bu aZ 1 z [(0,(aZ,x))],none,jT,fl⟩::l) e s:=by
 have g:aU (rep 1 z) (bt e [(0,(aZ,x))])=some vs:=by
  have h1:splice z 0 vs=vs:=lK (vs:=vs) (z:=z) (by rw[b,c]);have i:rep 1 z=z:=by simp[rep]
  simp only[bt,List.map,i,aU,hx,d,c];rw[if_pos ⟨trivial,by rw[b];omega⟩,h1]
 exact j7 (v:=.aE s.n 0 1 aZ) (s':=s.new (.cells .mut vs)) rfl (by simp only[bq.run,g,Option.bind_eq_bind,Option.bind_some]) (by cases fl<;>rfl) (by simp only[Env.aB];exact f) (by simp only[Env.aB];exact h)
theorem X0 {a:Nat}{z:List LV}{jT:List (Nat × Option (Nat × Bool) × bq)}(b:dG jT (Tr.set e a (.aO s.n 0)) (s.new (.cells .mut z))) (h:W P G K l (Tr.set e a (.aO s.n 0)) (s.new (.cells .mut z))):W P G K (⟨some a, .alloc z,none,jT,fl⟩::l) e s:=
 j7 (v:=.aO s.n 0) (s':=s.new (.cells .mut z)) rfl rfl (by cases fl<;>rfl) (by simp only[Env.aB];exact b) (by simp only[Env.aB];exact h)
end
theorem Na {a b:LV}(c:bf a=true) (d:bf b=true):cells? (.agg [a,b])=some [a,b]:=by
 have:[a,b].all bf=true:=by simp only[List.all_cons,List.all_nil,Bool.and_true,c,d]
 simp only[cells?,this,if_true]
theorem Sx.I9 {s:St}{v:LV}{n:Nat}{cells:List LV}(h:Sx s v cells n):cells? v=some [v]:=by
 obtain⟨_,⟨rfl,rfl⟩ | ⟨j,rfl,_⟩⟩:=h<;>rfl
theorem sq_le {B:Bu} : ∀ {i:Nat},(∀ k,k<i->k<(cL B k).2.length)->i<=(cL B i).2.length
 | 0,_=>Nat.zero_le _
 | i+1,h=>by have:=h i (by omega);have:=JD B i;omega
theorem xM {s s':St}{w r:LV}(h:cY bp w s=some (r,s')):gC [w] s=([r],s'):=by
 simp only[gC,cY.cM,h,Option.bind_eq_bind,Option.bind_some]
theorem pT {f:Nat->Nat}{n x:Nat}(h:x<n):((List.range n).map λa=>(f a:Int)).take (x+1)=((List.range n).map λa=>(f a:Int)).take x++[(f x:Int)]:=by
 rw[List.take_add_one,Yk h];rfl
theorem T6 (B:Bu) {i x:Nat}(h:x<B.L.toNat):(PB B i).take (x+1)=(PB B i).take x++[(nxC B i x:Int)]:=by rw[HN];exact pT h
theorem TU (B:Bu) {i x:Nat}(h:x<B.L.toNat):(Pc B i).take (x+1)=(Pc B i).take x++[(prC B i x:Int)]:=by rw[HK];exact pT h
theorem Eo {DS:LV}{B:Bu}{H I:LV}{most:Nat}(hB:vo DS B H I) (hv:Vb B) (hN:B.next.length<=10) (BR:1<=most) (wu:most<=1000):PE 9 [DS, .int .i64 (most:Int)] (PX B most):=by
 have bV:=hB.closed;have dy:=lP hB;have CY:=Et hB hv;have gq:=Eu hB hv;have Iq:=Er (n:=2*B.next.length) om;have mU:=λ(tv:LV) (t:List Nd) (rs:List (Int × Int × LV)) (h1:jK tv t rs) (h2:EP B t) (a:Nat) (h3:(a:Int)<B.L)=>HE hB hv hN h1 h3 h2;rw[decide_eq_true hv]at dy;obtain⟨rfl,hs,hn⟩:=hB;have m9:=hs.closed;have mD:=hn.closed;obtain⟨vs,fI⟩:=hn;have mJ:=hs.sl.cell;have nW:=fI.sl.cell;have je:=lG;have hL1:=hv.1;have Vx:=hv.2.1;refine dS Tryz.func9 br c9 bw (by simp[LV.closed.au,LV.closed,m9,mD]) ?_;refine mH λe e0 e1=>?_;have ij:∀ (e:Env) (s:St) (c:List LV) (er:LV),e.at 4 = .aO 0 0->s.get 0=some (.cells .mut c)->c.length=4->e.at 5=er->aW l9.results e s=some (.cE [.agg c,er]):=λe s c er h1 h2 h3 h4=>by
  match c,h3,h2 with
  | [c1,c2,c3,c4],_,h2=>simp[l9,aW,bD,h1,h2,h4,bG]
 have iL:=Bx.mk ij;have AL:=Bx.mk mU;have NC:=Bx.mk hv;clear ij mU hv;have Is:∀ s:St,cz (some 3) (.aY [.int .i64 B.L,H,I] 0) s=some (.agg [.int .i64 B.L,H,I]):=λs=>rM rfl rfl;unfold l9 at iL ⊢;dsimp only[jA,jB,jC,jG,jH,qM,qL,qN,qF,qS,qI,qA,qB,qC,qO,qP,qU,qW,qJ,qT,qD,qX,qG,qm,ql,qR]at iL ⊢;repeat' (first|refine aH @bV ?_|(first|apply ah|apply af)<;>intro u)
 have Dk:(St.empty.new (.cells .mut [.int .i64 0, .int .i64 0, .aq, .aq])).get 0=some (.cells .mut [.int .i64 0, .int .i64 0, .aq, .aq]):=by simp[bJ]
 have Z:(St.empty.new (.cells .mut [.int .i64 0, .int .i64 0, .aq, .aq])).n=1:=by simp[bJ]
 generalize St.empty.new (.cells .mut [.int .i64 0, .int .i64 0, .aq, .aq])=s0 at *;refine dx dy ?_;clear dy;repeat' (first|refine aH trivial ?_|(first|apply ah|apply af)<;>intro u)
 refine cK ff CY wN ef λwS htv0 htc0=>⟨⟨fU (p:=.aY [.int .i64 B.L,H,I] 0) (v:=.agg [.int .i64 B.L,H,I]) (by simp only[Env.aB];exact ef) (Is _) (by simp only[Env.aB];exact ef),trivial⟩,?_⟩;obtain⟨Hp,UG⟩:=htv0;simp only[Env.aB];repeat' (first|refine aG trivial ?_|(first|apply ah|apply af)<;>intro u)
 refine tq ff gq wN ef trivial ?_;simp only[Env.aB];refine cK ff Iq wN ef λXU UM hrc0=>⟨trivial,?_⟩;simp only[Env.aB];have Ik:=UG.sl.cell;have tG:=UM.sl.cell;refine cC (vs:=[wS,XU]) wN (by
  simp only[bt,List.map,lk,dM,Nat.reduceEqDiff,if_false,if_true,List.map];simp[aU,pX UG.sl,pX UM.sl,splice]) ?_
 refine TI (xv:=.agg [wS,XU]) (vs:=[wS,XU]) ef (Na Ik tG) rfl rfl ⟨fU (p:=.aY [.int .i64 B.L,H,I] 0) (v:=.agg [.int .i64 B.L,H,I]) ef (Is _) ef,fU (p:=.aY [.int .i64 B.L,H,I] 0) (v:=.agg [.int .i64 B.L,H,I]) ef (Is _) ef,trivial⟩ ?_;rw[Z];repeat' (first|refine aG trivial ?_|(first|apply ah|apply af)<;>intro u)
 refine cC (vs:=[.int .i64 B.L, .int .i64 0, .aq, .aq]) wN (by
  simp only[bt,List.map,lk,dM,Nat.reduceEqDiff,if_false,if_true,List.map];simp[aU,fq,splice]) ?_
 repeat' (first|refine aG trivial ?_|(first|apply ah|apply af)<;>intro u)
 have hBO:Bx (BO B most 0 1 (((s0.new (.cells .mut [wS,XU])).new (.cells .mut [.int .i64 0, .int .i64 0, .aq, .aq])).put 2 (.cells .mut [.int .i64 B.L, .int .i64 0, .aq, .aq])) [(wS,XU)] .aq .aq):=⟨by
  refine⟨?_,by rw[St.az,if_pos rfl],by simp[Z],⟨by omega,by omega⟩,⟨?_,by simp[Z],?_,λi hi=>?_⟩,⟨[],ek.nil _ _,rfl,λj hj=>by omega⟩,⟨[],ek.nil _ _,rfl,λj hj=>by omega⟩,λid b=>absurd b (bE id),λid b=>absurd b (bE id),λk hk=>by omega,λk hk=>?_⟩
  ·rw[St.az,if_neg om,St.aA,if_neg (by simp[Z]),St.aA,if_neg om];exact Dk
  ·rw[St.az,if_neg om,St.aA,if_neg (by simp[Z]),St.aA,if_pos Z.symm];rfl
  ·rw[xU];rfl
  ·rw[xU]at hi ⊢;have pN:i=0:=by simp at hi;omega
   subst pN;exact⟨⟨Hp,UG⟩,UM⟩
  ·rw[show k=0 by omega];exact BR⟩
 have Q8:Bx ((zB B 0 0).length=1):=⟨by rw[xU];rfl⟩;generalize ((s0.new (.cells .mut [wS,XU])).new (.cells .mut [.int .i64 0, .int .i64 0, .aq, .aq])).put 2 (.cells .mut [.int .i64 B.L, .int .i64 0, .aq, .aq])=s1 at *;clear Dk Z UG UM htc0 hrc0 Ik tG CY gq Iq;refine aN (λm e s=>∃ (i j:Nat) (rs:List (LV × LV)) (J A:LV),m=most+1 - i/\BO B most i j s rs J A/\e.at 1 = .int .i64 (most:Int)/\e.at 2 = .aY [.int .i64 B.L,H,I] 0/\e.at 4 = .aO 0 0/\e.at 6 = .aE j 0 (zB B i 0).length 2/\e.at 7 = .aO 2 0/\e.at 8 = .int .i64 (i:Int)) _
  ⟨0,1,_,_,_,rfl,hBO.out,ef,ef,ef,by simp only[lk,dM,Nat.reduceEqDiff,if_false,if_true,Q8.out],ef,by simp only[lk,dM,Nat.reduceEqDiff,if_false,if_true];rfl⟩ ?_
 clear e0 e1 hBO Q8;clear e s0 s1 wS XU Hp;rintro m e s ⟨i,j,rs,J,A,rfl,E,e1,e2,e4,e6,e7,e8⟩;have Fj:(zB B i 0).length=(cL B i).2.length:=(GZ i 0).trans (Lj B i);have hlei:=E.le i (Nat.le_refl _);have Di:=Bx.mk E;by_cases cy:i<(zB B i 0).length
 ·have iQ:(i:Int)<((zB B i 0).length:Int):=by omega
  have fC:∀ k,k<i+1->k<(cL B k).2.length:=λk hk=>by
   by_cases h:k<i
   ·exact E.ok k h
   ·rw[show k=i by omega];omega
  obtain⟨hX,hokT,hrcV,C5⟩:=N5 NC.out hN fC;have dO:=@bQ i om;have yU:=Bx.mk (And.intro fC (And.intro hokT (And.intro hrcV C5)));have ZG:i<=1000:=by omega
  have S6:((B.L.toNat:Nat):Int)=B.L:=Int.toNat_of_nonneg om;have hLB:=Bx.mk S6;clear fC hokT hrcV C5 hX E S6;repeat' (first|refine aG trivial ?_|(first|apply ah|apply af)<;>intro u)
  refine aN (λm e d=>∃ (x g:Nat) (rx:List (LV × LV)) (C D:LV),m=B.L.toNat - x/\x<=B.L.toNat/\BN B most i j x g s d rx C D/\e.at 1 = .int .i64 (most:Int)/\e.at 2 = .aY [.int .i64 B.L,H,I] 0/\e.at 4 = .aO 0 0/\e.at 6 = .aE g 0 (zB B i x).length 2/\e.at 7 = .aO 2 0/\e.at 8 = .int .i64 (i:Int)/\e.at 9=C/\e.at 10=D/\e.at 11 = .int .i64 (x:Int)) _
   ⟨0,j,rs, .aq, .aq,rfl,Nat.zero_le _,⟨Di.out.zm, .inl rfl,Sx.nil _,Sx.nil _,λid b=>absurd b (bE id),λid b=>absurd b (bE id),Nat.le_refl _,λ_ _ _=>rfl,by omega⟩,ef,ef,ef,ef,ef,ef,ef,ef,by simp only[lk,Nat.reduceEqDiff,if_false,if_true];rfl⟩ ?_
  clear e1 e2 e4 e6 e7 e8;clear e;rintro m e d ⟨x,g,rx,C,D,rfl,hx,f,e1,e2,e4,e6,e7,e8,e9,gW,n6⟩;have ko:=Bx.mk f;by_cases Kw:x<B.L.toNat
  ·have hxI:(x:Int)<B.L:=by have:=hLB.out;omega
   have hwx:=@bQ x om;obtain⟨U3,AR⟩:=zB_at NC.out hN yU.out.1 (x:=x);have hilxI:(i:Int)<((zB B i x).length:Int):=by omega
   obtain⟨l0,l1⟩:=f.zm.ld U3;have hz:=f.zm.at_ i U3;rw[AR]at hz;obtain⟨rt,Qx⟩:=hz.tr;have qu:=hz.rc;obtain⟨hzs1,hzs2⟩:=Td NC.out hN ZG yU.out.1 Kw;have xC:=T6 B (i:=i) Kw;have SG:=TU B (i:=i) Kw;have DJ:=Pa (B:=B) i x;have sw:=Bx.mk (And.intro AR (And.intro hzs1 (And.intro hzs2 (And.intro xC (And.intro SG DJ)))));have hle:=f.le;have U0:=f.zm.lt;clear f hz AR hzs1 hzs2 xC SG DJ;generalize htvi:(rx.getD i default).1=tvi at *;generalize hrvi:(rx.getD i default).2=rvi at *;have hviB:=Bx.mk (And.intro htvi hrvi);clear htvi hrvi;have hstp:=AL.out tvi _ rt Qx yU.out.2.1 x hxI;repeat' (first|refine aG (aj @eF @l0) ?_|(first|apply ah|apply af)<;>intro u)
   refine X0 ⟨fU (p:=.aY [.int .i64 B.L,H,I] 0) (v:=.agg [.int .i64 B.L,H,I]) ef (Is _) ef,fU (p:=.aO g (i*2)) (v:=tvi) ef (by
    have:=(ko.out.zm.keep (s':=d.new (.cells .mut [.aq, .aq])) (by simp) (by rw[St.aA,if_neg om])).ld U3;rw[hviB.out.1]at this;exact this.1) ef,trivial⟩ ?_
   refine cK ff hstp wN ef λr hr C5=>⟨trivial,?_⟩;obtain⟨DB,gv,bv,iJ,rfl,kU,tF,WS⟩:=hr;simp only[Env.aB];have SP:=tF.sl.cell;have Rn:=WS.sl.cell;have lJ:((d.new (.cells .mut [.aq, .aq])).put d.n (.cells .mut [gv,bv])).get d.n=some (.cells .mut [gv,bv]):=by rw[St.az,if_pos rfl]
   have hZ2:=ko.out.zm.keep (s':=(d.new (.cells .mut [.aq, .aq])).put d.n (.cells .mut [gv,bv])) (by simp) (by rw[St.az,if_neg om,St.aA,if_neg om]);have iM:∀ id,id<d.n->((d.new (.cells .mut [.aq, .aq])).put d.n (.cells .mut [gv,bv])).get id=d.get id:=λid R=>by rw[St.az,if_neg om,St.aA,if_neg om]
   have jk:((d.new (.cells .mut [.aq, .aq])).put d.n (.cells .mut [gv,bv])).n=d.n+1:=rfl;obtain⟨-,l1'⟩:=hZ2.ld U3;rw[hviB.out.2]at l1';have hrst:=HD qu yU.out.2.2.1 tF WS;have Mr:=Bx.mk (And.intro kU (And.intro hZ2 iM));clear kU hZ2 iM l0 l1 hstp Qx qu tF WS;repeat' (first|refine aG trivial ?_|(first|apply ah|apply af)<;>intro u)
   generalize (d.new (.cells .mut [.aq, .aq])).put d.n (.cells .mut [gv,bv])=s4 at *;repeat' (first|refine aG (aj @eF (aj @l1' @lJ)) ?_|(first|apply ah|apply af)<;>intro u)
   refine cK ff hrst wN ef λr hr hrcl2=>⟨trivial,?_⟩;obtain⟨Ec,rfl,hrI⟩:=hr;simp only[Env.aB];have Ik:=Mr.out.1.sl.cell;have tG:=hrI.sl.cell;have hnum:=Hr Mr.out.2.1 om (r:=(DB,Ec)) (z:=(kz B (jV B i i) x,vA B (jV B i i) (pL B i i) x)) ⟨⟨iJ,Mr.out.1⟩,hrI⟩;clear hrst;repeat' (first|refine aG trivial ?_|(first|apply ah|apply af)<;>intro u)
   refine cC (vs:=[DB,Ec]) wN (by
    simp only[bt,List.map,lk,dM,Nat.reduceEqDiff,if_false,if_true,List.map];simp[aU,pX Mr.out.1.sl,pX hrI.sl,splice]) ?_
   refine bK wN (fv:=.fn (.func 31) [] []) (vs:=[.aE g 0 (zB B i x).length 2, .agg [DB,Ec]]) rfl ef (aM.mono hnum λr s5 hh=>⟨trivial,?_⟩);obtain⟨j5,rs5,rfl,hZ5,ZD,vI,eL⟩:=hh;simp only[Env.aB];clear hnum;rw[<- sw.out.2.2.1]at hZ5 ⊢;rw[sw.out.2.1];have Mq:=tX (B:=B) (i:=i) (x:=x+1) om;have YH:=GZ (B:=B) i (x+1);have q:=Di.out;have N:=ko.out;have hn2s:=q.n2;have sx:=N.n;have hj5l:=hZ5.lt;have zc:=q.zm.lt;have QX:g≠0/\g≠2:=by
    have:=q.j0;rcases N.jo with h | h
    ·rw[h];exact this
    ·exact⟨by omega,by omega⟩
   have hj52:j5≠0/\j5≠2:=by
    rcases ZD with h | h
    ·rw[h];exact QX
    ·exact⟨by omega,by omega⟩
   have C7:∀ id,id<d.n->id≠g->s5.get id=d.get id:=λid h1 h2=>(eL id om h2).trans (Mr.out.2.2 id h1);have IK:s5.get 0=some (.cells .mut [.int .i64 0, .int .i64 0, .aq, .aq]):=by
    rw[C7 0 om (λh=>QX.1 h.symm),N.o 0 om (λh=>q.j0.1 h.symm)];exact q.g0
   have hS51:=N.s1.mono (s':=s5) om λid b=>C7 id (N.s1.lt b) (N.u1 id b).2.1;have hS52:=N.s2.mono (s':=s5) om λid b=>C7 id (N.s2.lt b) (N.u2 id b).2;have S5:=Bx.mk (And.intro hZ5 (And.intro ZD (And.intro C7 (And.intro hS51 (And.intro hS52 (And.intro N.u1 N.u2))))));have h05B:=Bx.mk IK;clear hZ5 ZD C7 hS51 hS52 eL N q IK Mr;generalize NG:nJ (marks (Ap B (jV B i i) x) (Aq B (jV B i i) x) (pL B i i).length) (pL B i i)=pv at *;have hpvB:=Bx.mk NG;clear NG;by_cases C6:most<(zB B i (x+1)).length
   ·have Ze:(most:Int)<((zB B i (x+1)).length:Int):=by omega
    have hOv:Bx (Over B most):=⟨⟨i,λk hk=>⟨yU.out.1 k om,Di.out.le k hk⟩,by omega⟩⟩;have IK:=h05B.out;clear C6 YH Mq;repeat' (first|refine aH trivial ?_|(first|apply ah|apply af)<;>intro u)
    refine cC (vs:=[.int .i64 0, .int .i64 0, .aq, .aq]) wN (by
     simp only[bt,List.map,List.map];simp[aU]) ?_
    repeat' (first|refine aH @IK ?_|(first|apply ah|apply af)<;>intro u)
    exact⟨.inr trivial,_,iL.out _ _ _ _ ef (by rw[St.az,if_pos rfl]) rfl ef,_,_,bk rfl,rfl, .inr ⟨rfl,hOv.out⟩⟩
   ·have Ze:((zB B i (x+1)).length:Int)<=(most:Int):=by omega
    have hzlB:=Bx.mk (And.intro YH Mq);clear YH Mq;have GV:=S5.out.2.2.1;have hx64:x<=64:=by have:=hLB.out;omega
    repeat' (first|refine aH trivial ?_|(first|apply ah|apply af)<;>intro u)
    refine nK (v:=(nxC B i x:Int)) (yv:=C) ef ef S5.out.2.2.2.1 (by unfold big;omega) (λs6 r6 k1 k2 k3 k4=>?_);have vh:=S5.out.2.2.2.2.2.1;have uz:=S5.out.2.2.2.2.2.2;have hS62:=S5.out.2.2.2.2.1.mono k2 λid b=>k3 id (S5.out.2.2.2.2.1.lt b) λhu'=>(vh id hu').2.2 b;have hw1l:=λid (b:aQ C id)=>ko.out.s1.lt b;have Ih:=λid (b:aQ D id)=>ko.out.s2.lt b;have ZC:∀ w:LV,(∀ id,aQ w id->s.n<=id/\id≠g)->(∀ id,aQ w id->id<d.n)->¬ aQ w j5:=λw h1 h2 b=>by
     rcases S5.out.2.1 with h | h
     ·exact (h1 j5 b).2 h
     ·have:=h2 j5 b;omega
    have hj5w1:=ZC C (λid b=>⟨(vh id b).1,(vh id b).2.1⟩) hw1l;have hj5w2:=ZC D uz Ih;have hZ6:=S5.out.1.keep k2 (k3 j5 hj5l hj5w1);have hr6l:=λid (b:aQ r6 id)=>k1.lt b;have hB6:=Bx.mk (And.intro k1 (And.intro k3 (And.intro k4 (And.intro hZ6 hS62))));clear k1 k3 hZ6 hS62 ZC;repeat' (first|refine aG trivial ?_|(first|apply ah|apply af)<;>intro u)
    refine nK (v:=(pv:Int)) (yv:=D) ef ef hB6.out.2.2.2.2 (by unfold big;omega) (λs7 r7 m1 m2 m3 m4=>?_);have hBN:Bx (BN B most i j (x+1) j5 s s7 rs5 r6 r7):=⟨by
     have Y0:s.n<=s5.n:=by omega
     refine⟨hB6.out.2.2.2.1.keep m2 (m3 j5 om hj5w2),?_,?_,?_,λid b=>?_,λid b=>?_,by omega,λid h1 h2=>?_,by omega⟩
     ·rcases S5.out.2.1 with h | h
      ·rw[h];exact ko.out.jo
      ·exact .inr om
     ·rw[sw.out.2.2.2.1];have:=hB6.out.1.mono (s':=s7) m2 λid b=>m3 id (hr6l id b) λuz=>by have:=k4 id b;have:=Ih id uz;omega
      unfold ints at this ⊢;rw[List.map_append];exact this
     ·rw[sw.out.2.2.2.2.1,sw.out.2.2.2.2.2];unfold ints at m1 ⊢;rw[List.map_append];exact m1
     ·have h3:=k4 id b;have h4:=hr6l id b;exact⟨by omega,by omega,λuz=>by have:=m4 id uz;omega⟩
     ·have h3:=m4 id b;exact⟨by omega,by omega⟩
     ·rw[m3 id om (λb=>by have:=(uz id b).1;omega),hB6.out.2.1 id om (λb=>by have:=(vh id b).1;omega),S5.out.2.2.1 id om (λh=>by
       rcases ko.out.jo with h3 | h3
       ·exact h2 (h.trans h3)
       ·omega)]
      exact ko.out.o id h1 h2⟩
    clear m1 m3 m4 k4;repeat' (first|refine aG @hwx ?_|(first|apply ah|apply af)<;>intro u)
    refine⟨B.L.toNat - (x+1),by omega,x+1,j5,rs5,r6,r7,rfl,by omega,hBN.out,?_⟩;simp only[lk,dM,Nat.reduceEqDiff,if_false,if_true,hwx,e1,e2,e4,e7,e8,and_self]
  ·have hxe:x=B.L.toNat:=by omega
   have hxl64:x<=64:=by have:=hLB.out;omega
   have q:=Di.out;have xC:(PB B i).take x=PB B i:=List.take_of_length_le (by rw[HN,List.length_map,List.length_range];omega);have SG:(Pc B i).take x=Pc B i:=List.take_of_length_le (by rw[HK,List.length_map,List.length_range];omega);have YG:zB B i x=zB B (i+1) 0:=by rw[Te NC.out hN yU.out.1,hxe]
   have Gx:=GZ (B:=B) i x;have tS:=Bb B i;have y9:(cL B (i+1)).2.length<=most:=by
    have:=f.le;rw[Gx,hxe,tS]at this;exact this
   have NF:∀ y∈PB B i,bU y:=λy hy=>by
    rw[HN]at hy;obtain⟨a,ha,rfl⟩:=List.mem_map.1 hy;have h1:=nx_le B i a;have h2:=tX (B:=B) (i:=i) (x:=a) (by have:=List.mem_range.1 ha;omega);constructor<;>omega
   have QE:∀ y∈Pc B i,bU y:=λy hy=>by
    rw[HK]at hy;obtain⟨a,ha,rfl⟩:=List.mem_map.1 hy;have h1:=Bk (marks (Ap B (jV B i i) a) (Aq B (jV B i i) a) (pL B i i).length) (pL B i i);rw[<- Pa]at h1;have h2:=yU.out.2.2.2;constructor<;>omega
   have mE:=f.s1;have pO:=f.s2;rw[xC]at mE;rw[SG]at pO;have sx:=f.n;have hn2s:=q.n2;have zc:=q.zm.lt;have hjxl:=f.zm.lt;have QX:g≠0/\g≠2:=by
    have:=q.j0;rcases f.jo with h | h
    ·rw[h];exact this
    ·exact⟨by omega,by omega⟩
   obtain⟨R1,S,O,U⟩:=q.r1;obtain⟨R2,V,Q,X⟩:=q.r2;have Ii:=λid (b:aQ J id)=>S.lt b;have yP:=λid (b:aQ A id)=>V.lt b;have UF:=S.cell;have UE:=V.cell;have NP:=S.mono (s':=d) sx λid b=>f.o id (Ii id b) (q.u1 id b).2.1;have AS:=V.mono (s':=d) sx λid b=>f.o id (yP id b) (q.u2 id b).2;have Ag:d.get 2=some (.cells .mut [.int .i64 B.L, .int .i64 0,J,A]):=(f.o 2 hn2s (λh=>q.j0.2 h.symm)).trans q.g2;have AP:d.get 0=some (.cells .mut [.int .i64 0, .int .i64 0, .aq, .aq]):=(f.o 0 om (λh=>q.j0.1 h.symm)).trans q.g0;obtain⟨r1,sB,Q6,C4,GI,Fx⟩:=kK (mE.mono (s':=d.new (.cells .mut [C])) (by simp) λid b=>by have:=mE.lt b;rw[St.aA,if_neg om]) om NF;have Ig:∀ id,aQ J id->¬ aQ C id/\¬ aQ D id:=λid b=>⟨λh=>by have:=(f.u1 id h).1;have:=Ii id b;omega,λh=>by have:=(f.u2 id h).1;have:=Ii id b;omega⟩;have Fp:∀ id,aQ A id->¬ aQ C id/\¬ aQ D id:=λid b=>⟨λh=>by have:=(f.u1 id h).1;have:=yP id b;omega,λh=>by have:=(f.u2 id h).1;have:=yP id b;omega⟩;have AN:¬ aQ J g/\¬ aQ A g/\¬ aQ C g/\¬ aQ D g:=by
    refine⟨λh=>?_,λh=>?_,λh=>(f.u1 g h).2.1 rfl,λh=>(f.u2 g h).2 rfl⟩
    ·rcases f.jo with e | e
     ·exact (q.u1 g h).2.1 e
     ·have:=Ii g h;omega
    ·rcases f.jo with e | e
     ·exact (q.u2 g h).2 e
     ·have:=yP g h;omega
   have F:∀ id,id<=2->¬ aQ J id/\¬ aQ A id/\¬ aQ C id/\¬ aQ D id:=λid R=>⟨λh=>by have:=(q.u1 id h).1;omega,λh=>by have:=(q.u2 id h).1;omega,λh=>by have:=(f.u1 id h).1;omega,λh=>by have:=(f.u2 id h).1;omega⟩;have Qu:∀ id,aQ D id->¬ aQ C id:=λid b vh=>(f.u1 id vh).2.2 b;have Qw:∀ id,aQ A id->¬ aQ J id:=λid b vh=>(q.u1 id vh).2.2 b;have ZY:=Sx.I9 mE;have ZX:=Sx.I9 pO;have DQ:=Bx.mk (And.intro pO (And.intro AS (And.intro AP (And.intro Ig (And.intro Fp (And.intro AN (And.intro F (And.intro Qu (And.intro Qw (And.intro C4 (And.intro O (And.intro U (And.intro Q X)))))))))))));have MO:=Bx.mk (And.intro YG (And.intro y9 QE));clear pO AS AP Fp AN F Qu Qw C4 O U Q X YG QE xC SG NF S V f q Gx tS;repeat' (first|refine aG trivial ?_|(first|apply ah|apply af)<;>intro u)
   repeat' (first|refine aG @Ag ?_|(first|apply ah|apply af)<;>intro u)
   refine yh (T:=aQ C) (n:=i) (aZ:=1) (xv:=C) (yv:=J) (vs:=[C]) (vs':=[r1]) (cells:=R1) ef ZY rfl rfl (xM Q6) rfl (by rw[GI];simp) (λid R b=>by rw[Fx id b,St.aA,if_neg om]) ef NP (λid b=>(Ig id b).1) (by decide) om (λs4 j4 a1 a4 a5 a6=>?_);have hg24:s4.get 2=some (.cells .mut [.int .i64 B.L, .int .i64 0,J,A]):=(a6 2 om (DQ.out.2.2.2.2.2.2.1 2 om).1 (DQ.out.2.2.2.2.2.2.1 2 om).2.2.1).trans Ag;have hA:=Bx.mk (And.intro a4 (And.intro a6 Ig));clear a4 a6 Ig Ag Q6 Fx GI NP mE;repeat' (first|refine aG @hg24 ?_|(first|apply ah|apply af)<;>intro u)
   have h52:(s4.put 2 (.cells .mut [.int .i64 B.L, .int .i64 0, .aE j4 0 (i+1) 1,A])).get 2=some (.cells .mut [.int .i64 B.L, .int .i64 0, .aE j4 0 (i+1) 1,A]):=by rw[St.az,if_pos rfl]
   have eL:∀ id,id≠2->(s4.put 2 (.cells .mut [.int .i64 B.L, .int .i64 0, .aE j4 0 (i+1) 1,A])).get id=s4.get id:=λid h=>by rw[St.az,if_neg om]
   have vI:(s4.put 2 (.cells .mut [.int .i64 B.L, .int .i64 0, .aE j4 0 (i+1) 1,A])).n=s4.n:=rfl;clear hg24;generalize s4.put 2 (.cells .mut [.int .i64 B.L, .int .i64 0, .aE j4 0 (i+1) 1,A])=s5 at *;obtain⟨pO,AS,AP,Ig,Fp,AN,F,Qu,Qw,C4,O,U,Q,X⟩:=DQ.out;obtain⟨YG,-,QE⟩:=MO.out;have Ih:=λid (b:aQ D id)=>Sx.lt pO b;have M:∀ id,id<d.n->id≠2->¬ aQ J id->¬ aQ C id->s5.get id=d.get id:=λid h1 h2 h3 h4=>(eL id h2).trans (hA.out.2.1 id h1 h3 h4);have Y:=Sx.mono (s':=s5) pO om λid b=>M id (Ih id b) (λh=>(F id om).2.2.2 b) (λh=>(Ig id h).2 b) (Qu id b);have Vt:=ek.mono (s':=s5) AS om λid b=>M id (by have:=yP id b;omega) (λh=>(F id om).2.1 b) (Qw id b) (Fp id b).1;obtain⟨r2,sD,Vc,Ip,hnD,hoD⟩:=kK (Sx.mono (s':=s5.new (.cells .mut [D])) Y (by simp) λid b=>by have:=Sx.lt Y b;rw[St.aA,if_neg om]) om QE;have FR:=Bx.mk (And.intro pO (And.intro AP (And.intro Fp (And.intro AN (And.intro F (And.intro Ip (And.intro Ih (And.intro M (And.intro eL vI)))))))));have hR2l:=AS.1;clear pO AS AP Ig AN F Qu Qw QE C4 O U Q X Ip M eL YG;repeat' (first|refine aG @h52 ?_|(first|apply ah|apply af)<;>intro u)
   refine yh (T:=aQ D) (n:=i) (aZ:=1) (xv:=D) (yv:=A) (vs:=[D]) (vs':=[r2]) (cells:=R2) ef ZX rfl rfl (xM Vc) rfl (by rw[hnD];simp) (λid R b=>by rw[hoD id b,St.aA,if_neg om]) ef Vt (λid b=>(Fp id b).2) (by decide) om (λs6 j6 b1 b4 b5 b6=>?_);have hg26:s6.get 2=some (.cells .mut [.int .i64 B.L, .int .i64 0, .aE j4 0 (i+1) 1,A]):=(b6 2 om (FR.out.2.2.2.2.1 2 om).2.1 (FR.out.2.2.2.2.1 2 om).2.2.2).trans h52;clear h52 Y Vt Vc hoD hnD Fp;have dO:=dO;repeat' (first|refine aG (aj @hg26 @dO) ?_|(first|apply ah|apply af)<;>intro u)
   obtain⟨a4,a6,-⟩:=hA.out;obtain⟨pO,AP,Fp,AN,F,Ip,Ih,M,eL,vI⟩:=FR.out;obtain⟨-,AS,-,-,-,-,-,-,-,C4,O,U,Q,X⟩:=DQ.out;obtain⟨YG,-,-⟩:=MO.out;have h73:∀ id,id<d.n->id≠2->¬ aQ J id->¬ aQ C id->¬ aQ A id->¬ aQ D id->s6.get id=d.get id:=λid h1 h2 h3 h4 h5 h6=>(b6 id om h5 h6).trans (M id h1 h2 h3 h4);have hj4l:=a4.lt (aI.2 rfl);have hj6l:=b4.lt (aI.2 rfl);have hlR1:R1.length=i:=by have:=a4.1;simp at this;omega
   have hlR2:R2.length=i:=by omega
   have hBO:Bx (BO B most (i+1) g (s6.put 2 (.cells .mut [.int .i64 B.L, .int .i64 0, .aE j4 0 (i+1) 1, .aE j6 0 (i+1) 1])) rx (.aE j4 0 (i+1) 1) (.aE j6 0 (i+1) 1)):=⟨by
    refine⟨?_,by rw[St.az,if_pos rfl],by rw[St.eo];omega,QX,?_,?_,?_,λid b=>?_,λid b=>?_,yU.out.1,λk hk=>?_⟩
    ·rw[St.az,if_neg om,h73 0 om om (F 0 om).1 (F 0 om).2.2.1 (F 0 om).2.1 (F 0 om).2.2.2];exact AP
    ·rw[<- YG];refine ko.out.zm.keep (by rw[St.eo];omega) ?_;rw[St.az,if_neg om];exact h73 g hjxl QX.2 AN.1 AN.2.2.1 AN.2.1 AN.2.2.2
    ·refine eH.app O U hlR1 C4 (ek.mono a4 (by rw[St.eo];omega) λid b=>?_);have R:=aI.1 b;subst R;rw[St.az,if_neg om,b6 id om (λh=>by have:=yP id h;omega) (λh=>by have:=Ih id h;omega)];exact eL id om
    ·refine eH.app Q X hlR2 Ip (ek.mono b4 (by rw[St.eo];omega) λid b=>?_);have R:=aI.1 b;subst R;rw[St.az,if_neg om]
    ·have R:=aI.1 b;subst R;exact⟨by omega,by omega,λh=>by have:=aI.1 h;omega⟩
    ·have R:=aI.1 b;subst R;exact⟨by omega,by omega⟩
    ·by_cases h:k<=i
     ·exact Di.out.le k h
     ·rw[show k=i+1 by omega];exact MO.out.2.1⟩
   refine⟨most+1 - (i+1),by omega,i+1,g,rx,_,_,rfl,hBO.out,?_⟩;rw[<- YG];simp only[lk,Nat.reduceEqDiff,if_false,if_true,dO,e1,e2,e4,e6,e7,and_self]
 ·have Db:=sq_le (B:=B) E.ok;have mF:Bx (Fits B most i):=⟨⟨by omega,E.ok,E.le⟩⟩;have h0:=E.g0;have h2:=E.g2;have jk:=E.n2;obtain⟨R1,S,O,U⟩:=E.r1;obtain⟨R2,V,Q,X⟩:=E.r2;have F:Bx ((∀ id,aQ J id->2<id)/\∀ id,aQ A id->2<id):=⟨⟨λid b=>(E.u1 id b).1,λid b=>(E.u2 id b).1⟩⟩;have xJ:=Bx.mk (And.intro S (And.intro O (And.intro U (And.intro V (And.intro Q X)))));have UF:=S.cell;have UE:=V.cell;clear E S O U V Q X Db;repeat' (first|refine aH (aj @h2 @h0) ?_|(first|apply ah|apply af)<;>intro u)
  refine⟨.inr trivial,_,iL.out _ _ _ _ ef (by rw[St.az,if_pos rfl]) rfl ef,?_⟩;have hF:=mF.out;obtain⟨S,O,U,V,Q,X⟩:=xJ.out;have Z:0<i:=by
   rcases Nat.eq_zero_or_pos i with h | h
   ·subst h;exact absurd hF.1 (by show ¬ (0:Nat)=1;omega)
   ·exact h
  have eu:i<=most:=by have:=hF.2.2 i (Nat.le_refl _);have:=hF.1;omega
  have l1:R1.length=i:=by have:=S.1;omega
  have l2:R2.length=i:=by have:=V.1;omega
  obtain⟨j1,rfl,tI,lI⟩:=S.pos Z;obtain⟨j2,rfl,rP,Ag⟩:=V.pos Z;have h31:=F.out.1 j1 (aI.2 rfl);have h32:=F.out.2 j2 (aI.2 rfl);obtain⟨s2,hf⟩:=KU (s:=s.put 0 (.cells .mut [.int .i64 B.L, .int .i64 0, .aE j1 0 i 1, .aE j2 0 i 1])) (j1:=j1) (j2:=j2) (R1:=R1) (R2:=R2) (n:=i) (L:=B.L) (er:=.int .i64 0) (by rw[St.az,if_neg om];exact lI) (by rw[St.az,if_neg om];exact Ag) l1 l2 O Q rfl;exact⟨_,s2,hf,by simp[LV.closed,LV.closed.au,O,Q], .inl ⟨i,_,_,R1,R2,rfl,hF,xo l1 om U,xo l2 om X⟩⟩
end Go.Proofs.YtkbiecjdcjfhaaaGreat
end
