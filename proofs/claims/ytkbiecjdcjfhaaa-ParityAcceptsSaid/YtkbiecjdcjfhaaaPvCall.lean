/- A function called: from its body's plain form. -/
import Derived.Test.YtkbiecjdcjfhaaaPvDraw0
import Derived.RangeFuncRecord
import Derived.RangeFuncIn
import Derived.Test.YtkbiecjdcjfhaaaPvComp
set_option linter.unusedSimpArgs false
set_option linter.unusedVariables false
set_option maxRecDepth 100000
set_option maxHeartbeats 16000000
section
namespace Go.Pv
open Go Go.RowKit
def ER:List LV->Nat->Env->Env
 | [],_,e=>e
 | v::r,i,e=>ER r (i+1) (Tr.set e i v)
def eV (l:List LV):Env:=ER l 0 .nil
theorem P0:∀ (l:List LV) (i:Nat) (e:Env) (t:Nat),(ER l i e).at t=if i<=t/\t<i+l.length then l.getD (t - i) .top else e.at t:=by
 intro l;induction l with
 | nil=>intro i e t;simp[ER];omega
 | cons v l ih=>
   intro i e t;rw[ER,ih,Env.qg];simp only[List.length_cons];by_cases h1:t=i
   ·subst h1;rw[if_neg om,if_pos rfl,if_pos om];simp
   ·by_cases h2:i+1<=t/\t<i+1+l.length
    ·rw[if_pos h2,if_pos om];obtain⟨j,b⟩:∃ j,t - i=j+1:=⟨t - i - 1,by omega⟩;rw[b,List.getD_cons_succ];congr 1;omega
    ·rw[if_neg h2,if_neg h1,if_neg om]
theorem bM (l:List LV) (t:Nat):(eV l).at t=l.getD t .top:=by
 unfold eV;rw[P0];by_cases h:t<l.length
 ·rw[if_pos om];simp
 ·rw[if_neg om,Env.Ya,gD,List.getElem?_eq_none om];rfl
def bO (e:Env) (s:St):HB->Option LV
 | .tmp t=>some (e.at t)
 | .cell t n=>
   match e.at t with
   | .aX cs off=>aT n cs off
   | .aH id off=>match s.get id with | some (.cells _ cs)=>aT n cs off | _=>none
   | _=>none
def br (rs:List HB) (e:Env) (s:St):Option LV:=
 match rs.mapM (bO e s) with
 | some [v]=>some v
 | some vs=>some (.cy vs)
 | none=>none
section
variable {P:Program}{G:bG}{w0:Bs}{μ:Mu}{ι:Io}{δ lI:Nat->Prop}{s:St}{w:World}{nt:Nat}{e:Env}{a:Act}
theorem RE {c:Ctx}(y:c.P=P) {r:ResultVar}{p:HB}(d:ue c r=some p) (f:Fr P G w0 μ ι δ s w nt e a) {v:LV}(h:bO e s p=some v) :
 ∃ x,(match r with | .tmp t=>pure (a.tmps.getD t undef) | .cell b t=>(do loadVar t (<- asAddr (a.tmps.getD b undef))):Sem Value).run P w = .ok x w/\Rv μ ι w v x:=by
 cases r with
 | tmp t=>
   cases d;cases h;exact⟨_,by simp,f.re t⟩
 | cell b t=>
   simp only[ue]at d;obtain⟨n,g,d⟩:=bind_some d;cases d;rw[y]at g;simp only[bO]at h;have j:=f.re b;generalize e.at b=lv at j h;generalize q:a.tmps.getD b undef=D at j;cases j<;>simp only[reduceCtorEq]at h
   ·rename_i vs z k E A;obtain⟨u,l,o⟩:=mc (w:=w) g (λi k=>⟨_,z i k,A i k⟩) h;refine⟨u,?_,o⟩;dsimp only;rw[q];simp only[asAddr,Sem.run_bind,Sem.run_pure,Result.andThen_ok,l]
   ·rename_i B;split at h
    ·rename_i m cs C;obtain⟨u,l,o⟩:=mc (w:=w) g (f.now.inv.Jl C B) h;refine⟨u,?_,o⟩;dsimp only;rw[q];simp only[asAddr,Sem.run_bind,Sem.run_pure,Result.andThen_ok,l]
    ·cases h
theorem Dk {c:Ctx}(j:c.P=P) (k:Fr P G w0 μ ι δ s w nt e a):∀ {rs:List ResultVar}{d:List HB}{vs:List LV},rs.mapM (ue c)=some d->d.mapM (bO e s)=some vs ->
 ∃ xs,(rs.mapM (λr=>(match r with | .tmp t=>pure (a.tmps.getD t undef) | .cell b t=>(do loadVar t (<- asAddr (a.tmps.getD b undef))):Sem Value))).run P w = .ok xs w/\Rs μ ι w vs xs:=by
 intro rs;induction rs with
 | nil=>
   intro d vs h1 h2;simp at h1;subst h1;simp at h2;subst h2;exact⟨[],by simp,rfl,λi f=>absurd f (Nat.not_lt_zero _)⟩
 | cons r rs ih=>
   intro d vs h1 h2;rw[List.mapM_cons]at h1;obtain⟨y,g,h1⟩:=bind_some h1;obtain⟨h,l,h1⟩:=bind_some h1;cases h1;rw[List.mapM_cons]at h2;obtain⟨v,m,h2⟩:=bind_some h2;obtain⟨n,o,h2⟩:=bind_some h2;cases h2;obtain⟨x,hx,p⟩:=RE j g k m;obtain⟨xs,q,hl,u⟩:=ih l o;refine⟨x::xs,?_,by simp[hl],λi f=>?_⟩
   ·rw[List.mapM_cons];simp only[Sem.run_bind,hx,q,Result.andThen_ok,Sem.run_pure]
   ·cases i with
    | zero=>simpa using p
    | succ i=>simpa using u i (by simpa using f)
theorem HX {c:Ctx}(g:c.P=P) {fn:Func}{j:List HB}(h1:fn.results.toList.mapM (ue c)=some j) (k:Fr P G w0 μ ι δ s w nt e a) {v:LV}(h:br j e s=some v) :
 ∃ x,(results fn a.tmps).run P w = .ok x w/\Rv μ ι w v x:=by
 unfold br at h;have l:∀ xs:List Value,(fn.results.toList.mapM (λr=>(match r with | .tmp t=>pure (a.tmps.getD t undef) | .cell b t=>(do loadVar t (<- asAddr (a.tmps.getD b undef))):Sem Value))).run P w = .ok xs w ->
  (results fn a.tmps).run P w = .ok (if h:xs.toArray.size=1 then xs.toArray[0] else .tuple xs.toArray) w:=by
  intro xs d;unfold results;rw[Array.mapM_eq_mapM_toList];simp only[Sem.run_bind,map_eq_pure_bind,Sem.run_pure,bind_assoc,pure_bind];exact congrArg (λr=>Result.andThen r (λ(a:List Value) w'=>(Result.ok (if h:a.toArray.size=1 then a.toArray[0] else Value.tuple a.toArray) w':Result Value))) d
 split at h
 ·rename_i u hm;cases h;obtain⟨xs,d,hl,f⟩:=Dk g k h1 hm;match xs,hl with
  | [x],_=>exact⟨x,by have:=l _ d;simpa using this,by simpa using f 0 (by simp)⟩
 ·rename_i vs dH hm;cases h;obtain⟨xs,d,hl,f⟩:=Dk g k h1 hm;have m:xs.toArray.size≠1:=by
   intro h1;match vs,dH,hl with
   | [],_,hl=>simp[hl]at h1
   | [u],dH,_=>exact dH u rfl
   | u::u'::r,_,hl=>simp[hl]at h1
  refine⟨.tuple xs.toArray,?_, .cy (by simpa using hl) (λi n=>?_)⟩
  ·have:=l _ d;rw[this,dif_neg m]
  ·have:=f i n;simpa[gD,gF] using this
 ·cases h
theorem Inv.shut {g:Nat->bp->Code->Prop}(I:Inv g w0 μ ι lI s w) {r:Nat}(z:lI r) (A:∀ x,δ x->lI x/\x≠r) :
 Inv g w0 μ ι δ s (w.putObj r (.deferred none))/\Ext μ ι δ w μ ι δ (w.putObj r (.deferred none)):=by
 obtain⟨h1,h2⟩:=I.defers r z;have i:∀ k,k≠r->(w.putObj r (.deferred none)).heap[k]? = w.heap[k]? := λk l=>World.putObj_heap_other l;have u:∀ b o v,w.cell? ⟨b,o,none⟩=some v->b≠r:=by
  rintro b o v d rfl;simp[World.cell?,h2]at d
 have n:∀ b o,ι b o->(w.putObj r (.deferred none)).cell? ⟨b,o,none⟩=w.cell? ⟨b,o,none⟩:=λb o f=>by
  obtain⟨v,d⟩:=I.io b o f;exact gq (i b (u b o v d))
 refine⟨⟨⟨I.below.os,I.below.tape,I.below.output,by rw[World.putObj_size];exact I.below.size,λk l=>by rw[i k om];exact I.below.block k l⟩,
  λid p q=>by rw[World.putObj_size];exact I.nX id p q,λb o f=>by obtain⟨v,d⟩:=I.io b o f;exact⟨v,(n b o f).trans d⟩,λid b p t q=>?_,I.sep,λx hx=>?_,I.low,λb o f t=>(I.own b o f t).heap (i b (by obtain⟨v,d⟩:=I.io b o f;exact u b o v d))⟩,
  ⟨λ_ _ h=>h,λ_ _ h=>h,n,by rw[World.putObj_size];exact Nat.le_refl _,λ_ h=>h⟩⟩
 ·have j:=I.dD id b p t q;have dH:p.b≠r:=by
   rintro rfl;cases b with
   | cells m cs=>obtain⟨⟨x,h0⟩,_⟩:=j;simp[World.shape?,h2]at h0
   | loop st F B ps as H=>obtain⟨L,c,_⟩:=j;rw[h2]at c;cases c
   | map K=>obtain⟨C,c,_⟩:=j;rw[h2]at c;cases c
   | iter m M seen y=>obtain⟨_,N,c,_⟩:=j;rw[h2]at c;cases c
  exact j.mono (λ_ _ h=>h) (λ_ _ h=>h) n (i _ dH) (λ_ _ h=>h)
 ·obtain⟨D,E⟩:=A x hx;obtain⟨a,b⟩:=I.defers x D;exact⟨a,by rw[i x E];exact b⟩
theorem sQ {f:Nat->bp->Code->Prop}{fr:Frame}{cs:List Frame}(hm:fr.mode = .returning):∀ (rs:List Nat) (lI:Nat->Prop) (w:World),rs.Nodup->(∀ r∈rs,¬ δ r)->(∀ r,lI r↔δ r∨r∈rs)->Inv f w0 μ ι lI s w ->
 ∃ w',Steps P (lone { fr with defers:=rs.map mark } cs w) (lone { fr with defers:=[] } cs w')/\Inv f w0 μ ι δ s w'/\Ext μ ι δ w μ ι δ w':=by
 intro rs;induction rs with
 | nil=>
   intro lI w _ _ g I;have:lI=δ:=funext λr=>by simpa using g r
   subst this;exact⟨w, .refl _ _,I,Ext.refl _ _ _ _⟩
 | cons r rs ih=>
   intro lI w m i g I;obtain⟨n,p⟩:=List.nodup_cons.1 m;have c:lI r:=(g r).2 (.inr (by simp));obtain⟨q,j⟩:=I.shut (δ:=λx=>δ x∨x∈rs) c (λx hx=>⟨(g x).2 (hx.imp id (List.mem_cons_of_mem _)),by
    rintro rfl;rcases hx with hx | hx
    ·exact i _ (by simp) hx
    ·exact n hx⟩)
   have t:=step_collected (P:=P) (fr:={ fr with defers:=(r::rs).map mark }) (cs:=cs) (w:=w) (d:=mark r) (r:=r) (ds:=rs.map mark) (by simp[hm]) rfl rfl (run_takeDeferred (I.defers r c).2);obtain⟨w',hs,u,k⟩:=ih (λx=>δ x∨x∈rs) _ p (λx hx=>i x (List.mem_cons_of_mem _ hx)) (λ_=>Iff.rfl) q;refine⟨w', .head t hs,u,⟨λ_ _ h=>h,λ_ _ h=>h,λb o l=>(k.cell b o l).trans (j.cell b o l),Nat.le_trans j.size k.size,λ_ h=>h⟩⟩
theorem pQ (f:Fn) (first caps args:Array Value) (P:Program) (w:World):(Deferred.ofValue (.func f first caps) args).run P w = .ok { target:=.fn f caps,args:=first++args } w:=by
 simp[Deferred.ofValue]
theorem bL {refs : List Nat}{f : FuncId}{fn : Func}{lf : aZ}{first caps args : List LV}{Q : LV -> St -> Prop}(hf : P.funcs[f]? = some fn) (hn : (fn.name == "runtime.NumGoroutine") = false)
 (hc:aF P G refs fn=some lf) (hlen:(first++args++caps).length<=lf.ntmps)
 (h:aQ P G false lf.ntmps lf.body (eV (first++args++caps)) s (λo e s'=>(o = .normal∨o = .jmp .ret)/\∃ v,br lf.results e s'=some v/\Q v s')):aJ P G (.fn (.func f) first caps) args s Q:=by
 intro w0 μ ι δ w vf cp c cs hN GF lS x5;unfold aF at hc;obtain⟨body,vO,hc⟩:=bind_some hc;obtain⟨Ss,OJ,hc⟩:=bind_some hc;cases hc;cases GF with
 | fn hl nT hr uT =>
   rename_i va vb;have hinv:(invoke (.fn (.func f) vb) (va++cp)).run P w = .ok (.enter f (va++cp++vb)) w:=by
    have iE : ¬ fn.name = "runtime.NumGoroutine" := by simpa using hn
    simp[invoke,callFunc,hf,iE,vO]
   have kz:(va++cp++vb).size=(first++args++caps).length:=by simp[hl,nT,lS]
   let b:Frame:={ (default:Frame) with fn:=f,kind:=.normal,roundOf:=none };let a:Act:={ tmps:=(va++cp++vb)++Array.replicate (fn.ntmps - (va++cp++vb).size) undef,defers:=[] };have og:Frame.enter P f (va++cp++vb) .normal=b.atR a [.code body]:=by
    simp[Frame.enter,Frame.atR,hf,vO,a,b]
   have I9:∀ i,i<(first++args++caps).length->Rv μ ι w ((first++args++caps).getD i .top) ((va++cp++vb).getD i undef):=by
    intro i hi;simp only[gD,gF];by_cases h1:i<first.length
    ·rw[List.append_assoc,List.getElem?_append_left h1,Array.append_assoc,Array.getElem?_append_left om];have:=hr i h1;simpa[gD,gF] using this
    ·by_cases h2:i<first.length+args.length
     ·rw[List.append_assoc,List.getElem?_append_right om,List.getElem?_append_left om,Array.append_assoc,Array.getElem?_append_right om,Array.getElem?_append_left om,hl];have:=x5 (i - first.length) om;simpa[gD,gF] using this
     ·have dc:i<first.length+args.length+caps.length:=by simpa[Nat.add_assoc] using hi
      rw[List.getElem?_append_right (by simp;omega),Array.getElem?_append_right (by simp;omega)];have:=uT (i - (first.length+args.length)) om;simpa[gD,gF,hl,lS] using this
   have hF:Fr P G w0 μ ι δ s w fn.ntmps (eV (first++args++caps)) a:=by
    refine⟨hN,λt=>?_,by simp only[a,Array.size_append,Array.size_replicate]at kz ⊢;simp only at hlen;omega⟩;rw[bM];by_cases ht:t<(first++args++caps).length
    ·have:=I9 t ht;have hx:a.tmps.getD t undef=(va++cp++vb).getD t undef:=by
      simp only[a,gF];rw[Array.getElem?_append_left om]
     rw[hx];exact this
    ·rw[gD,List.getElem?_eq_none om];exact .top _
   have hD:=λw=>pQ (.func f) va vb cp P w;obtain⟨o,e',s',bT,bW,lI,w1,a',⟨ho,v,hv,q⟩,ja,TC,hW⟩:=h body ⟨refs,rfl⟩ w0 μ ι δ w b a [] (c::cs) rfl hF;have kH:∃ todo,Steps P (lone (b.atR a [.code body]) (c::cs) w) (lone { b.atR a' todo with mode:=.returning } (c::cs) w1):=by
    rcases ho with rfl | rfl
    ·exact⟨[],Steps.trans ja (.one (stepR_end rfl))⟩
    ·obtain⟨k',ja⟩:=ja;exact⟨_,Steps.trans ja (.one (stepR_ret rfl))⟩
   obtain⟨todo,oN⟩:=kH;obtain⟨rs,hd,gK,W1,Wt⟩:=hW.marks;obtain⟨w2,B9,I2,x2⟩:=sQ (P:=P) (fr:={ b.atR a' todo with mode:=.returning }) (cs:=c::cs) rfl rs lI w1 gK W1 Wt TC.now.inv;have Xm:{ b.atR a' todo with mode:=FrameMode.returning } = { ({ b.atR a' todo with mode:=FrameMode.returning } : Frame) with defers:=rs.map mark } := by
    have:a'.defers=rs.map mark:=by rw[hd];simp[a]
    simp[Frame.atR,this]
   rw[Xm]at oN;have hx:Ext μ ι δ w bT bW δ w2:=⟨hW.ext.mu,hW.ext.io,λb o hi=>(x2.cell b o (hW.ext.io b o hi)).trans (hW.ext.cell b o hi),Nat.le_trans hW.ext.size x2.size,λ_ h=>h⟩;have Fz:Fr P G w0 bT bW δ s' w2 fn.ntmps e' a':=⟨hN.ext I2 hx,λt=>(TC.re t).mono x2.cell (λ_ _ h=>h) (λ_ _ h=>h),TC.size⟩;obtain⟨x,o7,mY⟩:=HX (c:=⟨P,G,refs,fn.ntmps⟩) rfl OJ Fz hv;refine⟨v,s',bT,bW,w2,x,q,⟨_,_,_,hD,hinv,?_⟩,I2,hx,hW.kept,mY⟩;show Steps P (lone (Frame.enter P f (va++cp++vb) .normal) (c::cs) w) (lone (c.finish x) cs w2);rw[og];refine Steps.trans oN (Steps.trans B9 (.one (step_leave_returned ?_)));exact⟨rfl,rfl,rfl,fn,hf,o7⟩
end
def vq:List Nat->List LV->Env->Env
 | p::ps,v::vs,e=>vq ps vs (Tr.set e p v)
 | _,_,e=>e
section
variable {P:Program}{G:bG}{w0:Bs}{μ bT:Mu}{ι bW:Io}{δ lI:Nat->Prop}{s s':St}{w w':World}{nt:Nat}{e:Env}{a:Act}{rd:Bool}
theorem Inv.less {b:Nat->bp->Code->Prop}(I:Inv b w0 μ ι lI s w) (h:∀ r,δ r->lI r):Inv b w0 μ ι δ s w:=
 ⟨I.below,I.nX,I.io,I.dD,I.sep,λr c=>I.defers r (h r c),I.low,I.own⟩
theorem Inv.FY {r:Nat->bp->Code->Prop}(I:Inv r w0 μ ι δ s w) {id:Nat}{p:Place}{st st':LoopState}{K fR:Option CH}{c:Env}{ps:List Nat}{as B:bp}{L:Loop}
 (u:s.get id=some (.loop st K c ps as B)) (g:μ id=some p) (C:w.heap[p.b]? = some (.loop L)) :
 Inv r w0 μ ι δ (s.put id (.loop st' fR c ps as B)) (w.putObj p.b (.loop { L with state:=st',pending:=fR.map CH.code })) /\
  Ext μ ι δ w μ ι δ (w.putObj p.b (.loop { L with state:=st',pending:=fR.map CH.code })):=by
 obtain⟨L',M,h1,h2,h3,V,X,h6,Y⟩:=I.dD id _ p u g;rw[C]at M;cases M;have N:=I.nX id p g;have y:∀ k,k≠p.b->(w.putObj p.b (.loop { L with state:=st',pending:=fR.map CH.code })).heap[k]? = w.heap[k]? := λk H=>World.putObj_heap_other H;have O:∀ b o v,w.cell? ⟨b,o,none⟩=some v->b≠p.b:=by
  rintro b o v l rfl;simp[World.cell?,C]at l
 have D:∀ b o,ι b o->(w.putObj p.b (.loop { L with state:=st',pending:=fR.map CH.code })).cell? ⟨b,o,none⟩=w.cell? ⟨b,o,none⟩:=λb o n=>by
  obtain⟨v,l⟩:=I.io b o n;exact gq (y b (O b o v l))
 have Z:p.b<w.heap.size:=N.2.2;refine⟨⟨⟨I.below.os,I.below.tape,I.below.output,by rw[World.putObj_size];exact I.below.size,λk H=>by rw[y k (by have:=N.2.1;omega)];exact I.below.block k H⟩,
  λid p g=>by rw[World.putObj_size];exact I.nX id p g,λb o n=>by obtain⟨v,l⟩:=I.io b o n;exact⟨v,(D b o n).trans l⟩,λE b q d z=>?_,?_,λx hx=>?_,I.low,λb o n d=>(I.own b o n d).heap (y b (by obtain⟨v,l⟩:=I.io b o n;exact O b o v l))⟩,
  ⟨λ_ _ h=>h,λ_ _ h=>h,D,by rw[World.putObj_size];exact Nat.le_refl _,λ_ h=>h⟩⟩
 ·rw[St.ah]at d;split at d
  ·rename_i A;subst A;cases d;obtain rfl:p=q:=Option.some.inj (g.symm.trans z);exact⟨_,World.putObj_heap_same Z,rfl,rfl,λt=>(h3 t).mono D (λ_ _ h=>h) (λ_ _ h=>h),V,X,h6,Y⟩
  ·rename_i A;have Q:=I.dD E b q d z;have dH:q.b≠p.b:=by
    intro F;cases b with
    | cells m cs=>obtain⟨⟨x,h0⟩,_⟩:=Q;rw[F]at h0;simp[World.shape?,C]at h0
    | loop st K c ps as B=>exact A (I.sep E id _ _ q p d u rfl rfl z g F)
    | map es=>exact A (I.sep E id _ _ q p d u rfl rfl z g F)
    | iter m n0 seen R=>exact A (I.sep E id _ _ q p d u rfl rfl z g F)
   exact Q.mono (λ_ _ h=>h) (λ_ _ h=>h) D (y _ dH) (λ_ _ h=>h)
 ·intro i j b1 b2 p1 p2 g1 g2 o1 o2 m1 m2 e;rw[St.ah]at g1 g2;have f:∀ {k:Nat}{b:iC},(if k=id then some (iC.loop st' fR c ps as B) else s.get k)=some b->b.owns=true->∃ U,s.get k=some U/\U.owns=true:=by
   intro k b h ho;split at h
   ·rename_i e;subst e;exact⟨_,u,rfl⟩
   ·exact⟨b,h,ho⟩
  obtain⟨c1,k1,l1⟩:=f g1 o1;obtain⟨c2,k2,l2⟩:=f g2 o2;exact I.sep i j c1 c2 p1 p2 k1 k2 l1 l2 m1 m2 e
 ·obtain⟨a,b⟩:=I.defers x hx;refine⟨a,?_⟩;rw[y x ?_]
  ·exact b
  ·rintro rfl;rw[C]at b;cases b
theorem JQ:∀ (ps:List Nat) (vs:List LV) (xs:List Value) (e:Env) (tmps:Array Value),vs.length=ps.length->xs.length=ps.length->(∀ i∈ps,i<tmps.size)->(∀ i,i<vs.length->Rv μ ι w (vs.getD i .top) (xs.getD i undef))->Re μ ι w e tmps ->
 Re μ ι w (vq ps vs e) ((ps.zip xs).foldl (λtmps (t,a)=>tmps.setIfInBounds t a) tmps)/\((ps.zip xs).foldl (λtmps (t,a)=>tmps.setIfInBounds t a) tmps).size=tmps.size:=by
 intro ps;induction ps with
 | nil=>intro vs xs e tmps h1 h2 h3 b c;simp[vq];exact c
 | cons p ps ih=>
   intro vs xs e tmps h1 h2 h3 b c;match vs,xs,h1,h2 with
   | v :: vs, x :: xs, h1, h2 =>
     simp only[vq,List.zip_cons_cons,List.foldl_cons];have h0:Re μ ι w (Tr.set e p v) (tmps.setIfInBounds p x):=by
      have:=Re.put (a:={ tmps:=tmps,defers:=[] }) (d:=some p) c (λt g=>by cases g;exact h3 p (by simp)) (by simpa using b 0 (by simp));exact this
     obtain⟨r1,r2⟩:=ih vs xs (Tr.set e p v) (tmps.setIfInBounds p x) (by simpa using h1) (by simpa using h2) (λi f=>by simp;exact h3 i (List.mem_cons_of_mem _ f)) (λi f=>by simpa using b (i+1) (by simpa using f)) h0;exact⟨r1,by rw[r2];simp⟩
def Round (id:Nat) (Q:LV->St->Prop):Out->Env->St->Prop
 | .normal,_,s=>∃ st d b ps as c,s.get id=some (.loop st d b ps as c)/\Q (.bool true) (s.put id (.loop .ready none b ps as c))
 | .jmp j,_,s=>∃ st d b ps as c,s.get id=some (.loop st d b ps as c)/\Q (.bool false) (s.put id (.loop .done (some j) b ps as c))
theorem yS {id:Nat}{d:Env}{ps:List Nat}{as x:bp}{n:Option CH}{args:List LV}{Q:LV->St->Prop}(hg:s.get id=some (.loop .ready n d ps as x)) (hl:args.length=ps.length)
 (h:∀ nt,aQ P G true nt as (vq ps args d) s (zi (λR q=>∃ n d ps Z Me,q.get id=some (.loop .ready n d ps Z Me) /\
  aQ P G true nt x R (q.put id (.loop .busy n d ps Z Me)) (Round id Q)) (λ_ _ _=>False))):aJ P G (.qp id) args s Q:=by
 intro w0 μ ι δ w vf y c cs hN GF lS x5;cases GF with
 | qp hp=>
   rename_i p;obtain⟨L,hL,h1,h2,h3,h4,h5,h6,h7⟩:=hN.inv.dD id _ p hg hp;have Wv:=run_yield (P:=P) (args:=y) hL (by rw[h5,lS,hl];simp);let b:Frame:={ (default:Frame) with fn:=L.fn,kind:=.normal,roundOf:=some p.b };let l:=(L.params.zip y).foldl (λtmps (t,a)=>tmps.setIfInBounds t a) L.tmps;have og:Frame.round p.b L.fn l L.assign L.body .normal=b.atR { tmps:=l,defers:=[] } [.code L.assign, .beginRound, .code L.body]:=by
    simp[Frame.round,Frame.atR,b]
   have U:l=(ps.zip y.toList).foldl (λtmps (t,a)=>tmps.setIfInBounds t a) L.tmps:=by
    simp only[l,h5];rw[<- Array.foldl_toList,Array.toList_zip]
   obtain⟨YC,kz⟩:=JQ (μ:=μ) (ι:=ι) (w:=w) ps args y.toList d L.tmps hl (by simpa[lS] using hl) h4 (λi hi=>by
    have:=x5 i hi;simpa[gD,gF] using this) h3
   rw[<- U]at YC kz;have hF:Fr P G w0 μ ι δ s w L.tmps.size (vq ps args d) { tmps:=l,defers:=[] } := ⟨hN,YC,kz⟩;obtain⟨o,R,q,K,jS,pn,z,a1,u,ja,A,f⟩:=h L.tmps.size L.assign h6 w0 μ ι δ w b _ [.beginRound, .code L.body] (c::cs) rfl hF;cases o with
   | jmp j=>exact u.elim
   | normal=>
     obtain⟨V,TQ,B,C,D,nU,vO⟩:=u;have M:=f.ext.mu id p hp;obtain⟨N,E,k1,k2,k3,k4,k5,k6,k7⟩:=A.now.inv.dD id _ p nU M;obtain⟨I2,O⟩:=A.now.inv.FY (st':=.busy) (fR:=V) nU M E;rw[<- k2]at I2 O;have X:(Instr.beginRound p.b).run P z = .ok () (z.putObj p.b (.loop { N with state:=.busy })):=run_beginRound E k1;have Fz:Fr P G w0 K jS pn (q.put id (.loop .busy V TQ B C D)) (z.putObj p.b (.loop { N with state:=.busy })) L.tmps.size R a1:=⟨A.now.ext I2 O,A.re.ext O,A.size⟩;obtain⟨o,e3,s3,Rf,Mh,F,w3,a3,u,m,XK,g⟩:=vO L.body h7 w0 K jS pn _ b a1 [] (c::cs) rfl Fz;have Y:=g.ext.mu id p M;have GQ:Kept K q K (q.put id (.loop .busy V TQ B C D)):=Kept.put M _;have Wt:∀ r,δ r->F r:=λr hr=>g.ext.de r (f.ext.de r hr);have H:Steps P (lone (Frame.round p.b L.fn l L.assign L.body .normal) (c::cs) w) (lone (b.atR a1 [.code L.body]) (c::cs) (z.putObj p.b (.loop { N with state:=.busy }))):=by
      rw[og];exact Steps.trans ja (.one (stepR_beginRound rfl X))
     have fin:∀ (j:Option CH),(∃ st n d ps as x,s3.get id=some (.loop st n d ps as x)/\Q (.bool j.isNone) (s3.put id (.loop (if j.isNone then .ready else .done) j d ps as x))) ->
      (∀ v w',(Instr.endRound p.b (j.map CH.code)).run P w3 = .ok v w'->Steps P (lone (b.atR a1 [.code L.body]) (c::cs) (z.putObj p.b (.loop { N with state:=.busy }))) (lone (c.finish v) cs w')) ->
      ∃ lv s' bT bW w' v,Q lv s'/\Yf P (.func (.yield p.b) #[] #[]) y w c cs v w'/\Inv (rq P G) w0 bT bW δ s' w'/\Ext μ ι δ w bT bW δ w'/\Kept μ s bT s'/\Rv bT bW w' lv v:=by
      intro j Ft dO;obtain⟨st,pd,He,Wa,Yb,X8,wz,hQ⟩:=Ft;obtain⟨L3,I,m1,m2,m3,m4,m5,m6,m7⟩:=XK.now.inv.dD id _ p wz Y;obtain⟨I4,x4⟩:=XK.now.inv.FY (st':=if j.isNone then .ready else .done) (fR:=j) wz Y I;have k:=run_endRound (P:=P) (j.map CH.code) I;have hj:(j.map CH.code).isNone=j.isNone:=by cases j<;>rfl
      rw[hj]at k;have hx:Ext μ ι δ w Rf Mh F (w3.putObj p.b (.loop { L3 with state:=if j.isNone then .ready else .done,pending:=j.map CH.code })):=((f.ext.trans O).trans g.ext).trans x4;refine⟨_,_,Rf,Mh,_,_,hQ,⟨_, .round p.b L.fn l L.assign L.body,w,λw=>pQ _ _ _ _ P w,?_,?_⟩,I4.less Wt,⟨hx.mu,hx.io,hx.cell,hx.size,λ_ h=>h⟩,?_, .bool _⟩
      ·simp only[invoke,Array.empty_append];exact Wv
      ·exact Steps.trans H (dO _ _ k)
      ·exact ((f.kept.trans GQ).trans g.kept).trans (Kept.put Y _)
     rcases o with _ | _ | jW
     ·exact fin none u λv w' k=>Steps.trans m (.one (stepR_round_end rfl rfl k))
     ·obtain⟨k',m⟩:=m;exact fin (some .ret) u λv w' k=>Steps.trans m (.one (stepR_round_ret rfl rfl k))
     ·obtain⟨k',hk,m⟩:=m;exact fin (some (.exit jW)) u λv w' k=>Steps.trans m (.one (stepR_round_exit rfl rfl hk k))
theorem yH {c:Ctx}{x:Code}{y:bz}{ps:List Nat}{as b:bp}(h:bh c x = .rangeFunc y ps as b):∃ g d p q,x = .rangeFunc g d p q/\cB c g=some y/\d.toList=ps/\(∀ i∈ps,i<c.nt)/\bh c p=as/\bh c q=b:=by
 cases x<;>simp only[bh,reduceCtorEq]at h
 ·split at h<;>cases h
 ·split at h<;>cases h
 ·split at h
  ·rename_i f;split at h
   ·rename_i j;cases h;exact⟨_,_,_,_,rfl,f,rfl,λi k=>by simpa using List.all_eq_true.1 j i k,rfl,rfl⟩
   ·cases h
  ·cases h
def Qu (id:Nat) (e:Env) (Q:Out->Env->St->Prop) (s:St):Prop:=
 ∃ st d b ps as c,s.get id=some (.loop st d b ps as c)/\st≠.busy/\(match d with | none=>Q .normal e (s.put id (.loop .exhausted none b ps as c)) | some j=>Q (.jmp j) e (s.put id (.loop .exhausted (some j) b ps as c)))
theorem tf {y:bz}{ps:List Nat}{as B:bp}{Q:Out->Env->St->Prop}(h:aJ P G (y.ev e) [.qp s.n] (s.new (.loop .ready none e ps as B)) (λ_ s'=>Qu s.n e Q s')):aQ P G false nt (.rangeFunc y ps as B) e s Q:=by
 rintro c ⟨refs,hc⟩ w0 μ ι δ w b a k cs hb o;obtain⟨g,N,p,q,rfl,hy,R,uU,h1,h2⟩:=yH hc;have zM:b.roundOf=none:=by simpa using hb
 have O0:=run_enterLoop_outer (P:=P) (w:=w) b.fn a.tmps N p q;let x:World:={ w with heap:=w.heap.push (.deferred (some [])) };let L:Loop:={ state:=.ready,pending:=none,fn:=b.fn,tmps:=a.tmps,params:=N,assign:=p,body:=q,defers:=w.heap.size };let f:World:={ x with heap:=x.heap.push (.loop L) };have U:cR w x:=cR.alloc w _;have oN:cR x f:=cR.alloc x _;have hs:cR w f:=U.trans oN;have US:x.heap.size=w.heap.size+1:=by simp[x]
 have LY:f.heap.size=w.heap.size+2:=by simp[f,x]
 have mN:f.heap[w.heap.size]? = some (.deferred (some [])):=by
  rw[oN.block _ (by rw[US];exact Nat.lt_succ_self _)];simp[x]
 have o8:f.heap[w.heap.size+1]? = some (.loop L):=by
  rw[<- US];simp[f]
 have z:=o.now.inv.same hs;have x1:=o.now.inv.eU hs;let u:Nat->Prop:=λr=>δ r∨r∈[w.heap.size];have V:Inv (rq P G) w0 μ ι u s f:=⟨z.below,z.nX,z.io,z.dD,z.sep,λr C=>by
  rcases C with C | C
  ·exact z.defers r C
  ·have:r=w.heap.size:=by simpa using C
   subst this;exact⟨o.now.inv.hB,mN⟩,z.low,z.own⟩
 have CR:Rb (rq P G) μ ι f ⟨w.heap.size+1,0,0⟩ (.loop .ready none e ps as B) :=
  ⟨L,o8,rfl,rfl,o.re.ext x1,λi X=>by have:=uU i X;show i<a.tmps.size;rw[o.size];exact this,by rw[<- R],⟨refs,by show bh ⟨P,G,refs,a.tmps.size⟩ p=as;rw[o.size];exact h1⟩,⟨refs,by show bh ⟨P,G,refs,a.tmps.size⟩ q=B;rw[o.size];exact h2⟩⟩
 obtain⟨I2,x2⟩:=V.qh ⟨w.heap.size+1,0,0⟩ (.loop .ready none e ps as B) (by have:=o.now.inv.hB;show w0.heap.size<=w.heap.size+1;omega) (by show w.heap.size+1<f.heap.size;omega) CR
  (λ_ id b' p' _ _ hm he=>by have:=(o.now.inv.nX id p' hm).2.2;have he':p'.b=w.heap.size+1:=he;omega)
 have D:Ext μ ι δ w (μ.jT s.n ⟨w.heap.size+1,0,0⟩) ι u f:=⟨x2.mu,λ_ _ h=>h,x1.cell,hs.size,λ_ h=>.inl h⟩;have Y:CF P G w0 (μ.jT s.n ⟨w.heap.size+1,0,0⟩) ι u (s.new (.loop .ready none e ps as B)) f:=o.now.ext I2 D;have GQ:Kept μ s (μ.jT s.n ⟨w.heap.size+1,0,0⟩) (s.new (.loop .ready none e ps as B)):=Kept.new _ _;have A:(μ.jT s.n ⟨w.heap.size+1,0,0⟩) s.n=some ⟨w.heap.size+1,0,0⟩:=by simp[Mu.jT]
 have GF:=BO (c:=⟨P,G,refs,nt⟩) rfl rfl o.now hy (λt _=>o.re t);let m:Act:={ a with defers:=mark w.heap.size::a.defers };obtain⟨lv,s3,F,H,I,v,hR,j9,I3,x3,CV,mY⟩:=h w0 _ ι u f (a.eval g) #[.func (.yield (w.heap.size+1)) #[] #[]] (b.atR m (.inRangeFunc (w.heap.size+1)::k)) cs Y (GF.ext D) rfl (λi X=>by
  have GX:i=0:=by simpa using X
  subst GX;exact .qp A)
 obtain⟨st,K,He,Wa,Yb,X8,wz,E,Z⟩:=hR;have IX:=x3.mu _ _ A;obtain⟨O,M,m1,m2,m3,m4,m5,m6,m7⟩:=I3.dD _ _ _ wz IX;obtain⟨I4,x4⟩:=I3.FY (st':=.exhausted) (fR:=K) wz IX M;rw[<- m2]at I4 x4;have Tm:=run_endLoop (P:=P) M (by rw[m1];exact E);obtain⟨d,nx,w2,g1,g2,g3⟩:=j9;have hev:(b.atR m (.inRangeFunc (w.heap.size+1)::k)).eval=a.eval:=by rw[Frame.eval_atR];rfl
 have o7:(resolve a.eval (rangeCall g (w.heap.size+1)) 0).run P f = .ok d f:=by
  have:=g1 f;simpa[resolve,rangeCall,Act.eval] using this
 have iD:(b.atR m (.inRangeFunc (w.heap.size+1)::k)).finish v=b.atR m (.endRangeFunc (w.heap.size+1)::k):=finish_atR_inRangeFunc _ _;have GG:Steps P (lone (b.atR a (.code (.rangeFunc g N p q)::k)) cs w) (lone (b.atR m (.endRangeFunc (w.heap.size+1)::k)) cs I):=by
  have OZ:(Instr.enterLoop b.fn a.tmps N p q b.roundOf).run P w = .ok (w.heap.size+1,[mark w.heap.size]) f:=by rw[zM];exact O0
  have Xo:Frame.eval { fn:=b.fn,tmps:=a.tmps,todo:=.inRangeFunc (w.heap.size+1)::k,defers:=mark w.heap.size::a.defers,mode:=.run,kind:=b.kind,roundOf:=b.roundOf } = a.eval:=hev;have Oz:Sem.run P (resolve a.eval { callee:=.value g,args:=#[.const (.func (.yield (w.heap.size+1)) #[] #[])],argTypes:=#[] } 0) f = .ok d f:=o7;cases nx<;>try (exact g3.elim)
  case value v' =>
   obtain⟨rfl,rfl⟩:=g3;refine .one (step_lone_go ?_);rw[<- iD];simp[stepG,stepG.exec,Frame.atR,Sem.runT_eq,OZ,GStep.bare_after,stepG.apply,Xo,Sem.run_bind,Oz,g2,Result.andThen,m]
  case enter f' w9 =>
   refine .head (m₁:=lone (Frame.enter P f' w9 .normal) (b.atR m (.inRangeFunc (w.heap.size+1)::k)::cs) w2) (step_lone_go ?_) (by rw[<- iD];exact g3);simp[stepG,stepG.exec,Frame.atR,Sem.runT_eq,OZ,GStep.bare_after,stepG.apply,Xo,Sem.run_bind,Oz,g2,Result.andThen,m]
  case round l f' tmps w9 Me =>
   refine .head (m₁:=lone (Frame.round l f' tmps w9 Me .normal) (b.atR m (.inRangeFunc (w.heap.size+1)::k)::cs) w2) (step_lone_go ?_) (by rw[<- iD];exact g3);simp[stepG,stepG.exec,Frame.atR,Sem.runT_eq,OZ,GStep.bare_after,stepG.apply,Xo,Sem.run_bind,Oz,g2,Result.andThen,m]
 have kH:=stepR_endRangeFunc (b:=b) (a:=m) (k:=k) (cs:=cs) Tm;have hx:Ext μ ι δ w F H u (I.putObj (w.heap.size+1) (.loop { O with state:=.exhausted })):=(D.trans x3).trans x4;have Vy:Fr P G w0 F H u (s3.put s.n (.loop .exhausted K He Wa Yb X8)) (I.putObj (w.heap.size+1) (.loop { O with state:=.exhausted })) nt e m:=⟨o.now.ext I4 hx,o.re.ext hx,o.size⟩;have hW:rB μ ι δ s w a.defers F H u (s3.put s.n (.loop .exhausted K He Wa Yb X8)) (I.putObj (w.heap.size+1) (.loop { O with state:=.exhausted })) m.defers:=by
  refine⟨hx,(GQ.trans CV).trans (Kept.put IX _),[w.heap.size],rfl,by simp,λr C hd=>?_,λr=>Iff.rfl⟩;have:r=w.heap.size:=by simpa using C
  subst this;obtain⟨_,hh⟩:=o.now.inv.defers _ hd;simp at hh
 have O4:step P (lone (b.atR m (.endRangeFunc (w.heap.size+1)::k)) cs I) = .next (lone (b.atR m (((K.map CH.code).map Item.code).toList++k)) cs (I.putObj (w.heap.size+1) (.loop { O with state:=.exhausted }))):=by
  have h:=kH;rw[m2]at h ⊢;exact h
 cases K with
 | none=>exact⟨.normal,e,_,F,H,u,_,m,Z,Steps.trans GG (.one O4),Vy,hW⟩
 | some j=>
   cases j with
   | ret=>exact⟨.jmp .ret,e,_,F,H,u,_,m,Z,⟨k,Steps.trans GG (.one O4)⟩,Vy,hW⟩
   | exit id=>exact⟨.jmp (.exit id),e,_,F,H,u,_,m,Z,⟨k,rfl,Steps.trans GG (.one O4)⟩,Vy,hW⟩
end
theorem dh:∀ {l:List LV}{i:Nat},LV.closed.aq l=true->i<l.length->(l.getD i .top).closed=true:=by
 intro l;induction l with
 | nil=>intro i _ h;exact absurd h (Nat.not_lt_zero _)
 | cons v l ih=>
   intro i h b;simp only[LV.closed.aq,Bool.and_eq_true]at h;cases i with
   | zero=>exact h.1
   | succ i=>simpa using ih h.2 (by simpa using b)
section
variable {P:Program}{G:bG}{w0:Bs}{μ bT:Mu}{ι bW:Io}{δ:Nat->Prop}{s s':St}{w w':World}
theorem Rv.closed {v:LV}{x:Value}(h:Rv μ ι w v x):v.closed=true->Rv bT ι w v x:=by
 induction h with
 | top v=>intro c;cases c
 | bool b=>intro _;exact .bool b
 | int k n=>intro _;exact .int k n
 | str s=>intro _;exact .str s
 | agg hl _ ih=>intro c;exact .agg hl λi d=>ih i d (dh c d)
 | cy hl _ ih=>intro c;exact .cy hl λi d=>ih i d (dh c d)
 | eu=>intro _;exact .eu
 | aX vs c d h1 _ ih=>intro f;exact .aX vs c d h1 λi d=>ih i d (dh f d)
 | aH g=>intro c;cases c
 | aj=>intro _;exact .aj
 | zs a=>intro _;exact .zs a
 | aB vs c d h1 _ j ih=>intro f;exact .aB vs c d h1 (λi d=>ih i d (dh f d)) j
 | aD g o j p=>intro c;cases c
 | fn hl l _ _ ih m =>
   intro c;simp only[LV.closed,Bool.and_eq_true]at c;exact .fn hl l (λi d=>ih i d (dh c.1 d)) (λi d=>m i d (dh c.2 d))
 | jh=>intro _;exact .jh
 | qp g=>intro c;cases c
 | q5 _ ih=>intro c;exact .q5 (ih c)
 | ld=>intro _;exact .ld
 | bN=>intro _;exact .bN
 | aI g=>intro c;cases c
structure qj (P:Program) (G:bG) (f:LV) (args:List LV) (R:LV->Prop):Prop where
  cf:f.closed=true
  Qe:LV.closed.aq args=true
  call:aJ P G f args St.empty (λv s'=>∃ r BD,cK aY v s'=some (r,BD)/\r.closed=true/\R r)
structure eB (P:Program) (G:bG) (f:LV) (args:List LV) (r:LV):Prop where
  cf:f.closed=true
  Qe:LV.closed.aq args=true
  cr:r.closed=true
  call:aJ P G f args St.empty (λv s'=>∃ BD,cK aY v s'=some (r,BD))
theorem eB.ex {f r:LV}{args:List LV}(h:eB P G f args r):qj P G f args (λx=>x=r) :=
 ⟨h.cf,h.Qe,aJ.mono h.call λv s' b=>by obtain⟨c,d⟩:=b;exact⟨r,c,d,h.cr,rfl⟩⟩
theorem lZ (E:∀ x∈G,LV.closed.aq x.2=true) {f:LV}{args:List LV}{R:LV->Prop}(h:qj P G f args R) {Q:LV->St->Prop}(F:∀ r,R r->r.closed=true->Q r s):aJ P G f args s Q:=by
 intro w0 μ ι δ w H I c cs j K L M;let m:Bs:=⟨w,ι⟩;let n:Mu:=λ_=>none;have u:CF P G m n ι (λ_=>False) St.empty w:=by
  refine⟨⟨Below.refl _ _,λid p k=>(by cases k),j.inv.io,λid b p _ k=>(by cases k),λ_ _ _ _ _ _ g=>(by cases g),λ_ N=>N.elim,λb o d _=>d,λb o d g=>by obtain⟨v,O⟩:=j.inv.io b o d;have:=uj O;exact absurd g (by show ¬ w.heap.size<=b;omega)⟩,λx hx=>?_,λho b o d=>j.plain ho d⟩;exact (j.Pz x hx).closed (by simpa[LV.closed] using E x hx)
 obtain⟨lv,U,pg,V,y,v,⟨r,X,Y,q,Z⟩,j9,hI,hx,hk,mY⟩:=h.call m n ι (λ_=>False) w H I c cs u (K.closed h.cf) L (λi d=>(M i d).closed (dh h.Qe d));obtain⟨z,t,x2,ZR,_⟩:=Cs aY lv U r X V v Y hI mY;have A:cR w y:=cR.NJ t.below;have l:=j.inv.same A;have bQ:∀ b o,ι b o->y.cell? ⟨b,o,none⟩=w.cell? ⟨b,o,none⟩:=j.inv.u7 A;have B:∀ b o,z b o->b<w.heap.size->ι b o:=t.low;have D:∀ b o,ι b o->z b o:=λb o d=>x2.io b o (hx.io b o d);refine⟨r,s,μ,z,y,v,F r Z q,j9,⟨l.below,l.nX,t.io,λid b p g k=>?_,l.sep,l.defers,λb o d g=>?_,λb o d g=>?_⟩,⟨λ_ _ h=>h,D,bQ,A.size,λ_ h=>h⟩,Kept.refl _ _,ZR.closed q⟩
 ·have hd:=(j.inv.nX id p k).2.2;exact (l.dD id b p g k).mono (λ_ _ h=>h) D (λ_ _ _=>rfl) rfl (λ_ i d=>B _ _ d hd)
 ·have C:b<w.heap.size:=Nat.lt_of_lt_of_le g j.inv.hB;exact j.inv.low b o (B b o d C) g
 ·by_cases C:b<w.heap.size
  ·exact l.own b o (B b o d C) g
  ·exact t.own b o d (by show w.heap.size<=b;omega)
theorem ij (b:∀ x∈G,LV.closed.aq x.2=true) {f r:LV}{args:List LV}(h:eB P G f args r) {Q:LV->St->Prop}(c:Q r s):aJ P G f args s Q:=
 lZ b h.ex λx hx _=>by subst hx;exact c
theorem nM {f:LV}{args args':List LV}{Q:LV->St->Prop}(j:cK.cu (cK aY) args s=some (args',s')) (h:aJ P G f args' s' Q):aJ P G f args s Q:=by
 intro w0 μ ι δ w k d c cs g l m n;obtain⟨o,p,b,l1,r1,f1⟩:=iy (Cs aY) _ _ _ _ ι (λi=>d.getD i undef) j g.inv n;obtain⟨lv,r,t,u,x,v,q,y,z,A,B,C⟩:=h w0 μ o δ w k d c cs (g.ext p b) (l.ext b) (by rw[l1];exact m) (λi D=>r1 i (by rw[<- l1];exact D));exact⟨lv,r,t,u,x,v,q,y,z,b.trans A,(Kept.Gc f1).trans B,C⟩
end
def LV.old (n:Nat):LV->Bool
 | .aD id _ _ _=>Nat.blt id n
 | .aH id _=>Nat.blt id n
 | .aI id=>Nat.blt id n
 | .qp id=>Nat.blt id n
 | .agg cs=>zo n cs
 | .cy cs=>zo n cs
 | .aX cs _=>zo n cs
 | .aB cs _=>zo n cs
 | .fn _ a b=>zo n a && zo n b
 | .q5 _ v=>v.old n
 | _=>true
where zo (n:Nat):List LV->Bool
 | []=>true
 | v::l=>v.old n && zo n l
def Mu.cut (μ:Mu) (n:Nat):Mu:=λid=>if id<n then μ id else none
theorem k8 {n:Nat} : ∀ {l:List LV}{i:Nat},LV.old.zo n l=true->i<l.length->(l.getD i .top).old n=true:=by
 intro l;induction l with
 | nil=>intro i _ h;exact absurd h (Nat.not_lt_zero _)
 | cons v l ih=>
   intro i h b;simp only[LV.old.zo,Bool.and_eq_true]at h;cases i with
   | zero=>simpa using h.1
   | succ i=>simpa using ih h.2 (by simpa using b)
def Tr.cut {α:Type} : Tr α->Nat->Tr α
 | .nil,_=>.nil
 | .node l v r,n=>if n=0 then .nil else .node (l.cut (n / 2)) v (r.cut ((n - 1) / 2))
theorem Tr.wZ {α:Type}(t:Tr α):∀ (n i:Nat),(t.cut n).get i=if i<n then t.get i else none:=by
 induction t with
 | nil=>intro n i;simp[Tr.cut,Tr.get]
 | node l v r b c=>
   intro n i;unfold Tr.cut;by_cases f:n=0
   ·subst f;simp
   ·rw[if_neg f];simp only[Tr.get];by_cases d:i=0
    ·subst d;rw[if_pos rfl,if_pos om,if_pos rfl]
    ·rw[if_neg d,if_neg d];by_cases ho:i % 2=1
     ·rw[if_pos ho,if_pos ho,b];by_cases h:i<n
      ·rw[if_pos om,if_pos h]
      ·rw[if_neg om,if_neg h]
     ·rw[if_neg ho,if_neg ho,c];by_cases h:i<n
      ·rw[if_pos om,if_pos h]
      ·rw[if_neg om,if_neg h]
def Tr.yW {α:Type}(p:α->Bool):Tr α->Bool
 | .nil=>true
 | .node l v r=>l.yW p && (match v with | some x=>p x | none=>true) && r.yW p
theorem Tr.E9 {α:Type}{p:α->Bool}(t:Tr α):∀ {i:Nat}{x:α},t.yW p=true->t.get i=some x->p x=true:=by
 induction t with
 | nil=>intro i x _ h;cases h
 | node l v r c d=>
   intro i x b h;simp only[Tr.yW,Bool.and_eq_true]at b;simp only[Tr.get]at h;split at h
   ·subst h;exact b.1.2
   ·split at h
    ·exact c b.1.1 h
    ·exact d b.2 h
def St.cut (s:St) (n:Nat):St:=⟨n,s.h.cut n⟩
theorem St.wZ (s:St) (n id:Nat):(s.cut n).get id=if id<n then s.get id else none:=Tr.wZ _ _ _
def iC.old (n:Nat):iC->Bool
 | .cells _ cs=>LV.old.zo n cs
 | .map es=>es.all λx=>x.1.old n && x.2.old n
 | .iter m _ _ _=>(match m with | some id=>Nat.blt id n | none=>true)
 | .loop _ _ b _ _ _=>b.yW (LV.old n)
section
variable {w:World}{μ:Mu}{ι:Io}
theorem Mu.qf {n id:Nat}{p:Place}(h:μ id=some p) (b:Nat.blt id n=true):μ.cut n id=some p:=by
 have:id<n:=Nat.le_of_ble_eq_true b;simp[Mu.cut,this,h]
theorem Rv.cut {n:Nat}{v:LV}{x:Value}(h:Rv μ ι w v x):v.old n=true->Rv (μ.cut n) ι w v x:=by
 induction h with
 | top v=>intro _;exact .top v
 | bool b=>intro _;exact .bool b
 | int k n=>intro _;exact .int k n
 | str s=>intro _;exact .str s
 | agg hl _ ih=>intro ho;exact .agg hl λi c=>ih i c (k8 (by simpa[LV.old] using ho) c)
 | cy hl _ ih=>intro ho;exact .cy hl λi c=>ih i c (k8 (by simpa[LV.old] using ho) c)
 | eu=>intro _;exact .eu
 | aX vs f c h1 _ ih=>intro ho;exact .aX vs f c h1 λi c=>ih i c (k8 (by simpa[LV.old] using ho) c)
 | aH d=>intro ho;exact .aH (Mu.qf d (by simpa[LV.old] using ho))
 | aj=>intro _;exact .aj
 | zs a=>intro _;exact .zs a
 | aB vs f c h1 _ g ih=>intro ho;exact .aB vs f c h1 (λi c=>ih i c (k8 (by simpa[LV.old] using ho) c)) g
 | aD d j g l=>intro ho;exact .aD (Mu.qf d (by simpa[LV.old] using ho)) j g l
 | fn hl m _ _ ih o =>
   intro ho;simp only[LV.old,Bool.and_eq_true]at ho;exact .fn hl m (λi c=>ih i c (k8 ho.1 c)) (λi c=>o i c (k8 ho.2 c))
 | jh=>intro _;exact .jh
 | qp d=>intro ho;exact .qp (Mu.qf d (by simpa[LV.old] using ho))
 | q5 _ ih=>intro ho;exact .q5 (ih (by simpa[LV.old] using ho))
 | ld=>intro _;exact .ld
 | bN=>intro _;exact .bN
 | aI d=>intro ho;exact .aI (Mu.qf d (by simpa[LV.old] using ho))
theorem Re.cut {n:Nat}{e:Env}{tmps:Array Value}(h:Re μ ι w e tmps) (ho:e.yW (LV.old n)=true):Re (μ.cut n) ι w e tmps:=by
 intro t;refine (h t).cut ?_;unfold Env.at;cases b:Tr.get e t with
 | none=>rfl
 | some v=>exact Tr.E9 e ho b
theorem Rb.cut {d:Nat->bp->Code->Prop}{p:Place}{b:iC}{n:Nat}(h:Rb d μ ι w p b) (ho:b.old n=true):Rb d (μ.cut n) ι w p b:=by
 cases b with
 | cells m cs=>
   obtain⟨h1,h2,h3,f,g,h6,r⟩:=h;exact⟨h1,h2,λi j=>by obtain⟨v,a,b,c⟩:=h3 i j;exact⟨v,a,b,λo=>(c o).cut (k8 (by simpa[iC.old] using ho) o)⟩,f,g,h6,r⟩
 | map k=>
   obtain⟨l,h1,h2,h3⟩:=h;refine⟨l,h1,h2,λi j=>?_⟩;obtain⟨t,u,y,z⟩:=h3 i j;have hm:k.getD i default∈k:=by
    have:k.getD i default=k[i]:=by simp[gD,j]
    rw[this];exact List.getElem_mem j
   have:=List.all_eq_true.1 (show (k.all λx=>x.1.old n && x.2.old n)=true from ho) _ hm;simp only[Bool.and_eq_true]at this;exact⟨t,u,y.cut this.1,z.cut this.2⟩
 | iter m C seen q=>
   obtain⟨h1,A,h2,h3⟩:=h;refine⟨h1,A,h2,?_⟩;cases m with
   | none=>exact h3
   | some id=>obtain⟨pm,f,g⟩:=h3;exact⟨pm,Mu.qf f ho,g⟩
 | loop st D B ps as E=>
   obtain⟨L,h1,h2,h3,f,g⟩:=h;exact⟨L,h1,h2,h3,f.cut ho,g⟩
theorem Mu.kK {n id:Nat}{p:Place}(h:μ.cut n id=some p):id<n/\μ id=some p:=by
 unfold Mu.cut at h;split at h
 ·exact⟨by assumption,h⟩
 ·cases h
theorem St.kK {s:St}{n id:Nat}{b:iC}(h:(s.cut n).get id=some b):id<n/\s.get id=some b:=by
 rw[St.wZ]at h;split at h
 ·exact⟨by assumption,h⟩
 ·cases h
theorem Inv.cut {c:Nat->bp->Code->Prop}{w0:Bs}{δ:Nat->Prop}{s:St}{n:Nat}(I:Inv c w0 μ ι δ s w) (ho:(s.cut n).h.yW (iC.old n)=true):Inv c w0 (μ.cut n) ι δ (s.cut n) w:=
 ⟨I.below,λid p d=>⟨(Mu.kK d).1,(I.nX id p (Mu.kK d).2).2⟩,I.io,
  λid b p f d=>(I.dD id b p (St.kK f).2 (Mu.kK d).2).cut (Tr.E9 _ ho f),
  λi j b g p k h1 h2 h3 l m h6=>I.sep i j b g p k (St.kK h1).2 (St.kK h2).2 h3 l (Mu.kK m).2 (Mu.kK h6).2,I.defers,I.low,I.own⟩
theorem Qg {P:Program}{G:bG}{f:LV}{args:List LV}{s:St}{Q Q':LV->St->Prop}(h:aJ P G f args s Q)
 (x:∀ v s',Q v s'->Q' v s'∨(v.old s.n=true/\(s'.cut s.n).h.yW (iC.old s.n)=true/\Q' v (s'.cut s.n))):aJ P G f args s Q':=by
 intro w0 μ ι δ w y z c cs i A B C;obtain⟨lv,j,k,l,m,v,q,o,r,hx,d,t⟩:=h w0 μ ι δ w y z c cs i A B C;rcases x _ _ q with g | ⟨h1,h2,g⟩
 ·exact⟨lv,j,k,l,m,v,g,o,r,hx,d,t⟩
 ·refine⟨lv,j.cut s.n,k.cut s.n,l,m,v,g,o,r.cut h2,⟨λid p u=>?_,hx.io,hx.cell,hx.size,hx.de⟩,⟨Nat.le_refl _,λid b hm=>?_,λid b hm=>?_⟩,t.cut h1⟩
  ·have:=(i.inv.nX id p u).1;simp[Mu.cut,this,hx.mu id p u]
  ·rw[St.wZ,if_pos b];exact d.get id b hm
  ·have:=d.free id b hm;simp[Mu.cut,this]
end
open Go
def LV.nV:LV->LV->Bool
 | .top, .top=>true
 | .bool a, .bool b=>a == b
 | .int k a, .int k' b=>k == k' && a == b
 | .str a, .str b=>decide (a.data.toList=b.data.toList)
 | .agg a, .agg b=>gS a b
 | .cy a, .cy b=>gS a b
 | .eu, .eu | .aj, .aj | .zs, .zs | .jh, .jh | .ld, .ld | .bN, .bN=>true
 | .aX a i, .aX b j=>i == j && gS a b
 | .aB a i, .aB b j=>i == j && gS a b
 | .aH i o, .aH j p=>i == j && o == p
 | .aD a b c d, .aD a' b' c' d'=>a == a' && b == b' && c == c' && d == d'
 | .qp i, .qp j=>i == j
 | .aI i, .aI j=>i == j
 | .q5 t a, .q5 u b=>t == u && a.nV b
 | .fn f a b, .fn f' a' b'=>decide (f=f') && gS a a' && gS b b'
 | _,_=>false
where gS:List LV->List LV->Bool
 | [],[]=>true
 | a::l,b::r=>a.nV b && gS l r
 | _,_=>false
mutual
theorem LV.fV:∀ (a b:LV),a.nV b=true->a=b:=by
 intro a b h;cases a<;>cases b<;>simp only[LV.nV,Bool.and_eq_true,beq_iff_eq,decide_eq_true_eq,Bool.false_eq_true]at h
 case bool.bool=>rw[h]
 case int.int=>rw[h.1,h.2]
 case str.str x y=>
  congr 1;cases x;cases y;congr 1;exact Array.ext' h
 case agg.agg=>rw[LV.fW _ _ h]
 case cy.cy=>rw[LV.fW _ _ h]
 case eu.eu=>rfl
 case aX.aX=>rw[h.1,LV.fW _ _ h.2]
 case aH.aH=>rw[h.1,h.2]
 case aj.aj=>rfl
 case zs.zs=>rfl
 case aB.aB=>rw[h.1,LV.fW _ _ h.2]
 case aD.aD=>rw[h.1.1.1,h.1.1.2,h.1.2,h.2]
 case jh.jh=>rfl
 case top.top=>rfl
 case qp.qp=>rw[h]
 case q5.q5=>rw[h.1,LV.fV _ _ h.2]
 case ld.ld=>rfl
 case bN.bN=>rfl
 case aI.aI=>rw[h]
 case fn.fn f x y g u v=>
  rw[h.1.1,LV.fW _ _ h.1.2,LV.fW _ _ h.2]
theorem LV.fW:∀ (a b:List LV),LV.nV.gS a b=true->a=b:=by
 intro a b h;cases a<;>cases b<;>simp only[LV.nV.gS,Bool.and_eq_true,Bool.false_eq_true]at h
 ·rfl
 ·rw[LV.fV _ _ h.1,LV.fW _ _ h.2]
end
mutual
theorem LV.nL:∀ a:LV,a.nV a=true:=by
 intro a;cases a<;>simp[LV.nV]
 case agg l=>exact LV.eA l
 case cy l=>exact LV.eA l
 case aX l o=>exact LV.eA l
 case aB l n=>exact LV.eA l
 case fn f a b=>exact⟨LV.eA a,LV.eA b⟩
 case q5 t v=>exact LV.nL v
theorem LV.eA:∀ l:List LV,LV.nV.gS l l=true:=by
 intro l;cases l with
 | nil=>rfl
 | cons a l=>simp[LV.nV.gS,LV.nL a,LV.eA l]
end
instance:DecidableEq LV:=λa b=>if h:a.nV b=true then isTrue (LV.fV a b h) else isFalse λe=>h (e ▸ LV.nL a)
mutual
def cL.nV:cL->cL->Bool
 | .bool, .bool | .int, .int | .str, .str | .ptr, .ptr | .JC, .JC | .mp, .mp | .Zf, .Zf | .q5, .q5=>true
 | .struct a, .struct b=>cL.gS a b
 | _,_=>false
def cL.gS:List (Nat × Nat × cL)->List (Nat × Nat × cL)->Bool
 | [],[]=>true
 | (x,y,t)::l,(b,c,d)::r=>x == b && y == c && t.nV d && cL.gS l r
 | _,_=>false
end
mutual
theorem cL.fV:∀ (a b:cL),a.nV b=true->a=b:=by
 intro a b h;cases a<;>cases b<;>first | rfl | (simp only[cL.nV,Bool.false_eq_true]at h;done) | (simp only[cL.nV]at h;rw[cL.fW _ _ h])
theorem cL.fW:∀ (a b:List (Nat × Nat × cL)),cL.gS a b=true->a=b:=by
 intro a b h;match a,b with
 | [],[]=>rfl
 | [],_::_=>simp[cL.gS]at h
 | _::_,[]=>simp[cL.gS]at h
 | (x,y,t)::l,(c,d,f)::r=>
   simp only[cL.gS,Bool.and_eq_true,beq_iff_eq]at h;rw[h.1.1.1,h.1.1.2,cL.fV _ _ h.1.2,cL.fW _ _ h.2]
end
mutual
theorem cL.nL:∀ a:cL,a.nV a=true:=by
 intro a;cases a<;>first | rfl | (simp only[cL.nV];exact cL.eA _)
theorem cL.eA:∀ l:List (Nat × Nat × cL),cL.gS l l=true:=by
 intro l;match l with
 | []=>rfl
 | (x,y,t)::l=>simp[cL.gS,cL.nL t,cL.eA l]
end
instance:DecidableEq cL:=λa b=>if h:a.nV b=true then isTrue (cL.fV a b h) else isFalse λe=>h (e ▸ cL.nL a)
deriving instance BEq,ReflBEq,LawfulBEq for bz
deriving instance BEq,ReflBEq,LawfulBEq for zj
deriving instance BEq,ReflBEq,LawfulBEq for aR
deriving instance BEq,ReflBEq,LawfulBEq for bx
deriving instance BEq,ReflBEq,LawfulBEq for bp
deriving instance DecidableEq for CH
def Iq {α:Type}(f:α->α->Bool):Option α->Option α->Bool
 | none,none=>true
 | some a,some b=>f a b
 | _,_=>false
def Tr.nV {α:Type}(f:α->α->Bool):Tr α->Tr α->Bool
 | .nil, .nil=>true
 | .node l v r, .node b v' r'=>Iq f v v' && Tr.nV f l b && Tr.nV f r r'
 | _,_=>false
def Kx:List (LV × LV)->List (LV × LV)->Bool
 | [],[]=>true
 | (a,b)::l,(c,b')::r=>a.nV c && b.nV b' && Kx l r
 | _,_=>false
def sk:List Nat->List Nat->Bool
 | [],[]=>true
 | a::l,b::r=>Nat.beq a b && sk l r
 | _,_=>false
def Wk:Md->Md->Bool
 | .mut, .mut | .app, .app | .ro, .ro=>true
 | _,_=>false
def iC.nV:iC->iC->Bool
 | .cells m cs, .cells m' cs'=>Wk m m' && LV.nV.gS cs cs'
 | .map es, .map es'=>Kx es es'
 | .iter m n s l, .iter m' d s' f=>Iq Nat.beq m m' && Nat.beq n d && sk s s' && Nat.beq l f
 | .loop st g c ps as h, .loop st' fR b i j k=>decide (st=st') && decide (g=fR) && Tr.nV LV.nV c b && sk ps i && as == j && h == k
 | _,_=>false
def St.nV (a b:St):Bool:=Nat.beq a.n b.n && Tr.nV iC.nV a.h b.h
theorem DI {α:Type}{f:α->α->Bool}(c:∀ a b,f a b=true->a=b) {a b:Option α}(h:Iq f a b=true):a=b:=by
 cases a<;>cases b<;>simp only[Iq,Bool.false_eq_true]at h
 ·rfl
 ·rw[c _ _ h]
theorem Tr.fV {α:Type}{f:α->α->Bool}(g:∀ a b,f a b=true->a=b):∀ {a b:Tr α},Tr.nV f a b=true->a=b:=by
 intro a;induction a with
 | nil=>intro b h;cases b<;>simp only[Tr.nV,Bool.false_eq_true]at h;rfl
 | node l v r c d=>
   intro b h;cases b<;>simp only[Tr.nV,Bool.false_eq_true,Bool.and_eq_true]at h;rw[DI g h.1.1,c h.1.2,d h.2]
theorem SA:∀ {a b:List (LV × LV)},Kx a b=true->a=b:=by
 intro a;induction a with
 | nil=>intro b h;cases b<;>simp only[Kx,Bool.false_eq_true]at h;rfl
 | cons x a ih=>
   intro b h;obtain⟨c,d⟩:=x;cases b with
   | nil=>simp only[Kx,Bool.false_eq_true]at h
   | cons y b=>
     obtain⟨f,g⟩:=y;simp only[Kx,Bool.and_eq_true]at h;rw[LV.fV _ _ h.1.1,LV.fV _ _ h.1.2,ih h.2]
theorem AL:∀ {a b:List Nat},sk a b=true->a=b:=by
 intro a;induction a with
 | nil=>intro b h;cases b<;>simp only[sk,Bool.false_eq_true]at h;rfl
 | cons x a ih=>
   intro b h;cases b with
   | nil=>simp only[sk,Bool.false_eq_true]at h
   | cons y b=>
     simp only[sk,Bool.and_eq_true]at h;rw[Nat.eq_of_beq_eq_true h.1,ih h.2]
theorem Sm {a b:Md}(h:Wk a b=true):a=b:=by
 cases a<;>cases b<;>first | rfl | (simp only[Wk,Bool.false_eq_true]at h)
theorem iC.fV {a b:iC}(h:a.nV b=true):a=b:=by
 cases a<;>cases b<;>simp only[iC.nV,Bool.and_eq_true,Bool.false_eq_true,decide_eq_true_eq,beq_iff_eq]at h
 ·rw[Sm h.1,LV.fW _ _ h.2]
 ·rw[SA h]
 ·rw[DI (λa b h=>Nat.eq_of_beq_eq_true h) h.1.1.1,Nat.eq_of_beq_eq_true h.1.1.2,AL h.1.2,Nat.eq_of_beq_eq_true h.2]
 ·rw[h.1.1.1.1.1,h.1.1.1.1.2,Tr.fV LV.fV h.1.1.1.2,AL h.1.1.2,h.1.2,h.2]
theorem St.fV {a b:St}(h:a.nV b=true):a=b:=by
 cases a;cases b;simp only[St.nV,Bool.and_eq_true]at h;rw[Nat.eq_of_beq_eq_true h.1,Tr.fV (λ_ _=>iC.fV) h.2]
def LV.beq:LV->LV->Bool
 | .bool a, .bool b=>a == b
 | .int k a, .int k' b=>k == k' && a == b
 | .str a, .str b=>decide (a.data.toList=b.data.toList)
 | .agg a, .agg b=>mW a b
 | .cy a, .cy b=>mW a b
 | .eu, .eu | .aj, .aj | .zs, .zs | .jh, .jh | .ld, .ld | .bN, .bN=>true
 | .aX a i, .aX b j=>i == j && mW a b
 | .aB a i, .aB b j=>i == j && mW a b
 | .aH i o, .aH j p=>i == j && o == p
 | .aD a b c d, .aD a' b' c' d'=>a == a' && b == b' && c == c' && d == d'
 | .qp i, .qp j=>i == j
 | .aI i, .aI j=>i == j
 | .q5 t a, .q5 u b=>t == u && a.beq b
 | .fn f a b, .fn f' a' b'=>(match f,f' with | .func k, .func k'=>k == k' && mW a a' && mW b b' | _,_=>false)
 | _,_=>false
where mW:List LV->List LV->Bool
 | [],[]=>true
 | a::l,b::r=>a.beq b && mW l r
 | _,_=>false
mutual
theorem LV.beq_eq:∀ (a b:LV),a.beq b=true->a=b:=by
 intro a b h;cases a<;>cases b<;>simp only[LV.beq,Bool.and_eq_true,beq_iff_eq,decide_eq_true_eq,Bool.false_eq_true]at h
 case bool.bool=>rw[h]
 case int.int=>rw[h.1,h.2]
 case str.str x y=>
  congr 1;cases x;cases y;congr 1;exact Array.ext' h
 case agg.agg=>rw[LV.iB _ _ h]
 case cy.cy=>rw[LV.iB _ _ h]
 case eu.eu=>rfl
 case aX.aX=>rw[h.1,LV.iB _ _ h.2]
 case aH.aH=>rw[h.1,h.2]
 case aj.aj=>rfl
 case zs.zs=>rfl
 case aB.aB=>rw[h.1,LV.iB _ _ h.2]
 case aD.aD=>rw[h.1.1.1,h.1.1.2,h.1.2,h.2]
 case jh.jh=>rfl
 case qp.qp=>rw[h]
 case q5.q5=>rw[h.1,LV.beq_eq _ _ h.2]
 case ld.ld=>rfl
 case bN.bN=>rfl
 case aI.aI=>rw[h]
 case fn.fn f x y g u v=>
  cases f<;>cases g<;>simp only[Bool.and_eq_true,beq_iff_eq,Bool.false_eq_true]at h;rw[h.1.1,LV.iB _ _ h.1.2,LV.iB _ _ h.2]
theorem LV.iB:∀ (a b:List LV),LV.beq.mW a b=true->a=b:=by
 intro a b h;cases a<;>cases b<;>simp only[LV.beq.mW,Bool.and_eq_true,Bool.false_eq_true]at h
 ·rfl
 ·rw[LV.beq_eq _ _ h.1,LV.iB _ _ h.2]
end
def yN:List (Nat × Option (Nat × Bool) × aR)->Env->St->Bool
 | [],_,_=>true
 | (t,g,o)::r,e,s=>
   (match aE g e with
    | some false=>true
    | some true=>gX o && (match o.run e s with | some (v,_)=>v.beq (e.at t) | none=>false)
    | none=>false) && yN r e s
theorem ug:∀ {l:List (Nat × Option (Nat × Bool) × aR)}{e:Env}{s:St},yN l e s=true->cH l e s:=by
 intro l;induction l with
 | nil=>intro e s _;trivial
 | cons p l ih=>
   obtain⟨t,g,o⟩:=p;intro e s h;simp only[yN,Bool.and_eq_true]at h;refine⟨?_,ih h.2⟩;have h1:=h.1;split at h1
   ·rename_i b;exact .inl b
   ·rename_i b;simp only[Bool.and_eq_true]at h1;obtain⟨hl,h1⟩:=h1;refine .inr ⟨b,?_⟩;split at h1
    ·rename_i v s' c;rw[c,LV.beq_eq _ _ h1,uM hl c]
    ·cases h1
   ·cases h1
inductive Tk where
  | code (rd:Bool) (c:bp) (e:Env) (s:St)
  | ops (l:List bx) (e:Env) (s:St)
  | call (f:LV) (args:List LV) (s:St)
inductive ke where
  | code (o:Out) (e:Env) (s:St)
  | ops (e:Env) (s:St)
  | call (v:LV) (s:St)
abbrev dw:=List (Nat × List LV × LV)
def dw.look:dw->Nat->List LV->Option LV
 | [],_,_=>none
 | (b,c,r)::J,k,as=>if b == k && LV.beq.mW c as then some r else dw.look J k as
def dw.has:dw->Nat->Bool
 | [],_=>false
 | (b,_,_)::J,k=>b == k || dw.has J k
def dw.UN (J:dw) (k:Nat) (as:List LV) (s:St):Option (LV × St) :=
 if J.has k then
  match cK.cu (cK aY) as s with
  | some (b,s')=>(match J.look k b with | some r=>some (r,s') | none=>none)
  | none=>none
 else none
def Bt (f:ke->Option (List ke)):List ke->Option (List ke)
 | []=>some []
 | [r]=>f r
 | r::l=>
   match f r with
   | some a=>(match Bt f l with | some b=>some (a++b) | none=>none)
   | none=>none
def fI (x:Option (List ke)) (f:ke->Option (List ke)):Option (List ke) :=
 match x with
 | some l=>Bt f l
 | none=>none
def Cy (f:List bx->Option (List ke)):List (List bx)->Option (List ke)
 | []=>some []
 | l::ls=>
   match f l with
   | some a=>(match Cy f ls with | some b=>some (a++b) | none=>none)
   | none=>none
def NP (v:LV) (s:St):Option (List ke) :=
 match v with
 | .aH id 0=>
   match s.get id with
   | some (.iter none _ _ _)=>some [.call (.cy [.bool false]) s]
   | some (.iter (some m) d seen b) =>
     match s.get m with
     | some (.map c) =>
       if seen.isEmpty || Nat.blt 0 b then
        some ((((List.range c.length).filter (λi=>!seen.contains i)).map λi=>.call (.cy [.bool true,(c.getD i default).1,(c.getD i default).2]) (s.put id (.iter (some m) d (seen++[i]) c.length))) ++
         (if (List.range d).all (λi=>!Nat.blt i c.length || seen.contains i) then [.call (.cy [.bool false]) s] else []))
       else none
     | _=>none
   | _=>none
 | _=>none
def XX (ow neg:Bool) (x y:LV) (s:St):Option (List ke) :=
 match x,y with
 | .aX cs o, .aX b c =>
   if (ow && (cs.any uO && b.any uO))=true then
    some (.call (.bool neg) s::(if agree.vg (cs.drop o) (b.drop c)=true then [.call (.bool (!neg)) s] else []))
   else none
 | .eu, .aX _ _=>some [.call (.bool neg) s]
 | .aX _ _, .eu=>some [.call (.bool neg) s]
 | .eu, .eu=>some [.call (.bool (!neg)) s]
 | _,_=>none
def P7 (n:Nat):ke->ke
 | .call v s=>if (v.old n && (s.cut n).h.yW (iC.old n))=true then .call v (s.cut n) else .call v s
 | r=>r
def Pc:List ke->LV->St->Bool
 | [],_,_=>false
 | .call v s::l,v',s'=>(v.nV v' && s.nV s') || Pc l v' s'
 | _::l,v',s'=>Pc l v' s'
def Ge:List ke->List ke
 | []=>[]
 | .call v s::l=>if Pc (Ge l) v s=true then Ge l else .call v s::Ge l
 | r::l=>r::Ge l
def BU (n:Nat):List ke->List ke
 | []=>[]
 | [r]=>[r]
 | l=>Ge (l.map (P7 n))
def NZ (n:Nat):Option (List ke)->Option (List ke)
 | some l=>some (BU n l)
 | none=>none
theorem Pa:∀ {l:List ke}{v:LV}{s:St},Pc l v s=true->ke.call v s∈l:=by
 intro l;induction l with
 | nil=>intro v s h;cases h
 | cons r l ih=>
   intro v s h;cases r with
   | call v' s' =>
     simp only[Pc,Bool.or_eq_true,Bool.and_eq_true]at h;rcases h with⟨h1,h2⟩ | h
     ·rw[LV.fV _ _ h1,St.fV h2];exact .head _
     ·exact .tail _ (ih h)
   | _=>exact .tail _ (ih h)
theorem DM:∀ {l:List ke}{v:LV}{s:St},ke.call v s∈l->ke.call v s∈Ge l:=by
 intro l;induction l with
 | nil=>intro v s h;cases h
 | cons r l ih=>
   intro v s h;cases r with
   | call v' s' =>
     simp only[Ge];split
     ·rename_i c;rcases List.mem_cons.1 h with b | h
      ·cases b;exact Pa c
      ·exact ih h
     ·rcases List.mem_cons.1 h with b | h
      ·cases b;exact .head _
      ·exact .tail _ (ih h)
   | _=>
     rcases List.mem_cons.1 h with b | h
     ·cases b
     ·exact .tail _ (ih h)
theorem Gh {n:Nat}{l:List ke}{v:LV}{s:St}(h:ke.call v s∈l):ke.call v s∈BU n l∨(v.old n=true/\(s.cut n).h.yW (iC.old n)=true/\ke.call v (s.cut n)∈BU n l):=by
 unfold BU;split
 ·cases h
 ·exact .inl h
 ·by_cases b:(v.old n && (s.cut n).h.yW (iC.old n))=true
  ·have hm:ke.call v (s.cut n)∈l.map (P7 n):=List.mem_map.2 ⟨_,h,by simp only[P7];rw[if_pos b]⟩;simp only[Bool.and_eq_true]at b;exact .inr ⟨b.1,b.2,DM hm⟩
  ·have hm:ke.call v s∈l.map (P7 n):=List.mem_map.2 ⟨_,h,by simp only[P7];rw[if_neg b]⟩;exact .inl (DM hm)
def ev (ow:Bool) (T:Nat->Option aZ) (J:dw):Nat->Tk->Option (List ke)
 | 0,_=>none
 | n + 1, .code rd c e s =>
   match c with
   | .skip=>some [.code .normal e s]
   | .region l=>fI (ev ow T J n (.ops l e s)) λ| .ops e s=>some [.code .normal e s] | _=>none
   | .alts ls=>Cy (λl=>fI (ev ow T J n (.ops l e s)) λ| .ops e s=>some [.code .normal e s] | _=>none) ls
   | .seq a b=>
     fI (ev ow T J n (.code rd a e s)) fun
     | .code .normal e s=>ev ow T J n (.code rd b e s)
     | .code (.jmp j) e s=>some [.code (.jmp j) e s]
     | _=>none
   | .cond x a b=>match x.ev e with | .bool t=>ev ow T J n (.code rd (if t then a else b) e s) | _=>none
   | .block id a=>
     fI (ev ow T J n (.code rd a e s)) fun
     | .code (.jmp (.exit i)) e s=>if i=id then some [.code .normal e s] else some [.code (.jmp (.exit i)) e s]
     | .code o e s=>some [.code o e s]
     | _=>none
   | .loop a=>
     fI (ev ow T J n (.code rd a e s)) fun
     | .code .normal e s=>ev ow T J n (.code rd (.loop a) e s)
     | .code (.jmp j) e s=>some [.code (.jmp j) e s]
     | _=>none
   | .rangeFunc y ps as g=>
     if rd then none else
     fI (ev ow T J n (.call (y.ev e) [.qp s.n] (s.new (.loop .ready none e ps as g)))) fun
     | .call _ s' =>
       match s'.get s.n with
       | some (.loop .busy _ _ _ _ _)=>none
       | some (.loop _ none d ps as g)=>some [.code .normal e (s'.put s.n (.loop .exhausted none d ps as g))]
       | some (.loop _ (some j) d ps as g)=>some [.code (.jmp j) e (s'.put s.n (.loop .exhausted (some j) d ps as g))]
       | _=>none
     | _=>none
   | .exit id=>some [.code (.jmp (.exit id)) e s]
   | .scope a=>ev ow T J n (.code rd a e s)
   | .ret=>some [.code (.jmp .ret) e s]
   | .bad=>none
 | n + 1, .ops l e s =>
   match l with
   | []=>some [.ops e s]
   | o :: l =>
     match aE o.guard e with
     | none=>none
     | some false=>ev ow T J n (.ops l (e.put o.dst (.cy [])) s)
     | some true=>
       match o.op with
       | .call f as=>
         fI (ev ow T J n (.call (f.ev e) (as.map (·.ev e)) s)) fun
         | .call v s'=>if yN o.m8 (e.put o.dst v) s' then ev ow T J n (.ops l (e.put o.dst v) s') else none
         | _=>none
       | .ku x=>
         fI (NP (x.ev e) s) fun
         | .call v s'=>if yN o.m8 (e.put o.dst v) s' then ev ow T J n (.ops l (e.put o.dst v) s') else none
         | _=>none
       | .PZ neg x y=>
         fI (XX ow neg (x.ev e) (y.ev e) s) fun
         | .call v s'=>if yN o.m8 (e.put o.dst v) s' then ev ow T J n (.ops l (e.put o.dst v) s') else none
         | _=>none
       | op=>
         match op.run e s with
         | some (v,s')=>if dA o.fl op e && yN o.m8 (e.put o.dst v) s' then ev ow T J n (.ops l (e.put o.dst v) s') else none
         | none=>none
 | n + 1, .call f args s =>
   match f with
   | .fn (.func k) first caps=>
     match (match first,caps with | [],[]=>J.UN k args s | _,_=>none) with
     | some (r,s')=>some [.call r s']
     | none=>
     match T k with
     | some h=>
       if (first++args++caps).length<=h.ntmps then
        NZ s.n (fI (ev ow T J n (.code false h.body (eV (first++args++caps)) s)) fun
        | .code .normal e s'=>(match br h.results e s' with | some v=>some [.call v s'] | none=>none)
        | .code (.jmp .ret) e s'=>(match br h.results e s' with | some v=>some [.call v s'] | none=>none)
        | _=>none)
       else none
     | none=>none
   | .qp id =>
     match s.get id with
     | some (.loop .ready _ d ps as g) =>
       if args.length=ps.length then
        fI (ev ow T J n (.code true as (vq ps args d) s)) fun
        | .code .normal p m=>
          (match m.get id with
          | some (.loop .ready q d ps u z) =>
            fI (ev ow T J n (.code true g p (m.put id (.loop .busy q d ps u z)))) fun
            | .code .normal _ s3=>
              (match s3.get id with
              | some (.loop _ _ d ps as g)=>some [.call (.bool true) (s3.put id (.loop .ready none d ps as g))]
              | _=>none)
            | .code (.jmp j) _ s3=>
              (match s3.get id with
              | some (.loop _ _ d ps as g)=>some [.call (.bool false) (s3.put id (.loop .done (some j) d ps as g))]
              | _=>none)
            | _=>none
          | _=>none)
        | _=>none
       else none
     | _=>none
   | _=>none
theorem dw.xV:∀ {J:dw}{k:Nat}{as:List LV}{r:LV},J.look k as=some r->(k,as,r)∈J:=by
 intro J;induction J with
 | nil=>intro k as r h;cases h
 | cons p J ih=>
   obtain⟨c,d,r'⟩:=p;intro k as r h;simp only[dw.look]at h;split at h
   ·rename_i b;simp only[Bool.and_eq_true,beq_iff_eq]at b;cases h;rw[b.1,LV.iB _ _ b.2];exact .head _
   ·exact .tail _ (ih h)
theorem FI {f:ke->Option (List ke)} : ∀ {l out:List ke},Bt f l=some out->∀ r∈l,∃ o,f r=some o/\∀ x∈o,x∈out:=by
 intro l;induction l with
 | nil=>intro out _ r c;cases c
 | cons r l ih=>
   intro out h r' c;cases l with
   | nil=>
     rcases List.mem_singleton.1 c with rfl
     exact⟨out,h,λx hx=>hx⟩
   | cons r2 l=>
     unfold Bt at h
     ·split at h
      ·rename_i a d;split at h
       ·rename_i b g;cases h;rcases List.mem_cons.1 c with rfl | c
        ·exact⟨a,d,λx hx=>List.mem_append_left _ hx⟩
        ·obtain⟨o,ho,hs⟩:=ih g r' c;exact⟨o,ho,λx hx=>List.mem_append_right _ (hs x hx)⟩
       ·cases h
      ·cases h
theorem cS {x:Option (List ke)}{f:ke->Option (List ke)}{out:List ke}(h:fI x f=some out):∃ l,x=some l/\∀ r∈l,∃ o,f r=some o/\∀ x∈o,x∈out:=by
 unfold fI at h;split at h
 ·exact⟨_,rfl,FI h⟩
 ·cases h
theorem Hz {f:List bx->Option (List ke)} : ∀ {ls:List (List bx)}{out:List ke},Cy f ls=some out->∀ l∈ls,∃ o,f l=some o/\∀ x∈o,x∈out:=by
 intro ls;induction ls with
 | nil=>intro out _ l hl;cases hl
 | cons l ls ih=>
   intro out h d c;simp only[Cy]at h;split at h
   ·rename_i a g;split at h
    ·rename_i b i;cases h;rcases List.mem_cons.1 c with rfl | c
     ·exact⟨a,g,λx hx=>List.mem_append_left _ hx⟩
     ·obtain⟨o,ho,hs⟩:=ih i d c;exact⟨o,ho,λx hx=>List.mem_append_right _ (hs x hx)⟩
    ·cases h
   ·cases h
theorem NO {v:LV}{s:St}{l:List ke}(h:NP v s=some l) {R:LV->St->Prop}(d:∀ v s,ke.call v s∈l->R v s):jq v s R:=by
 unfold NP at h;split at h
 ·rename_i id;simp only[jq];split at h
  ·rename_i j seen b f;cases h;rw[f];exact d _ _ (.head _)
  ·rename_i m j seen b f;split at h
   ·rename_i c hm;split at h
    ·rename_i hs;cases h;rw[f];simp only[hm];refine⟨?_,λi g k=>d _ _ ?_,λn=>d _ _ ?_⟩
     ·simp only[Bool.or_eq_true,List.isEmpty_iff]at hs;rcases hs with h | h
      ·exact .inl h
      ·exact .inr (Nat.le_of_ble_eq_true h)
     ·refine List.mem_append_left _ (List.mem_map.2 ⟨i,List.mem_filter.2 ⟨List.mem_range.2 g,by simpa using k⟩,rfl⟩)
     ·have:(List.range j).all (λi=>!Nat.blt i c.length || seen.contains i)=true:=by
       rw[List.all_eq_true];intro i g;by_cases hl:i<c.length
       ·simp[n i (List.mem_range.1 g) hl]
       ·have:Nat.blt i c.length=false:=by
         cases o:Nat.blt i c.length with
         | false=>rfl
         | true=>exact absurd (Nat.le_of_ble_eq_true o) hl
        simp[this]
      rw[if_pos this];exact List.mem_append_right _ (.head _)
    ·cases h
   ·cases h
  ·cases h
 ·cases h
theorem TO {G:bG}{ow neg:Bool}{x y:LV}{s:St}{l:List ke}(h:XX ow neg x y s=some l) (ho:ow=true->BN G=true) {R:LV->St->Prop}(b:∀ v s,ke.call v s∈l->R v s):oV G neg x y s R:=by
 unfold XX at h;unfold oV;split at h
 ·split at h
  ·rename_i c;simp only[Bool.and_eq_true]at c;cases h;refine⟨ho c.1,c.2.1,c.2.2,b _ _ (.head _),λd=>b _ _ (.tail _ ?_)⟩;rw[if_pos d];exact .head _
  ·cases h
 ·cases h;exact b _ _ (.head _)
 ·cases h;exact b _ _ (.head _)
 ·cases h;exact b _ _ (.head _)
 ·cases h
section
variable {P:Program}{G:bG}{T:Nat->Option aZ}{J:dw}{ow:Bool}
structure fC (P:Program) (G:bG) (T:Nat->Option aZ) (J:dw):Prop where
  mixed:P.follows .mixedOrders=true
  fn : ∀ k lf, T k = some lf -> ∃ fn refs, P.funcs[k]? = some fn /\ (fn.name == "runtime.NumGoroutine") = false /\ aF P G refs fn = some lf
  vS:∀ x∈G,LV.closed.aq x.2=true
  pure:∀ x∈J,eB P G (.fn (.func x.1) [] []) x.2.1 x.2.2
def LJ (P:Program) (G:bG) (t:Tk) (l:List ke):Prop:=
 match t with
 | .code rd c e s=>∀ nt,aQ P G rd nt c e s (λo e s=>.code o e s∈l)
 | .ops ops e s=>dy P G ops e s (λe s=>.ops e s∈l)
 | .call f args s=>aJ P G f args s (λv s=>.call v s∈l)
theorem PU (F:fC P G T J) (U:ow=true->BN G=true):∀ (n:Nat) (t:Tk) (l:List ke),ev ow T J n t=some l->LJ P G t l:=by
 intro n;induction n using Nat.strongRecOn with
 | ind n ih=>
   intro t out h;cases n with
   | zero=>cases h
   | succ n=>
     have i:=ih n (Nat.lt_succ_self n);cases t with
     | code rd c e s=>
       cases c with
       | skip=>cases h;exact λnt=>Is (.head _)
       | exit id=>cases h;exact λnt=>Iw (.head _)
       | ret=>cases h;exact λnt=>NF (.head _)
       | bad=>cases h
       | region ops=>
         simp only[ev]at h;obtain⟨l,hl,hm⟩:=cS h;refine λnt=>Az F.mixed (dy.mono (λH C d=>?_) (i _ _ hl));obtain⟨o,ho,hs⟩:=hm _ d;cases ho;exact hs _ (.head _)
       | alts ls=>
         simp only[ev]at h;refine λnt=>R5 F.mixed λl hl=>?_;obtain⟨D,eY,oN⟩:=Hz h l hl;obtain⟨V,nT,hm⟩:=cS eY;refine dy.mono (λH C d=>?_) (i _ _ nT);obtain⟨o,ho,hs⟩:=hm _ d;cases ho;exact oN _ (hs _ (.head _))
       | seq a b=>
         simp only[ev]at h;obtain⟨l,hl,hm⟩:=cS h;refine λnt=>ND (aQ.mono (i _ _ hl nt) λo H C d=>?_);obtain⟨q,ho,hs⟩:=hm _ d;cases o with
         | normal=>exact aQ.mono (i _ _ ho nt) λo e s d=>hs _ d
         | jmp j=>cases ho;exact hs _ (.head _)
       | cond x a b=>
         simp only[ev]at h;split at h
         ·rename_i t ht;exact λnt=>BP ht (i _ _ h nt)
         ·cases h
       | block id a=>
         simp only[ev]at h;obtain⟨l,hl,hm⟩:=cS h;refine λnt=>DL (aQ.mono (i _ _ hl nt) λo H C d=>?_);obtain⟨q,ho,hs⟩:=hm _ d;rcases o with _ | _ | jW
         ·cases ho;exact hs _ (.head _)
         ·cases ho;exact hs _ (.head _)
         ·simp only at ho;split at ho
          ·rename_i X;cases ho;simp only[CK,X,if_true];exact hs _ (.head _)
          ·rename_i X;cases ho;simp only[CK,X,if_false];exact hs _ (.head _)
       | scope a=>exact λnt=>DK (i _ _ (show ev ow T J n (.code rd a e s)=some out from h) nt)
       | loop a=>
         intro nt;refine vw (λm e s=>m<=n+1/\∃ o,ev ow T J m (.code rd (.loop a) e s)=some o/\∀ x∈o,x∈out) ?_ (n+1) ⟨Nat.le_refl _,out,h,λx hx=>hx⟩;rintro m e s ⟨hm,o,d,A⟩;cases m with
         | zero=>cases d
         | succ m=>
           simp only[ev]at d;obtain⟨l,hl,sE⟩:=cS d;refine aQ.mono (ih m om _ _ hl nt) λD e2 O h3=>?_;obtain⟨q,ho,hs⟩:=sE _ h3;cases D with
           | normal=>exact⟨m,Nat.lt_succ_self m,by omega,q,ho,λx hx=>A x (hs x hx)⟩
           | jmp j=>cases ho;exact A _ (hs _ (.head _))
       | rangeFunc y ps as bo=>
         simp only[ev]at h;cases rd with
         | true=>simp at h
         | false=>
           simp only[Bool.false_eq_true,if_false]at h;obtain⟨l,hl,hm⟩:=cS h;refine λnt=>tf (aJ.mono (i _ _ hl) λY C d=>?_);obtain⟨q,ho,hs⟩:=hm _ d;simp only at ho;split at ho
           ·cases ho
           ·rename_i st u Z R Me dH I;cases ho;exact⟨st,none,u,Z,R,Me,I,λhb=>dH hb,hs _ (.head _)⟩
           ·rename_i st j u Z R Me dH I;cases ho;exact⟨st,some j,u,Z,R,Me,I,λhb=>dH hb,hs _ (.head _)⟩
           ·cases ho
     | ops l e s =>
       cases l with
       | nil=>cases h;exact .head _
       | cons o l=>
         simp only[ev]at h;split at h
         ·cases h
         ·rename_i E;simp only[LJ,dy,E];exact i _ _ h
         ·rename_i E;split at h
          ·rename_i f as K;obtain⟨V,hl,hm⟩:=cS h;simp only[LJ,dy,E,K,pe];refine aJ.mono (i _ _ hl) λY O d=>?_;obtain⟨q,ho,hs⟩:=hm _ d;simp only at ho;split at ho
           ·rename_i z;exact⟨ug z,dy.mono (λe s d=>hs _ d) (i _ _ ho)⟩
           ·cases ho
          ·rename_i x K;obtain⟨V,hl,hm⟩:=cS h;simp only[LJ,dy,E,K,pe];refine NO hl λY O d=>?_;obtain⟨q,ho,hs⟩:=hm _ d;simp only at ho;split at ho
           ·rename_i z;exact⟨ug z,dy.mono (λe s d=>hs _ d) (i _ _ ho)⟩
           ·cases ho
          ·rename_i neg x y K;obtain⟨V,hl,hm⟩:=cS h;simp only[LJ,dy,E,K,pe];refine TO hl U λY O d=>?_;obtain⟨q,ho,hs⟩:=hm _ d;simp only at ho;split at ho
           ·rename_i z;exact⟨ug z,dy.mono (λe s d=>hs _ d) (i _ _ ho)⟩
           ·cases ho
          ·rename_i dH L M;have cx:jv o.op=false:=by
            cases hc:jv o.op with
            | false=>rfl
            | true=>
              rcases jM hc with⟨f,as,d⟩ | ⟨f,d⟩ | ⟨n,f,g,d⟩
              ·exact absurd d (dH f as)
              ·exact absurd d (L f)
              ·exact absurd d (M n f g)
           split at h
           ·rename_i v C p;split at h
            ·rename_i z;simp only[Bool.and_eq_true]at z;simp only[LJ,dy,E];rw[wP cx,p];exact⟨z.1,ug z.2,i _ _ h⟩
            ·cases h
           ·cases h
     | call f args s =>
       simp only[ev]at h;split at h
       ·rename_i k first caps
        split at h
        ·rename_i r s' p;cases h;split at p
         ·unfold dw.UN at p;split at p
          ·split at p
           ·rename_i R O OW;split at p
            ·rename_i r2 hlk;cases p;exact nM OW (ij F.vS (F.pure _ (dw.xV hlk)) (.head _))
            ·cases p
           ·cases p
          ·cases p
         ·cases p
        split at h
        ·rename_i lf hlf;obtain⟨fn,refs,hf,hn,hc⟩:=F.fn k lf hlf;split at h
         ·rename_i N;unfold NZ at h;split at h
          case h_2=>cases h
          rename_i l0 Ev;cases h;refine Qg (Q:=λv s=>ke.call v s∈l0) ?_ (λv s' hq=>Gh hq);obtain⟨l,hl,hm⟩:=cS Ev;refine bL hf hn hc N (aQ.mono (i _ _ hl lf.ntmps) λD H C d=>?_);obtain⟨q,ho,hs⟩:=hm _ d;rcases D with _ | _ | jW
          ·simp only at ho;split at ho
           ·rename_i v hv;cases ho;exact⟨.inl rfl,v,hv,hs _ (.head _)⟩
           ·cases ho
          ·simp only at ho;split at ho
           ·rename_i v hv;cases ho;exact⟨.inr rfl,v,hv,hs _ (.head _)⟩
           ·cases ho
          ·cases ho
         ·cases h
        ·cases h
       ·rename_i id;split at h
        ·rename_i pend0 u ps as bo I;split at h
         ·rename_i hl;obtain⟨l,o8,hm⟩:=cS h;refine yS I hl λnt=>aQ.mono (i _ _ o8 nt) λD H C d=>?_;obtain⟨q,ho,hs⟩:=hm _ d;cases D with
          | jmp j=>cases ho
          | normal=>
            simp only at ho;split at ho
            ·rename_i DG TQ ps1 as1 bo1 nU;obtain⟨l2,KW,sO⟩:=cS ho;refine⟨DG,TQ,ps1,as1,bo1,nU,aQ.mono (i _ _ KW nt) λo4 e4 s4 d=>?_⟩;obtain⟨o5,B,SZ⟩:=sO _ d;cases o4 with
             | normal=>
               simp only at B;split at B
               ·rename_i st pd He Wa Yb X8 wz;cases B;exact⟨st,pd,He,Wa,Yb,X8,wz,hs _ (SZ _ (.head _))⟩
               ·cases B
             | jmp j=>
               simp only at B;split at B
               ·rename_i st pd He Wa Yb X8 wz;cases B;exact⟨st,pd,He,Wa,Yb,X8,wz,hs _ (SZ _ (.head _))⟩
               ·cases B
            ·cases ho
         ·cases h
        ·cases h
       ·cases h
def Cz (r:LV):List ke->Bool
 | []=>true
 | .call v s::l=>(match cK aY v s with | some (x,_)=>x.beq r && Cz r l | none=>false)
 | _::_=>false
theorem HA {r:LV} : ∀ {l:List ke},Cz r l=true->∀ v s,ke.call v s∈l->∃ s',cK aY v s=some (r,s'):=by
 intro l;induction l with
 | nil=>intro _ v s h;cases h
 | cons x l ih=>
   intro h v s hm;cases x<;>simp only[Cz,Bool.false_eq_true]at h;split at h
   ·rename_i y s' b;simp only[Bool.and_eq_true]at h;rcases List.mem_cons.1 hm with c | hm
    ·cases c;exact⟨s',by rw[b,LV.beq_eq _ _ h.1]⟩
    ·exact ih h.2 v s hm
   ·cases h
def cY (T:Nat->Option aZ) (J:dw) (n k:Nat) (args:List LV) (r:LV) (ow:Bool:=false):Bool:=
 LV.closed.aq args && r.closed && (match ev ow T J n (.call (.fn (.func k) [] []) args St.empty) with | some l=>Cz r l | none=>false)
theorem bR (c:fC P G T J) {n k:Nat}{args:List LV}{r:LV}(h:cY T J n k args r ow=true) (b:ow=true->BN G=true:=by intro h;cases h):eB P G (.fn (.func k) [] []) args r:=by
 simp only[cY,Bool.and_eq_true]at h;obtain⟨⟨h1,h2⟩,h3⟩:=h;split at h3
 ·rename_i l hl;exact⟨rfl,h1,h2,aJ.mono (PU c b _ _ _ hl) λv s d=>HA h3 v s d⟩
 ·cases h3
def HT (P:Program) (G:bG) (refs:List (Nat × List Nat)) (k:Nat):Option aZ:=
 match P.funcs[k]? with
 | some fn => if fn.name == "runtime.NumGoroutine" then none else aF P G ((refs.lookup k).getD []) fn
 | none=>none
theorem Ab {refs:List (Nat × List Nat)}(hm:P.follows .mixedOrders=true) (b:∀ x∈G,LV.closed.aq x.2=true):fC P G (HT P G refs) []:=by
 refine⟨hm,λk f h=>?_,b,λx hx=>by cases hx⟩;unfold HT at h;split at h
 ·rename_i fn c;split at h
  ·cases h
  ·rename_i d;exact⟨fn,_,c,by simpa using d,h⟩
 ·cases h
theorem fC.cons (b:fC P G T J) {k:Nat}{args:List LV}{r:LV}(h:eB P G (.fn (.func k) [] []) args r):fC P G T ((k,args,r)::J) :=
 ⟨b.mixed,b.fn,b.vS,λx hx=>by
  rcases List.mem_cons.1 hx with rfl | hx
  ·exact h
  ·exact b.pure x hx⟩
end
end Go.Pv
end
