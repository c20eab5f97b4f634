/- A function called: from its body's plain form. -/
import Derived.Test.YtkbiecjdcjfhaaaGreatPvDraw0
import Derived.RangeFuncRecord
import Derived.RangeFuncIn
import Derived.Test.YtkbiecjdcjfhaaaGreatPvComp
set_option linter.unusedSimpArgs false
set_option linter.unusedVariables false
set_option maxRecDepth 100000
set_option maxHeartbeats 16000000
section
namespace Go.Pv
open Go Go.RowKit
def F6:List LV->Nat->Env->Env
 | [],_,e=>e
 | v::r,i,e=>F6 r (i+1) (Tr.set e i v)
def fm (l:List LV):Env:=F6 l 0 .nil
theorem RY:∀ (l:List LV) (i:Nat) (e:Env) (t:Nat),(F6 l i e).at t=if i<=t/\t<i+l.length then l.getD (t - i) .top else e.at t:=by
 intro l;induction l with
 | nil=>intro i e t;simp[F6];omega
 | cons v l ih=>
   intro i e t;rw[F6,ih,Env.rC];simp only[List.length_cons];by_cases h1:t=i
   ·subst h1;rw[if_neg om,if_pos rfl,if_pos om];simp
   ·by_cases h2:i+1<=t/\t<i+1+l.length
    ·rw[if_pos h2,if_pos om];obtain⟨j,b⟩:∃ j,t - i=j+1:=⟨t - i - 1,by omega⟩;rw[b,List.getD_cons_succ];congr 1;omega
    ·rw[if_neg h2,if_neg h1,if_neg om]
theorem bS (l:List LV) (t:Nat):(fm l).at t=l.getD t .top:=by
 unfold fm;rw[RY];by_cases h:t<l.length
 ·rw[if_pos om];simp
 ·rw[if_neg om,Env.at_nil,gD,List.getElem?_eq_none om];rfl
def bD (e:Env) (s:St):Jj->Option LV
 | .tmp t=>some (e.at t)
 | .cell t n=>
   match e.at t with
   | .aY cs off=>bG n cs off
   | .aO id off=>match s.get id with | some (.cells _ cs)=>bG n cs off | _=>none
   | _=>none
def aW (rs:List Jj) (e:Env) (s:St):Option LV:=
 match rs.mapM (bD e s) with
 | some [v]=>some v
 | some vs=>some (.cE vs)
 | none=>none
section
variable {P:Program}{G:bP}{w0:Bs}{μ:Mu}{ι:Io}{δ mI:Nat->Prop}{s:St}{w:World}{nt:Nat}{e:Env}{a:Act}
theorem TC {c:Ctx}(y:c.P=P) {r:ResultVar}{p:Jj}(d:uQ c r=some p) (f:Fr P G w0 μ ι δ s w nt e a) {v:LV}(h:bD e s p=some v) :
 ∃ x,(match r with | .tmp t=>pure (a.tmps.getD t undef) | .cell b t=>(do loadVar t (<- asAddr (a.tmps.getD b undef))):Sem Value).run P w = .ok x w/\Rv μ ι w v x:=by
 cases r with
 | tmp t=>
   cases d;cases h;exact⟨_,by simp,f.re t⟩
 | cell b t=>
   simp only[uQ]at d;obtain⟨n,g,d⟩:=bind_some d;cases d;rw[y]at g;simp only[bD]at h;have j:=f.re b;generalize e.at b=lv at j h;generalize q:a.tmps.getD b undef=D at j;cases j<;>simp only[reduceCtorEq]at h
   ·rename_i vs z k E A;obtain⟨u,l,o⟩:=mS (w:=w) g (λi k=>⟨_,z i k,A i k⟩) h;refine⟨u,?_,o⟩;dsimp only;rw[q];simp only[asAddr,Sem.run_bind,Sem.run_pure,Result.andThen_ok,l]
   ·rename_i B;split at h
    ·rename_i m cs C;obtain⟨u,l,o⟩:=mS (w:=w) g (f.now.inv.K4 C B) h;refine⟨u,?_,o⟩;dsimp only;rw[q];simp only[asAddr,Sem.run_bind,Sem.run_pure,Result.andThen_ok,l]
    ·cases h
theorem Ei {c:Ctx}(j:c.P=P) (k:Fr P G w0 μ ι δ s w nt e a):∀ {rs:List ResultVar}{d:List Jj}{vs:List LV},rs.mapM (uQ c)=some d->d.mapM (bD e s)=some vs ->
 ∃ xs,(rs.mapM (λr=>(match r with | .tmp t=>pure (a.tmps.getD t undef) | .cell b t=>(do loadVar t (<- asAddr (a.tmps.getD b undef))):Sem Value))).run P w = .ok xs w/\Rs μ ι w vs xs:=by
 intro rs;induction rs with
 | nil=>
   intro d vs h1 h2;simp at h1;subst h1;simp at h2;subst h2;exact⟨[],by simp,rfl,λi f=>absurd f (Nat.not_lt_zero _)⟩
 | cons r rs ih=>
   intro d vs h1 h2;rw[List.mapM_cons]at h1;obtain⟨y,g,h1⟩:=bind_some h1;obtain⟨h,l,h1⟩:=bind_some h1;cases h1;rw[List.mapM_cons]at h2;obtain⟨v,m,h2⟩:=bind_some h2;obtain⟨n,o,h2⟩:=bind_some h2;cases h2;obtain⟨x,hx,p⟩:=TC j g k m;obtain⟨xs,q,hl,u⟩:=ih l o;refine⟨x::xs,?_,by simp[hl],λi f=>?_⟩
   ·rw[List.mapM_cons];simp only[Sem.run_bind,hx,q,Result.andThen_ok,Sem.run_pure]
   ·cases i with
    | zero=>simpa using p
    | succ i=>simpa using u i (by simpa using f)
theorem JG {c:Ctx}(g:c.P=P) {fn:Func}{j:List Jj}(h1:fn.results.toList.mapM (uQ c)=some j) (k:Fr P G w0 μ ι δ s w nt e a) {v:LV}(h:aW j e s=some v) :
 ∃ x,(results fn a.tmps).run P w = .ok x w/\Rv μ ι w v x:=by
 unfold aW at h;have l:∀ xs:List Value,(fn.results.toList.mapM (λr=>(match r with | .tmp t=>pure (a.tmps.getD t undef) | .cell b t=>(do loadVar t (<- asAddr (a.tmps.getD b undef))):Sem Value))).run P w = .ok xs w ->
  (results fn a.tmps).run P w = .ok (if h:xs.toArray.size=1 then xs.toArray[0] else .tuple xs.toArray) w:=by
  intro xs d;unfold results;rw[Array.mapM_eq_mapM_toList];simp only[Sem.run_bind,map_eq_pure_bind,Sem.run_pure,bind_assoc,pure_bind];exact congrArg (λr=>Result.andThen r (λ(a:List Value) w'=>(Result.ok (if h:a.toArray.size=1 then a.toArray[0] else Value.tuple a.toArray) w':Result Value))) d
 split at h
 ·rename_i u hm;cases h;obtain⟨xs,d,hl,f⟩:=Ei g k h1 hm;match xs,hl with
  | [x],_=>exact⟨x,by have:=l _ d;simpa using this,by simpa using f 0 (by simp)⟩
 ·rename_i vs dB hm;cases h;obtain⟨xs,d,hl,f⟩:=Ei g k h1 hm;have m:xs.toArray.size≠1:=by
   intro h1;match vs,dB,hl with
   | [],_,hl=>simp[hl]at h1
   | [u],dB,_=>exact dB u rfl
   | u::u'::r,_,hl=>simp[hl]at h1
  refine⟨.tuple xs.toArray,?_, .cE (by simpa using hl) (λi n=>?_)⟩
  ·have:=l _ d;rw[this,dif_neg m]
  ·have:=f i n;simpa[gD,gF] using this
 ·cases h
theorem Inv.shut {g:Nat->bx->Code->Prop}(I:Inv g w0 μ ι mI s w) {r:Nat}(z:mI r) (A:∀ x,δ x->mI x/\x≠r) :
 Inv g w0 μ ι δ s (w.putObj r (.deferred none))/\Ext μ ι δ w μ ι δ (w.putObj r (.deferred none)):=by
 obtain⟨h1,h2⟩:=I.defers r z;have i:∀ k,k≠r->(w.putObj r (.deferred none)).heap[k]? = w.heap[k]? := λk l=>World.putObj_heap_other l;have u:∀ b o v,w.cell? ⟨b,o,none⟩=some v->b≠r:=by
  rintro b o v d rfl;simp[World.cell?,h2]at d
 have n:∀ b o,ι b o->(w.putObj r (.deferred none)).cell? ⟨b,o,none⟩=w.cell? ⟨b,o,none⟩:=λb o f=>by
  obtain⟨v,d⟩:=I.io b o f;exact gS (i b (u b o v d))
 refine⟨⟨⟨I.below.os,I.below.tape,I.below.output,by rw[World.putObj_size];exact I.below.size,λk l=>by rw[i k om];exact I.below.block k l⟩,
  λid p q=>by rw[World.putObj_size];exact I.oh id p q,λb o f=>by obtain⟨v,d⟩:=I.io b o f;exact⟨v,(n b o f).trans d⟩,λid b p t q=>?_,I.sep,λx hx=>?_,I.low,λb o f t=>(I.own b o f t).heap (i b (by obtain⟨v,d⟩:=I.io b o f;exact u b o v d))⟩,
  ⟨λ_ _ h=>h,λ_ _ h=>h,n,by rw[World.putObj_size];exact Nat.le_refl _,λ_ h=>h⟩⟩
 ·have j:=I.dR id b p t q;have dB:p.b≠r:=by
   rintro rfl;cases b with
   | cells m cs=>obtain⟨⟨x,h0⟩,_⟩:=j;simp[World.shape?,h2]at h0
   | loop st F B ps as H=>obtain⟨L,c,_⟩:=j;rw[h2]at c;cases c
   | map K=>obtain⟨C,c,_⟩:=j;rw[h2]at c;cases c
   | iter m M seen y=>obtain⟨_,N,c,_⟩:=j;rw[h2]at c;cases c
  exact j.mono (λ_ _ h=>h) (λ_ _ h=>h) n (i _ dB) (λ_ _ h=>h)
 ·obtain⟨D,E⟩:=A x hx;obtain⟨a,b⟩:=I.defers x D;exact⟨a,by rw[i x E];exact b⟩
theorem tV {f:Nat->bx->Code->Prop}{fr:Frame}{cs:List Frame}(hm:fr.mode = .returning):∀ (rs:List Nat) (mI:Nat->Prop) (w:World),rs.Nodup->(∀ r∈rs,¬ δ r)->(∀ r,mI r↔δ r∨r∈rs)->Inv f w0 μ ι mI s w ->
 ∃ w',Steps P (lone { fr with defers:=rs.map mark } cs w) (lone { fr with defers:=[] } cs w')/\Inv f w0 μ ι δ s w'/\Ext μ ι δ w μ ι δ w':=by
 intro rs;induction rs with
 | nil=>
   intro mI w _ _ g I;have:mI=δ:=funext λr=>by simpa using g r
   subst this;exact⟨w, .refl _ _,I,Ext.refl _ _ _ _⟩
 | cons r rs ih=>
   intro mI w m i g I;obtain⟨n,p⟩:=List.nodup_cons.1 m;have c:mI r:=(g r).2 (.inr (by simp));obtain⟨q,j⟩:=I.shut (δ:=λx=>δ x∨x∈rs) c (λx hx=>⟨(g x).2 (hx.imp id (List.mem_cons_of_mem _)),by
    rintro rfl;rcases hx with hx | hx
    ·exact i _ (by simp) hx
    ·exact n hx⟩)
   have t:=step_collected (P:=P) (fr:={ fr with defers:=(r::rs).map mark }) (cs:=cs) (w:=w) (d:=mark r) (r:=r) (ds:=rs.map mark) (by simp[hm]) rfl rfl (run_takeDeferred (I.defers r c).2);obtain⟨w',hs,u,k⟩:=ih (λx=>δ x∨x∈rs) _ p (λx hx=>i x (List.mem_cons_of_mem _ hx)) (λ_=>Iff.rfl) q;refine⟨w', .head t hs,u,⟨λ_ _ h=>h,λ_ _ h=>h,λb o l=>(k.cell b o l).trans (j.cell b o l),Nat.le_trans j.size k.size,λ_ h=>h⟩⟩
theorem qf (f:Fn) (first caps args:Array Value) (P:Program) (w:World):(Deferred.ofValue (.func f first caps) args).run P w = .ok { target:=.fn f caps,args:=first++args } w:=by
 simp[Deferred.ofValue]
theorem bM {refs : List Nat}{f : FuncId}{fn : Func}{lf : bh}{first caps args : List LV}{Q : LV -> St -> Prop}(hf : P.funcs[f]? = some fn) (hn : (fn.name == "runtime.NumGoroutine") = false)
 (hc:aL P G refs fn=some lf) (hlen:(first++args++caps).length<=lf.ntmps)
 (h:aX P G false lf.ntmps lf.body (fm (first++args++caps)) s (λo e s'=>(o = .normal∨o = .jmp .ret)/\∃ v,aW lf.results e s'=some v/\Q v s')):aM P G (.fn (.func f) first caps) args s Q:=by
 intro w0 μ ι δ w vf cx c cs hN Fq jQ wW;unfold aL at hc;obtain⟨body,wC,hc⟩:=bind_some hc;obtain⟨Um,QT,hc⟩:=bind_some hc;cases hc;cases Fq with
 | fn hl oe hr wX =>
   rename_i va vb;have hinv:(invoke (.fn (.func f) vb) (va++cx)).run P w = .ok (.enter f (va++cx++vb)) w:=by
    have fI : ¬ fn.name = "runtime.NumGoroutine" := by simpa using hn
    simp[invoke,callFunc,hf,fI,wC]
   have kO:(va++cx++vb).size=(first++args++caps).length:=by simp[hl,oe,jQ]
   let b:Frame:={ (default:Frame) with fn:=f,kind:=.normal,roundOf:=none };let a:Act:={ tmps:=(va++cx++vb)++Array.replicate (fn.ntmps - (va++cx++vb).size) undef,defers:=[] };have xF:Frame.enter P f (va++cx++vb) .normal=b.atR a [.code body]:=by
    simp[Frame.enter,Frame.atR,hf,wC,a,b]
   have AR:∀ i,i<(first++args++caps).length->Rv μ ι w ((first++args++caps).getD i .top) ((va++cx++vb).getD i undef):=by
    intro i hi;simp only[gD,gF];by_cases h1:i<first.length
    ·rw[List.append_assoc,List.getElem?_append_left h1,Array.append_assoc,Array.getElem?_append_left om];have:=hr i h1;simpa[gD,gF] using this
    ·by_cases h2:i<first.length+args.length
     ·rw[List.append_assoc,List.getElem?_append_right om,List.getElem?_append_left om,Array.append_assoc,Array.getElem?_append_right om,Array.getElem?_append_left om,hl];have:=wW (i - first.length) om;simpa[gD,gF] using this
     ·have eU:i<first.length+args.length+caps.length:=by simpa[Nat.add_assoc] using hi
      rw[List.getElem?_append_right (by simp;omega),Array.getElem?_append_right (by simp;omega)];have:=wX (i - (first.length+args.length)) om;simpa[gD,gF,hl,jQ] using this
   have hF:Fr P G w0 μ ι δ s w fn.ntmps (fm (first++args++caps)) a:=by
    refine⟨hN,λt=>?_,by simp only[a,Array.size_append,Array.size_replicate]at kO ⊢;simp only at hlen;omega⟩;rw[bS];by_cases ht:t<(first++args++caps).length
    ·have:=AR t ht;have hx:a.tmps.getD t undef=(va++cx++vb).getD t undef:=by
      simp only[a,gF];rw[Array.getElem?_append_left om]
     rw[hx];exact this
    ·rw[gD,List.getElem?_eq_none om];exact .top _
   have hD:=λw=>qf (.func f) va vb cx P w;obtain⟨o,e',s',b8,ck,mI,w1,a',⟨ho,v,hv,q⟩,jl,hF',hW⟩:=h body ⟨refs,rfl⟩ w0 μ ι δ w b a [] (c::cs) rfl hF;have w4:∃ todo,Steps P (lone (b.atR a [.code body]) (c::cs) w) (lone { b.atR a' todo with mode:=.returning } (c::cs) w1):=by
    rcases ho with rfl | rfl
    ·exact⟨[],Steps.trans jl (.one (stepR_end rfl))⟩
    ·obtain⟨k',jl⟩:=jl;exact⟨_,Steps.trans jl (.one (stepR_ret rfl))⟩
   obtain⟨todo,kU⟩:=w4;obtain⟨rs,hd,fM,Zf,YF⟩:=hW.marks;obtain⟨w2,tF,I2,x2⟩:=tV (P:=P) (fr:={ b.atR a' todo with mode:=.returning }) (cs:=c::cs) rfl rs mI w1 fM Zf YF hF'.now.inv;have ZO:{ b.atR a' todo with mode:=FrameMode.returning } = { ({ b.atR a' todo with mode:=FrameMode.returning } : Frame) with defers:=rs.map mark } := by
    have:a'.defers=rs.map mark:=by rw[hd];simp[a]
    simp[Frame.atR,this]
   rw[ZO]at kU;have hx:Ext μ ι δ w b8 ck δ w2:=⟨hW.ext.mu,hW.ext.io,λb o hi=>(x2.cell b o (hW.ext.io b o hi)).trans (hW.ext.cell b o hi),Nat.le_trans hW.ext.size x2.size,λ_ h=>h⟩;have KR:Fr P G w0 b8 ck δ s' w2 fn.ntmps e' a':=⟨hN.ext I2 hx,λt=>(hF'.re t).mono x2.cell (λ_ _ h=>h) (λ_ _ h=>h),hF'.size⟩;obtain⟨x,sC,ij⟩:=JG (c:=⟨P,G,refs,fn.ntmps⟩) rfl QT KR hv;refine⟨v,s',b8,ck,w2,x,q,⟨_,_,_,hD,hinv,?_⟩,I2,hx,hW.kept,ij⟩;show Steps P (lone (Frame.enter P f (va++cx++vb) .normal) (c::cs) w) (lone (c.finish x) cs w2);rw[xF];refine Steps.trans kU (Steps.trans tF (.one (step_leave_returned ?_)));exact⟨rfl,rfl,rfl,fn,hf,sC⟩
end
def vU:List Nat->List LV->Env->Env
 | p::ps,v::vs,e=>vU ps vs (Tr.set e p v)
 | _,_,e=>e
section
variable {P:Program}{G:bP}{w0:Bs}{μ b8:Mu}{ι ck:Io}{δ mI:Nat->Prop}{s s':St}{w w':World}{nt:Nat}{e:Env}{a:Act}{rd:Bool}
theorem Inv.less {b:Nat->bx->Code->Prop}(I:Inv b w0 μ ι mI s w) (h:∀ r,δ r->mI r):Inv b w0 μ ι δ s w:=
 ⟨I.below,I.oh,I.io,I.dR,I.sep,λr c=>I.defers r (h r c),I.low,I.own⟩
theorem Inv.Hx {r:Nat->bx->Code->Prop}(I:Inv r w0 μ ι δ s w) {id:Nat}{p:Place}{st st':LoopState}{M gm:Option Dx}{c:Env}{ps:List Nat}{as C:bx}{L:Loop}
 (u:s.get id=some (.loop st M c ps as C)) (g:μ id=some p) (D:w.heap[p.b]? = some (.loop L)) :
 Inv r w0 μ ι δ (s.put id (.loop st' gm c ps as C)) (w.putObj p.b (.loop { L with state:=st',pending:=gm.map Dx.code })) /\
  Ext μ ι δ w μ ι δ (w.putObj p.b (.loop { L with state:=st',pending:=gm.map Dx.code })):=by
 obtain⟨L',y,h1,h2,h3,U,V,h6,X⟩:=I.dR id _ p u g;rw[D]at y;cases y;have N:=I.oh id p g;have z:∀ k,k≠p.b->(w.putObj p.b (.loop { L with state:=st',pending:=gm.map Dx.code })).heap[k]? = w.heap[k]? := λk K=>World.putObj_heap_other K;have O:∀ b o v,w.cell? ⟨b,o,none⟩=some v->b≠p.b:=by
  rintro b o v l rfl;simp[World.cell?,D]at l
 have E:∀ b o,ι b o->(w.putObj p.b (.loop { L with state:=st',pending:=gm.map Dx.code })).cell? ⟨b,o,none⟩=w.cell? ⟨b,o,none⟩:=λb o n=>by
  obtain⟨v,l⟩:=I.io b o n;exact gS (z b (O b o v l))
 have Y:p.b<w.heap.size:=N.2.2;refine⟨⟨⟨I.below.os,I.below.tape,I.below.output,by rw[World.putObj_size];exact I.below.size,λk K=>by rw[z k (by have:=N.2.1;omega)];exact I.below.block k K⟩,
  λid p g=>by rw[World.putObj_size];exact I.oh id p g,λb o n=>by obtain⟨v,l⟩:=I.io b o n;exact⟨v,(E b o n).trans l⟩,λF b q d A=>?_,?_,λx hx=>?_,I.low,λb o n d=>(I.own b o n d).heap (z b (by obtain⟨v,l⟩:=I.io b o n;exact O b o v l))⟩,
  ⟨λ_ _ h=>h,λ_ _ h=>h,E,by rw[World.putObj_size];exact Nat.le_refl _,λ_ h=>h⟩⟩
 ·rw[St.az]at d;split at d
  ·rename_i B;subst B;cases d;obtain rfl:p=q:=Option.some.inj (g.symm.trans A);exact⟨_,World.putObj_heap_same Y,rfl,rfl,λt=>(h3 t).mono E (λ_ _ h=>h) (λ_ _ h=>h),U,V,h6,X⟩
  ·rename_i B;have Q:=I.dR F b q d A;have dB:q.b≠p.b:=by
    intro H;cases b with
    | cells m cs=>obtain⟨⟨x,h0⟩,_⟩:=Q;rw[H]at h0;simp[World.shape?,D]at h0
    | loop st M c ps as C=>exact B (I.sep F id _ _ q p d u rfl rfl A g H)
    | map es=>exact B (I.sep F id _ _ q p d u rfl rfl A g H)
    | iter m n0 seen R=>exact B (I.sep F id _ _ q p d u rfl rfl A g H)
   exact Q.mono (λ_ _ h=>h) (λ_ _ h=>h) E (z _ dB) (λ_ _ h=>h)
 ·intro i j b1 b2 p1 p2 g1 g2 Z o2 m1 m2 e;rw[St.az]at g1 g2;have f:∀ {k:Nat}{b:jU},(if k=id then some (jU.loop st' gm c ps as C) else s.get k)=some b->b.owns=true->∃ S,s.get k=some S/\S.owns=true:=by
   intro k b h ho;split at h
   ·rename_i e;subst e;exact⟨_,u,rfl⟩
   ·exact⟨b,h,ho⟩
  obtain⟨c1,k1,l1⟩:=f g1 Z;obtain⟨c2,k2,l2⟩:=f g2 o2;exact I.sep i j c1 c2 p1 p2 k1 k2 l1 l2 m1 m2 e
 ·obtain⟨a,b⟩:=I.defers x hx;refine⟨a,?_⟩;rw[z x ?_]
  ·exact b
  ·rintro rfl;rw[D]at b;cases b
theorem LM:∀ (ps:List Nat) (vs:List LV) (xs:List Value) (e:Env) (tmps:Array Value),vs.length=ps.length->xs.length=ps.length->(∀ i∈ps,i<tmps.size)->(∀ i,i<vs.length->Rv μ ι w (vs.getD i .top) (xs.getD i undef))->Re μ ι w e tmps ->
 Re μ ι w (vU ps vs e) ((ps.zip xs).foldl (λtmps (t,a)=>tmps.setIfInBounds t a) tmps)/\((ps.zip xs).foldl (λtmps (t,a)=>tmps.setIfInBounds t a) tmps).size=tmps.size:=by
 intro ps;induction ps with
 | nil=>intro vs xs e tmps h1 h2 h3 b c;simp[vU];exact c
 | cons p ps ih=>
   intro vs xs e tmps h1 h2 h3 b c;match vs,xs,h1,h2 with
   | v :: vs, x :: xs, h1, h2 =>
     simp only[vU,List.zip_cons_cons,List.foldl_cons];have h0:Re μ ι w (Tr.set e p v) (tmps.setIfInBounds p x):=by
      have:=Re.put (a:={ tmps:=tmps,defers:=[] }) (d:=some p) c (λt g=>by cases g;exact h3 p (by simp)) (by simpa using b 0 (by simp));exact this
     obtain⟨r1,r2⟩:=ih vs xs (Tr.set e p v) (tmps.setIfInBounds p x) (by simpa using h1) (by simpa using h2) (λi f=>by simp;exact h3 i (List.mem_cons_of_mem _ f)) (λi f=>by simpa using b (i+1) (by simpa using f)) h0;exact⟨r1,by rw[r2];simp⟩
def Round (id:Nat) (Q:LV->St->Prop):Out->Env->St->Prop
 | .normal,_,s=>∃ st d b ps as c,s.get id=some (.loop st d b ps as c)/\Q (.bool true) (s.put id (.loop .ready none b ps as c))
 | .jmp j,_,s=>∃ st d b ps as c,s.get id=some (.loop st d b ps as c)/\Q (.bool false) (s.put id (.loop .done (some j) b ps as c))
theorem zP {id:Nat}{d:Env}{ps:List Nat}{as u:bx}{n:Option Dx}{args:List LV}{Q:LV->St->Prop}(hg:s.get id=some (.loop .ready n d ps as u)) (hl:args.length=ps.length)
 (h:∀ nt,aX P G true nt as (vU ps args d) s (Cg (λO s1=>∃ n d ps X Y,s1.get id=some (.loop .ready n d ps X Y) /\
  aX P G true nt u O (s1.put id (.loop .busy n d ps X Y)) (Round id Q)) (λ_ _ _=>False))):aM P G (.rG id) args s Q:=by
 intro w0 μ ι δ w vf x c cs Z Fq jQ wW;cases Fq with
 | rG hp=>
   rename_i p;obtain⟨L,hL,h1,h2,h3,h4,h5,h6,h7⟩:=Z.inv.dR id _ p hg hp;have YJ:=run_yield (P:=P) (args:=x) hL (by rw[h5,jQ,hl];simp);let b:Frame:={ (default:Frame) with fn:=L.fn,kind:=.normal,roundOf:=some p.b };let tm:=(L.params.zip x).foldl (λtmps (t,a)=>tmps.setIfInBounds t a) L.tmps;have xF:Frame.round p.b L.fn tm L.assign L.body .normal=b.atR { tmps:=tm,defers:=[] } [.code L.assign, .beginRound, .code L.body]:=by
    simp[Frame.round,Frame.atR,b]
   have R:tm=(ps.zip x.toList).foldl (λtmps (t,a)=>tmps.setIfInBounds t a) L.tmps:=by
    simp only[tm,h5];rw[<- Array.foldl_toList,Array.toList_zip]
   obtain⟨WU,kO⟩:=LM (μ:=μ) (ι:=ι) (w:=w) ps args x.toList d L.tmps hl (by simpa[jQ] using hl) h4 (λi hi=>by
    have:=wW i hi;simpa[gD,gF] using this) h3
   rw[<- R]at WU kO;have hF:Fr P G w0 μ ι δ s w L.tmps.size (vU ps args d) { tmps:=tm,defers:=[] } := ⟨Z,WU,kO⟩;obtain⟨o,O,s1,I,jL,pK,y,a1,q,jl,z,f⟩:=h L.tmps.size L.assign h6 w0 μ ι δ w b _ [.beginRound, .code L.body] (c::cs) rfl hF;cases o with
   | jmp j=>exact q.elim
   | normal=>
     obtain⟨S,VI,A,B,C,lI,wC⟩:=q;have K:=f.ext.mu id p hp;obtain⟨M,D,k1,k2,k3,k4,k5,k6,k7⟩:=z.now.inv.dR id _ p lI K;obtain⟨I2,N⟩:=z.now.inv.Hx (st':=.busy) (gm:=S) lI K D;rw[<- k2]at I2 N;have U:(Instr.beginRound p.b).run P y = .ok () (y.putObj p.b (.loop { M with state:=.busy })):=run_beginRound D k1;have KR:Fr P G w0 I jL pK (s1.put id (.loop .busy S VI A B C)) (y.putObj p.b (.loop { M with state:=.busy })) L.tmps.size O a1:=⟨z.now.ext I2 N,z.re.ext N,z.size⟩;obtain⟨o,e3,s3,Tc,N1,E,w3,a3,q,l,F,g⟩:=wC L.body h7 w0 I jL pK _ b a1 [] (c::cs) rfl KR;have V:=g.ext.mu id p K;have Xc:Kept I s1 I (s1.put id (.loop .busy S VI A B C)):=Kept.put K _;have YF:∀ r,δ r->E r:=λr hr=>g.ext.de r (f.ext.de r hr);have H:Steps P (lone (Frame.round p.b L.fn tm L.assign L.body .normal) (c::cs) w) (lone (b.atR a1 [.code L.body]) (c::cs) (y.putObj p.b (.loop { M with state:=.busy }))):=by
      rw[xF];exact Steps.trans jl (.one (stepR_beginRound rfl U))
     have m:∀ (j:Option Dx),(∃ st n d ps as u,s3.get id=some (.loop st n d ps as u)/\Q (.bool j.isNone) (s3.put id (.loop (if j.isNone then .ready else .done) j d ps as u))) ->
      (∀ v w',(Instr.endRound p.b (j.map Dx.code)).run P w3 = .ok v w'->Steps P (lone (b.atR a1 [.code L.body]) (c::cs) (y.putObj p.b (.loop { M with state:=.busy }))) (lone (c.finish v) cs w')) ->
      ∃ lv s' b8 ck w' v,Q lv s'/\Goes P (.func (.yield p.b) #[] #[]) x w c cs v w'/\Inv (sM P G) w0 b8 ck δ s' w'/\Ext μ ι δ w b8 ck δ w'/\Kept μ s b8 s'/\Rv b8 ck w' lv v:=by
      intro j DM gV;obtain⟨st,pd,IT,X8,as3,bo3,wA,hQ⟩:=DM;obtain⟨L3,Xo,m1,m2,m3,m4,m5,m6,m7⟩:=F.now.inv.dR id _ p wA V;obtain⟨I4,x4⟩:=F.now.inv.Hx (st':=if j.isNone then .ready else .done) (gm:=j) wA V Xo;have k:=run_endRound (P:=P) (j.map Dx.code) Xo;have hj:(j.map Dx.code).isNone=j.isNone:=by cases j<;>rfl
      rw[hj]at k;have hx:Ext μ ι δ w Tc N1 E (w3.putObj p.b (.loop { L3 with state:=if j.isNone then .ready else .done,pending:=j.map Dx.code })):=((f.ext.trans N).trans g.ext).trans x4;refine⟨_,_,Tc,N1,_,_,hQ,⟨_, .round p.b L.fn tm L.assign L.body,w,λw=>qf _ _ _ _ P w,?_,?_⟩,I4.less YF,⟨hx.mu,hx.io,hx.cell,hx.size,λ_ h=>h⟩,?_, .bool _⟩
      ·simp only[invoke,Array.empty_append];exact YJ
      ·exact Steps.trans H (gV _ _ k)
      ·exact ((f.kept.trans Xc).trans g.kept).trans (Kept.put V _)
     rcases o with _ | _ | kB
     ·exact m none q λv w' k=>Steps.trans l (.one (stepR_round_end rfl rfl k))
     ·obtain⟨k',l⟩:=l;exact m (some .ret) q λv w' k=>Steps.trans l (.one (stepR_round_ret rfl rfl k))
     ·obtain⟨k',hk,l⟩:=l;exact m (some (.exit kB)) q λv w' k=>Steps.trans l (.one (stepR_round_exit rfl rfl hk k))
theorem zF {c:Ctx}{x:Code}{y:bF}{ps:List Nat}{as b:bx}(h:bA c x = .rangeFunc y ps as b):∃ g d p q,x = .rangeFunc g d p q/\cP c g=some y/\d.toList=ps/\(∀ i∈ps,i<c.nt)/\bA c p=as/\bA c q=b:=by
 cases x<;>simp only[bA,reduceCtorEq]at h
 ·split at h<;>cases h
 ·split at h<;>cases h
 ·split at h
  ·rename_i f;split at h
   ·rename_i j;cases h;exact⟨_,_,_,_,rfl,f,rfl,λi k=>by simpa using List.all_eq_true.1 j i k,rfl,rfl⟩
   ·cases h
  ·cases h
def Sv (id:Nat) (e:Env) (Q:Out->Env->St->Prop) (s:St):Prop:=
 ∃ st d b ps as c,s.get id=some (.loop st d b ps as c)/\st≠.busy/\(match d with | none=>Q .normal e (s.put id (.loop .exhausted none b ps as c)) | some j=>Q (.jmp j) e (s.put id (.loop .exhausted (some j) b ps as c)))
theorem ug {y:bF}{ps:List Nat}{as B:bx}{Q:Out->Env->St->Prop}(h:aM P G (y.ev e) [.rG s.n] (s.new (.loop .ready none e ps as B)) (λ_ s'=>Sv s.n e Q s')):aX P G false nt (.rangeFunc y ps as B) e s Q:=by
 rintro c ⟨refs,hc⟩ w0 μ ι δ w b a k cs hb o;obtain⟨g,O,p,q,rfl,hy,U,Fw,h1,h2⟩:=zF hc;have tL:b.roundOf=none:=by simpa using hb
 have AQ:=run_enterLoop_outer (P:=P) (w:=w) b.fn a.tmps O p q;let x:World:={ w with heap:=w.heap.push (.deferred (some [])) };let L:Loop:={ state:=.ready,pending:=none,fn:=b.fn,tmps:=a.tmps,params:=O,assign:=p,body:=q,defers:=w.heap.size };let f:World:={ x with heap:=x.heap.push (.loop L) };have V:cZ w x:=cZ.alloc w _;have kU:cZ x f:=cZ.alloc x _;have hs:cZ w f:=V.trans kU;have WK:x.heap.size=w.heap.size+1:=by simp[x]
 have xB:f.heap.size=w.heap.size+2:=by simp[f,x]
 have nT:f.heap[w.heap.size]? = some (.deferred (some [])):=by
  rw[kU.block _ (by rw[WK];exact Nat.lt_succ_self _)];simp[x]
 have pe:f.heap[w.heap.size+1]? = some (.loop L):=by
  rw[<- WK];simp[f]
 have z:=o.now.inv.same hs;have x1:=o.now.inv.fk hs;let u:Nat->Prop:=λr=>δ r∨r∈[w.heap.size];have X:Inv (sM P G) w0 μ ι u s f:=⟨z.below,z.oh,z.io,z.dR,z.sep,λr C=>by
  rcases C with C | C
  ·exact z.defers r C
  ·have:r=w.heap.size:=by simpa using C
   subst this;exact⟨o.now.inv.hB,nT⟩,z.low,z.own⟩
 have vi:Rb (sM P G) μ ι f ⟨w.heap.size+1,0,0⟩ (.loop .ready none e ps as B) :=
  ⟨L,pe,rfl,rfl,o.re.ext x1,λi Y=>by have:=Fw i Y;show i<a.tmps.size;rw[o.size];exact this,by rw[<- U],⟨refs,by show bA ⟨P,G,refs,a.tmps.size⟩ p=as;rw[o.size];exact h1⟩,⟨refs,by show bA ⟨P,G,refs,a.tmps.size⟩ q=B;rw[o.size];exact h2⟩⟩
 obtain⟨I2,x2⟩:=X.rD ⟨w.heap.size+1,0,0⟩ (.loop .ready none e ps as B) (by have:=o.now.inv.hB;show w0.heap.size<=w.heap.size+1;omega) (by show w.heap.size+1<f.heap.size;omega) vi
  (λ_ id b' p' _ _ hm he=>by have:=(o.now.inv.oh id p' hm).2.2;have he':p'.b=w.heap.size+1:=he;omega)
 have D:Ext μ ι δ w (μ.nB s.n ⟨w.heap.size+1,0,0⟩) ι u f:=⟨x2.mu,λ_ _ h=>h,x1.cell,hs.size,λ_ h=>.inl h⟩;have Z:Du P G w0 (μ.nB s.n ⟨w.heap.size+1,0,0⟩) ι u (s.new (.loop .ready none e ps as B)) f:=o.now.ext I2 D;have Xc:Kept μ s (μ.nB s.n ⟨w.heap.size+1,0,0⟩) (s.new (.loop .ready none e ps as B)):=Kept.new _ _;have A:(μ.nB s.n ⟨w.heap.size+1,0,0⟩) s.n=some ⟨w.heap.size+1,0,0⟩:=by simp[Mu.nB]
 have Fq:=CG (c:=⟨P,G,refs,nt⟩) rfl rfl o.now hy (λt _=>o.re t);let m:Act:={ a with defers:=mark w.heap.size::a.defers };obtain⟨lv,s3,F,H,I,v,hR,gL,I3,x3,QW,ij⟩:=h w0 _ ι u f (a.eval g) #[.func (.yield (w.heap.size+1)) #[] #[]] (b.atR m (.inRangeFunc (w.heap.size+1)::k)) cs Z (Fq.ext D) rfl (λi Y=>by
  have pN:i=0:=by simpa using Y
  subst pN;exact .rG A)
 obtain⟨st,K,IT,X8,M,N,wA,E,hQ⟩:=hR;have NI:=x3.mu _ _ A;obtain⟨R,Xo,m1,m2,m3,m4,m5,m6,m7⟩:=I3.dR _ _ _ wA NI;obtain⟨I4,x4⟩:=I3.Hx (st':=.exhausted) (gm:=K) wA NI Xo;rw[<- m2]at I4 x4;have Vf:=run_endLoop (P:=P) Xo (by rw[m1];exact E);obtain⟨d,nx,w2,g1,g2,S⟩:=gL;have hev:(b.atR m (.inRangeFunc (w.heap.size+1)::k)).eval=a.eval:=by rw[Frame.eval_atR];rfl
 have sC:(resolve a.eval (rangeCall g (w.heap.size+1)) 0).run P f = .ok d f:=by
  have:=g1 f;simpa[resolve,rangeCall,Act.eval] using this
 have iO:(b.atR m (.inRangeFunc (w.heap.size+1)::k)).finish v=b.atR m (.endRangeFunc (w.heap.size+1)::k):=finish_atR_inRangeFunc _ _;have Il:Steps P (lone (b.atR a (.code (.rangeFunc g O p q)::k)) cs w) (lone (b.atR m (.endRangeFunc (w.heap.size+1)::k)) cs I):=by
  have Rg:(Instr.enterLoop b.fn a.tmps O p q b.roundOf).run P w = .ok (w.heap.size+1,[mark w.heap.size]) f:=by rw[tL];exact AQ
  have ZQ:Frame.eval { fn:=b.fn,tmps:=a.tmps,todo:=.inRangeFunc (w.heap.size+1)::k,defers:=mark w.heap.size::a.defers,mode:=.run,kind:=b.kind,roundOf:=b.roundOf } = a.eval:=hev;have QH:Sem.run P (resolve a.eval { callee:=.value g,args:=#[.const (.func (.yield (w.heap.size+1)) #[] #[])],argTypes:=#[] } 0) f = .ok d f:=sC;cases nx<;>try (exact S.elim)
  case value v' =>
   obtain⟨rfl,rfl⟩:=S;refine .one (step_lone_go ?_);rw[<- iO];simp[stepG,stepG.exec,Frame.atR,Sem.runT_eq,Rg,GStep.bare_after,stepG.apply,ZQ,Sem.run_bind,QH,g2,Result.andThen,m]
  case enter f' xP =>
   refine .head (m₁:=lone (Frame.enter P f' xP .normal) (b.atR m (.inRangeFunc (w.heap.size+1)::k)::cs) w2) (step_lone_go ?_) (by rw[<- iO];exact S);simp[stepG,stepG.exec,Frame.atR,Sem.runT_eq,Rg,GStep.bare_after,stepG.apply,ZQ,Sem.run_bind,QH,g2,Result.andThen,m]
  case round l f' tmps xP NY =>
   refine .head (m₁:=lone (Frame.round l f' tmps xP NY .normal) (b.atR m (.inRangeFunc (w.heap.size+1)::k)::cs) w2) (step_lone_go ?_) (by rw[<- iO];exact S);simp[stepG,stepG.exec,Frame.atR,Sem.runT_eq,Rg,GStep.bare_after,stepG.apply,ZQ,Sem.run_bind,QH,g2,Result.andThen,m]
 have w4:=stepR_endRangeFunc (b:=b) (a:=m) (k:=k) (cs:=cs) Vf;have hx:Ext μ ι δ w F H u (I.putObj (w.heap.size+1) (.loop { R with state:=.exhausted })):=(D.trans x3).trans x4;have Xq:Fr P G w0 F H u (s3.put s.n (.loop .exhausted K IT X8 M N)) (I.putObj (w.heap.size+1) (.loop { R with state:=.exhausted })) nt e m:=⟨o.now.ext I4 hx,o.re.ext hx,o.size⟩;have hW:sO μ ι δ s w a.defers F H u (s3.put s.n (.loop .exhausted K IT X8 M N)) (I.putObj (w.heap.size+1) (.loop { R with state:=.exhausted })) m.defers:=by
  refine⟨hx,(Xc.trans QW).trans (Kept.put NI _),[w.heap.size],rfl,by simp,λr C hd=>?_,λr=>Iff.rfl⟩;have:r=w.heap.size:=by simpa using C
  subst this;obtain⟨_,hh⟩:=o.now.inv.defers _ hd;simp at hh
 have Rh:step P (lone (b.atR m (.endRangeFunc (w.heap.size+1)::k)) cs I) = .next (lone (b.atR m (((K.map Dx.code).map Item.code).toList++k)) cs (I.putObj (w.heap.size+1) (.loop { R with state:=.exhausted }))):=by
  have h:=w4;rw[m2]at h ⊢;exact h
 cases K with
 | none=>exact⟨.normal,e,_,F,H,u,_,m,hQ,Steps.trans Il (.one Rh),Xq,hW⟩
 | some j=>
   cases j with
   | ret=>exact⟨.jmp .ret,e,_,F,H,u,_,m,hQ,⟨k,Steps.trans Il (.one Rh)⟩,Xq,hW⟩
   | exit id=>exact⟨.jmp (.exit id),e,_,F,H,u,_,m,hQ,⟨k,rfl,Steps.trans Il (.one Rh)⟩,Xq,hW⟩
end
theorem cV:∀ {l:List LV}{i:Nat},LV.closed.au l=true->i<l.length->(l.getD i .top).closed=true:=by
 intro l;induction l with
 | nil=>intro i _ h;exact absurd h (Nat.not_lt_zero _)
 | cons v l ih=>
   intro i h b;simp only[LV.closed.au,Bool.and_eq_true]at h;cases i with
   | zero=>exact h.1
   | succ i=>simpa using ih h.2 (by simpa using b)
section
variable {P:Program}{G:bP}{w0:Bs}{μ b8:Mu}{ι ck:Io}{δ:Nat->Prop}{s s':St}{w w':World}
theorem Rv.closed {v:LV}{x:Value}(h:Rv μ ι w v x):v.closed=true->Rv b8 ι w v x:=by
 induction h with
 | top v=>intro c;cases c
 | bool b=>intro _;exact .bool b
 | int k n=>intro _;exact .int k n
 | str s=>intro _;exact .str s
 | agg hl _ ih=>intro c;exact .agg hl λi d=>ih i d (cV c d)
 | cE hl _ ih=>intro c;exact .cE hl λi d=>ih i d (cV c d)
 | eS=>intro _;exact .eS
 | aY vs c d h1 _ ih=>intro f;exact .aY vs c d h1 λi d=>ih i d (cV f d)
 | aO g=>intro c;cases c
 | aq=>intro _;exact .aq
 | zs a=>intro _;exact .zs a
 | aF vs c d h1 _ j ih=>intro f;exact .aF vs c d h1 (λi d=>ih i d (cV f d)) j
 | aE g o j p=>intro c;cases c
 | fn hl l _ _ ih m =>
   intro c;simp only[LV.closed,Bool.and_eq_true]at c;exact .fn hl l (λi d=>ih i d (cV c.1 d)) (λi d=>m i d (cV c.2 d))
 | js=>intro _;exact .js
 | rG g=>intro c;cases c
 | su _ ih=>intro c;exact .su (ih c)
 | lU=>intro _;exact .lU
 | cm=>intro _;exact .cm
 | aR g=>intro c;cases c
structure ny (P:Program) (G:bP) (f:LV) (args:List LV) (R:LV->Prop):Prop where
  cf:f.closed=true
  K5:LV.closed.au args=true
  call:aM P G f args St.empty (λv s'=>∃ r lD,cY bp v s'=some (r,lD)/\r.closed=true/\R r)
structure fu (P:Program) (G:bP) (f:LV) (args:List LV) (r:LV):Prop where
  cf:f.closed=true
  K5:LV.closed.au args=true
  cr:r.closed=true
  call:aM P G f args St.empty (λv s'=>∃ lD,cY bp v s'=some (r,lD))
theorem fu.ex {f r:LV}{args:List LV}(h:fu P G f args r):ny P G f args (λx=>x=r) :=
 ⟨h.cf,h.K5,aM.mono h.call λv s' b=>by obtain⟨c,d⟩:=b;exact⟨r,c,d,h.cr,rfl⟩⟩
theorem mP (E:∀ x∈G,LV.closed.au x.2=true) {f:LV}{args:List LV}{R:LV->Prop}(h:ny P G f args R) {Q:LV->St->Prop}(F:∀ r,R r->r.closed=true->Q r s):aM P G f args s Q:=by
 intro w0 μ ι δ w H I c cs k K L M;let m:Bs:=⟨w,ι⟩;let n:Mu:=λ_=>none;have t:Du P G m n ι (λ_=>False) St.empty w:=by
  refine⟨⟨Below.refl _ _,λid p l=>(by cases l),k.inv.io,λid b p _ l=>(by cases l),λ_ _ _ _ _ _ j=>(by cases j),λ_ N=>N.elim,λb o d _=>d,λb o d j=>by obtain⟨v,O⟩:=k.inv.io b o d;have:=uU O;exact absurd j (by show ¬ w.heap.size<=b;omega)⟩,λx hx=>?_,λho b o d=>k.plain ho d⟩;exact (k.RJ x hx).closed (by simpa[LV.closed] using E x hx)
 obtain⟨lv,s1,oX,S,u,v,⟨r,s2,U,C,V⟩,X,Y,hx,hk,Z⟩:=h.call m n ι (λ_=>False) w H I c cs t (K.closed h.cf) L (λi d=>(M i d).closed (cV h.K5 d));obtain⟨y,q,x2,XT,_⟩:=zy bp lv s1 r s2 S v U Y Z;have z:cZ w u:=cZ.Pz q.below;have g:=k.inv.same z;have bW:∀ b o,ι b o->u.cell? ⟨b,o,none⟩=w.cell? ⟨b,o,none⟩:=k.inv.vK z;have A:∀ b o,y b o->b<w.heap.size->ι b o:=q.low;have D:∀ b o,ι b o->y b o:=λb o d=>x2.io b o (hx.io b o d);refine⟨r,s,μ,y,u,v,F r V C,X,⟨g.below,g.oh,q.io,λid b p j l=>?_,g.sep,g.defers,λb o d j=>?_,λb o d j=>?_⟩,⟨λ_ _ h=>h,D,bW,z.size,λ_ h=>h⟩,Kept.refl _ _,XT.closed C⟩
 ·have hd:=(k.inv.oh id p l).2.2;exact (g.dR id b p j l).mono (λ_ _ h=>h) D (λ_ _ _=>rfl) rfl (λ_ i d=>A _ _ d hd)
 ·have B:b<w.heap.size:=Nat.lt_of_lt_of_le j k.inv.hB;exact k.inv.low b o (A b o d B) j
 ·by_cases B:b<w.heap.size
  ·exact g.own b o (A b o d B) j
  ·exact q.own b o d (by show w.heap.size<=b;omega)
theorem iD (b:∀ x∈G,LV.closed.au x.2=true) {f r:LV}{args:List LV}(h:fu P G f args r) {Q:LV->St->Prop}(c:Q r s):aM P G f args s Q:=
 mP b h.ex λx hx _=>by subst hx;exact c
theorem n9 {f:LV}{args args':List LV}{Q:LV->St->Prop}(j:cY.cM (cY bp) args s=some (args',s')) (h:aM P G f args' s' Q):aM P G f args s Q:=by
 intro w0 μ ι δ w k d c cs g l m n;obtain⟨o,p,b,l1,r1,f1⟩:=iF (zy bp) _ _ _ _ ι (λi=>d.getD i undef) j g.inv n;obtain⟨lv,s2,r,t,u,v,q,x,y,z,A,B⟩:=h w0 μ o δ w k d c cs (g.ext p b) (l.ext b) (by rw[l1];exact m) (λi C=>r1 i (by rw[<- l1];exact C));exact⟨lv,s2,r,t,u,v,q,x,y,b.trans z,(Kept.CI f1).trans A,B⟩
end
def LV.old (n:Nat):LV->Bool
 | .aE id _ _ _=>Nat.blt id n
 | .aO id _=>Nat.blt id n
 | .aR id=>Nat.blt id n
 | .rG id=>Nat.blt id n
 | .agg cs=>Ax n cs
 | .cE cs=>Ax n cs
 | .aY cs _=>Ax n cs
 | .aF cs _=>Ax n cs
 | .fn _ a b=>Ax n a && Ax n b
 | .su _ v=>v.old n
 | _=>true
 where Ax (n:Nat):List LV->Bool
 | []=>true
 | v::l=>v.old n && Ax n l
def Mu.cut (μ:Mu) (n:Nat):Mu:=λid=>if id<n then μ id else none
theorem lT {n:Nat} : ∀ {l:List LV}{i:Nat},LV.old.Ax n l=true->i<l.length->(l.getD i .top).old n=true:=by
 intro l;induction l with
 | nil=>intro i _ h;exact absurd h (Nat.not_lt_zero _)
 | cons v l ih=>
   intro i h b;simp only[LV.old.Ax,Bool.and_eq_true]at h;cases i with
   | zero=>simpa using h.1
   | succ i=>simpa using ih h.2 (by simpa using b)
def Tr.cut {α:Type} : Tr α->Nat->Tr α
 | .nil,_=>.nil
 | .node l v r,n=>if n=0 then .nil else .node (l.cut (n / 2)) v (r.cut ((n - 1) / 2))
theorem Tr.xL {α:Type}(t:Tr α):∀ (n i:Nat),(t.cut n).get i=if i<n then t.get i else none:=by
 induction t with
 | nil=>intro n i;simp[Tr.cut,Tr.get]
 | node l v r b c=>
   intro n i;unfold Tr.cut;by_cases f:n=0
   ·subst f;simp
   ·rw[if_neg f];simp only[Tr.get];by_cases d:i=0
    ·subst d;rw[if_pos rfl,if_pos om,if_pos rfl]
    ·rw[if_neg d,if_neg d];by_cases ho:i % 2=1
     ·rw[if_pos ho,if_pos ho,b];by_cases h:i<n
      ·rw[if_pos om,if_pos h]
      ·rw[if_neg om,if_neg h]
     ·rw[if_neg ho,if_neg ho,c];by_cases h:i<n
      ·rw[if_pos om,if_pos h]
      ·rw[if_neg om,if_neg h]
def Tr.zX {α:Type}(p:α->Bool):Tr α->Bool
 | .nil=>true
 | .node l v r=>l.zX p && (match v with | some x=>p x | none=>true) && r.zX p
theorem Tr.Gs {α:Type}{p:α->Bool}(t:Tr α):∀ {i:Nat}{x:α},t.zX p=true->t.get i=some x->p x=true:=by
 induction t with
 | nil=>intro i x _ h;cases h
 | node l v r c d=>
   intro i x b h;simp only[Tr.zX,Bool.and_eq_true]at b;simp only[Tr.get]at h;split at h
   ·subst h;exact b.1.2
   ·split at h
    ·exact c b.1.1 h
    ·exact d b.2 h
def St.cut (s:St) (n:Nat):St:=⟨n,s.h.cut n⟩
theorem St.xL (s:St) (n id:Nat):(s.cut n).get id=if id<n then s.get id else none:=Tr.xL _ _ _
def jU.old (n:Nat):jU->Bool
 | .cells _ cs=>LV.old.Ax n cs
 | .map es=>es.all λx=>x.1.old n && x.2.old n
 | .iter m _ _ _=>(match m with | some id=>Nat.blt id n | none=>true)
 | .loop _ _ b _ _ _=>b.zX (LV.old n)
section
variable {w:World}{μ:Mu}{ι:Io}
theorem Mu.rB {n id:Nat}{p:Place}(h:μ id=some p) (b:Nat.blt id n=true):μ.cut n id=some p:=by
 have:id<n:=Nat.le_of_ble_eq_true b;simp[Mu.cut,this,h]
theorem Rv.cut {n:Nat}{v:LV}{x:Value}(h:Rv μ ι w v x):v.old n=true->Rv (μ.cut n) ι w v x:=by
 induction h with
 | top v=>intro _;exact .top v
 | bool b=>intro _;exact .bool b
 | int k n=>intro _;exact .int k n
 | str s=>intro _;exact .str s
 | agg hl _ ih=>intro ho;exact .agg hl λi c=>ih i c (lT (by simpa[LV.old] using ho) c)
 | cE hl _ ih=>intro ho;exact .cE hl λi c=>ih i c (lT (by simpa[LV.old] using ho) c)
 | eS=>intro _;exact .eS
 | aY vs f c h1 _ ih=>intro ho;exact .aY vs f c h1 λi c=>ih i c (lT (by simpa[LV.old] using ho) c)
 | aO d=>intro ho;exact .aO (Mu.rB d (by simpa[LV.old] using ho))
 | aq=>intro _;exact .aq
 | zs a=>intro _;exact .zs a
 | aF vs f c h1 _ g ih=>intro ho;exact .aF vs f c h1 (λi c=>ih i c (lT (by simpa[LV.old] using ho) c)) g
 | aE d j g l=>intro ho;exact .aE (Mu.rB d (by simpa[LV.old] using ho)) j g l
 | fn hl m _ _ ih o =>
   intro ho;simp only[LV.old,Bool.and_eq_true]at ho;exact .fn hl m (λi c=>ih i c (lT ho.1 c)) (λi c=>o i c (lT ho.2 c))
 | js=>intro _;exact .js
 | rG d=>intro ho;exact .rG (Mu.rB d (by simpa[LV.old] using ho))
 | su _ ih=>intro ho;exact .su (ih (by simpa[LV.old] using ho))
 | lU=>intro _;exact .lU
 | cm=>intro _;exact .cm
 | aR d=>intro ho;exact .aR (Mu.rB d (by simpa[LV.old] using ho))
theorem Re.cut {n:Nat}{e:Env}{tmps:Array Value}(h:Re μ ι w e tmps) (ho:e.zX (LV.old n)=true):Re (μ.cut n) ι w e tmps:=by
 intro t;refine (h t).cut ?_;unfold Env.at;cases b:Tr.get e t with
 | none=>rfl
 | some v=>exact Tr.Gs e ho b
theorem Rb.cut {d:Nat->bx->Code->Prop}{p:Place}{b:jU}{n:Nat}(h:Rb d μ ι w p b) (ho:b.old n=true):Rb d (μ.cut n) ι w p b:=by
 cases b with
 | cells m cs=>
   obtain⟨h1,h2,h3,f,g,h6,r⟩:=h;exact⟨h1,h2,λi j=>by obtain⟨v,a,b,c⟩:=h3 i j;exact⟨v,a,b,λo=>(c o).cut (lT (by simpa[jU.old] using ho) o)⟩,f,g,h6,r⟩
 | map k=>
   obtain⟨l,h1,h2,h3⟩:=h;refine⟨l,h1,h2,λi j=>?_⟩;obtain⟨t,u,y,z⟩:=h3 i j;have hm:k.getD i default∈k:=by
    have:k.getD i default=k[i]:=by simp[gD,j]
    rw[this];exact List.getElem_mem j
   have:=List.all_eq_true.1 (show (k.all λx=>x.1.old n && x.2.old n)=true from ho) _ hm;simp only[Bool.and_eq_true]at this;exact⟨t,u,y.cut this.1,z.cut this.2⟩
 | iter m C seen q=>
   obtain⟨h1,A,h2,h3⟩:=h;refine⟨h1,A,h2,?_⟩;cases m with
   | none=>exact h3
   | some id=>obtain⟨pm,f,g⟩:=h3;exact⟨pm,Mu.rB f ho,g⟩
 | loop st D B ps as E=>
   obtain⟨L,h1,h2,h3,f,g⟩:=h;exact⟨L,h1,h2,h3,f.cut ho,g⟩
theorem Mu.k8 {n id:Nat}{p:Place}(h:μ.cut n id=some p):id<n/\μ id=some p:=by
 unfold Mu.cut at h;split at h
 ·exact⟨by assumption,h⟩
 ·cases h
theorem St.k8 {s:St}{n id:Nat}{b:jU}(h:(s.cut n).get id=some b):id<n/\s.get id=some b:=by
 rw[St.xL]at h;split at h
 ·exact⟨by assumption,h⟩
 ·cases h
theorem Inv.cut {c:Nat->bx->Code->Prop}{w0:Bs}{δ:Nat->Prop}{s:St}{n:Nat}(I:Inv c w0 μ ι δ s w) (ho:(s.cut n).h.zX (jU.old n)=true):Inv c w0 (μ.cut n) ι δ (s.cut n) w:=
 ⟨I.below,λid p d=>⟨(Mu.k8 d).1,(I.oh id p (Mu.k8 d).2).2⟩,I.io,
  λid b p f d=>(I.dR id b p (St.k8 f).2 (Mu.k8 d).2).cut (Tr.Gs _ ho f),
  λi j b g p k h1 h2 h3 l m h6=>I.sep i j b g p k (St.k8 h1).2 (St.k8 h2).2 h3 l (Mu.k8 m).2 (Mu.k8 h6).2,I.defers,I.low,I.own⟩
theorem Sf {P:Program}{G:bP}{f:LV}{args:List LV}{s:St}{Q Q':LV->St->Prop}(h:aM P G f args s Q)
 (u:∀ v s',Q v s'->Q' v s'∨(v.old s.n=true/\(s'.cut s.n).h.zX (jU.old s.n)=true/\Q' v (s'.cut s.n))):aM P G f args s Q':=by
 intro w0 μ ι δ w x y c cs i z A B;obtain⟨lv,s1,j,k,l,v,q,m,o,hx,d,r⟩:=h w0 μ ι δ w x y c cs i z A B;rcases u _ _ q with g | ⟨h1,h2,g⟩
 ·exact⟨lv,s1,j,k,l,v,g,m,o,hx,d,r⟩
 ·refine⟨lv,s1.cut s.n,j.cut s.n,k,l,v,g,m,o.cut h2,⟨λid p t=>?_,hx.io,hx.cell,hx.size,hx.de⟩,⟨Nat.le_refl _,λid b hm=>?_,λid b hm=>?_⟩,r.cut h1⟩
  ·have:=(i.inv.oh id p t).1;simp[Mu.cut,this,hx.mu id p t]
  ·rw[St.xL,if_pos b];exact d.get id b hm
  ·have:=d.free id b hm;simp[Mu.cut,this]
end
open Go
def LV.og:LV->LV->Bool
 | .top, .top=>true
 | .bool a, .bool b=>a == b
 | .int k a, .int k' b=>k == k' && a == b
 | .str a, .str b=>decide (a.data.toList=b.data.toList)
 | .agg a, .agg b=>ig a b
 | .cE a, .cE b=>ig a b
 | .eS, .eS | .aq, .aq | .zs, .zs | .js, .js | .lU, .lU | .cm, .cm=>true
 | .aY a i, .aY b j=>i == j && ig a b
 | .aF a i, .aF b j=>i == j && ig a b
 | .aO i o, .aO j p=>i == j && o == p
 | .aE a b c d, .aE a' b' c' d'=>a == a' && b == b' && c == c' && d == d'
 | .rG i, .rG j=>i == j
 | .aR i, .aR j=>i == j
 | .su t a, .su u b=>t == u && a.og b
 | .fn f a b, .fn f' a' b'=>decide (f=f') && ig a a' && ig b b'
 | _,_=>false
 where ig:List LV->List LV->Bool
 | [],[]=>true
 | a::l,b::r=>a.og b && ig l r
 | _,_=>false
mutual
theorem LV.gH:∀ (a b:LV),a.og b=true->a=b:=by
 intro a b h;cases a<;>cases b<;>simp only[LV.og,Bool.and_eq_true,beq_iff_eq,decide_eq_true_eq,Bool.false_eq_true]at h
 case bool.bool=>rw[h]
 case int.int=>rw[h.1,h.2]
 case str.str x y=>
  congr 1;cases x;cases y;congr 1;exact Array.ext' h
 case agg.agg=>rw[LV.gI _ _ h]
 case cE.cE=>rw[LV.gI _ _ h]
 case eS.eS=>rfl
 case aY.aY=>rw[h.1,LV.gI _ _ h.2]
 case aO.aO=>rw[h.1,h.2]
 case aq.aq=>rfl
 case zs.zs=>rfl
 case aF.aF=>rw[h.1,LV.gI _ _ h.2]
 case aE.aE=>rw[h.1.1.1,h.1.1.2,h.1.2,h.2]
 case js.js=>rfl
 case top.top=>rfl
 case rG.rG=>rw[h]
 case su.su=>rw[h.1,LV.gH _ _ h.2]
 case lU.lU=>rfl
 case cm.cm=>rfl
 case aR.aR=>rw[h]
 case fn.fn f x y g u v=>
  rw[h.1.1,LV.gI _ _ h.1.2,LV.gI _ _ h.2]
theorem LV.gI:∀ (a b:List LV),LV.og.ig a b=true->a=b:=by
 intro a b h;cases a<;>cases b<;>simp only[LV.og.ig,Bool.and_eq_true,Bool.false_eq_true]at h
 ·rfl
 ·rw[LV.gH _ _ h.1,LV.gI _ _ h.2]
end
mutual
theorem LV.n5:∀ a:LV,a.og a=true:=by
 intro a;cases a<;>simp[LV.og]
 case agg l=>exact LV.eV l
 case cE l=>exact LV.eV l
 case aY l o=>exact LV.eV l
 case aF l n=>exact LV.eV l
 case fn f a b=>exact⟨LV.eV a,LV.eV b⟩
 case su t v=>exact LV.n5 v
theorem LV.eV:∀ l:List LV,LV.og.ig l l=true:=by
 intro l;cases l with
 | nil=>rfl
 | cons a l=>simp[LV.og.ig,LV.n5 a,LV.eV l]
end
instance:DecidableEq LV:=λa b=>if h:a.og b=true then isTrue (LV.gH a b h) else isFalse λe=>h (e ▸ LV.n5 a)
mutual
def cT.og:cT->cT->Bool
 | .bool, .bool | .int, .int | .str, .str | .ptr, .ptr | .Li, .Li | .mp, .mp | .fnc, .fnc | .su, .su=>true
 | .struct a, .struct b=>cT.ig a b
 | _,_=>false
def cT.ig:List (Nat × Nat × cT)->List (Nat × Nat × cT)->Bool
 | [],[]=>true
 | (x,y,t)::l,(b,c,d)::r=>x == b && y == c && t.og d && cT.ig l r
 | _,_=>false
end
mutual
theorem cT.gH:∀ (a b:cT),a.og b=true->a=b:=by
 intro a b h;cases a<;>cases b<;>first | rfl | (simp only[cT.og,Bool.false_eq_true]at h;done) | (simp only[cT.og]at h;rw[cT.gI _ _ h])
theorem cT.gI:∀ (a b:List (Nat × Nat × cT)),cT.ig a b=true->a=b:=by
 intro a b h;match a,b with
 | [],[]=>rfl
 | [],_::_=>simp[cT.ig]at h
 | _::_,[]=>simp[cT.ig]at h
 | (x,y,t)::l,(c,d,f)::r=>
   simp only[cT.ig,Bool.and_eq_true,beq_iff_eq]at h;rw[h.1.1.1,h.1.1.2,cT.gH _ _ h.1.2,cT.gI _ _ h.2]
end
mutual
theorem cT.n5:∀ a:cT,a.og a=true:=by
 intro a;cases a<;>first | rfl | (simp only[cT.og];exact cT.eV _)
theorem cT.eV:∀ l:List (Nat × Nat × cT),cT.ig l l=true:=by
 intro l;match l with
 | []=>rfl
 | (x,y,t)::l=>simp[cT.ig,cT.n5 t,cT.eV l]
end
instance:DecidableEq cT:=λa b=>if h:a.og b=true then isTrue (cT.gH a b h) else isFalse λe=>h (e ▸ cT.n5 a)
deriving instance BEq,ReflBEq,LawfulBEq for bF
deriving instance BEq,ReflBEq,LawfulBEq for Dw
deriving instance BEq,ReflBEq,LawfulBEq for bq
deriving instance BEq,ReflBEq,LawfulBEq for bC
deriving instance BEq,ReflBEq,LawfulBEq for bx
deriving instance DecidableEq for Dx
def JY {α:Type}(f:α->α->Bool):Option α->Option α->Bool
 | none,none=>true
 | some a,some b=>f a b
 | _,_=>false
def Tr.og {α:Type}(f:α->α->Bool):Tr α->Tr α->Bool
 | .nil, .nil=>true
 | .node l v r, .node b v' r'=>JY f v v' && Tr.og f l b && Tr.og f r r'
 | _,_=>false
def Mg:List (LV × LV)->List (LV × LV)->Bool
 | [],[]=>true
 | (a,b)::l,(c,b')::r=>a.og c && b.og b' && Mg l r
 | _,_=>false
def tB:List Nat->List Nat->Bool
 | [],[]=>true
 | a::l,b::r=>Nat.beq a b && tB l r
 | _,_=>false
def Yj:Md->Md->Bool
 | .mut, .mut | .app, .app | .ro, .ro=>true
 | _,_=>false
def jU.og:jU->jU->Bool
 | .cells m cs, .cells m' cs'=>Yj m m' && LV.og.ig cs cs'
 | .map es, .map es'=>Mg es es'
 | .iter m n s l, .iter m' f s' g=>JY Nat.beq m m' && Nat.beq n f && tB s s' && Nat.beq l g
 | .loop st h c ps as i, .loop st' gm b d j k=>decide (st=st') && decide (h=gm) && Tr.og LV.og c b && tB ps d && as == j && i == k
 | _,_=>false
def St.og (a b:St):Bool:=Nat.beq a.n b.n && Tr.og jU.og a.h b.h
theorem EL {α:Type}{f:α->α->Bool}(c:∀ a b,f a b=true->a=b) {a b:Option α}(h:JY f a b=true):a=b:=by
 cases a<;>cases b<;>simp only[JY,Bool.false_eq_true]at h
 ·rfl
 ·rw[c _ _ h]
theorem Tr.gH {α:Type}{f:α->α->Bool}(g:∀ a b,f a b=true->a=b):∀ {a b:Tr α},Tr.og f a b=true->a=b:=by
 intro a;induction a with
 | nil=>intro b h;cases b<;>simp only[Tr.og,Bool.false_eq_true]at h;rfl
 | node l v r c d=>
   intro b h;cases b<;>simp only[Tr.og,Bool.false_eq_true,Bool.and_eq_true]at h;rw[EL g h.1.1,c h.1.2,d h.2]
theorem Ur:∀ {a b:List (LV × LV)},Mg a b=true->a=b:=by
 intro a;induction a with
 | nil=>intro b h;cases b<;>simp only[Mg,Bool.false_eq_true]at h;rfl
 | cons x a ih=>
   intro b h;obtain⟨c,d⟩:=x;cases b with
   | nil=>simp only[Mg,Bool.false_eq_true]at h
   | cons y b=>
     obtain⟨f,g⟩:=y;simp only[Mg,Bool.and_eq_true]at h;rw[LV.gH _ _ h.1.1,LV.gH _ _ h.1.2,ih h.2]
theorem BD:∀ {a b:List Nat},tB a b=true->a=b:=by
 intro a;induction a with
 | nil=>intro b h;cases b<;>simp only[tB,Bool.false_eq_true]at h;rfl
 | cons x a ih=>
   intro b h;cases b with
   | nil=>simp only[tB,Bool.false_eq_true]at h
   | cons y b=>
     simp only[tB,Bool.and_eq_true]at h;rw[Nat.eq_of_beq_eq_true h.1,ih h.2]
theorem Ui {a b:Md}(h:Yj a b=true):a=b:=by
 cases a<;>cases b<;>first | rfl | (simp only[Yj,Bool.false_eq_true]at h)
theorem jU.gH {a b:jU}(h:a.og b=true):a=b:=by
 cases a<;>cases b<;>simp only[jU.og,Bool.and_eq_true,Bool.false_eq_true,decide_eq_true_eq,beq_iff_eq]at h
 ·rw[Ui h.1,LV.gI _ _ h.2]
 ·rw[Ur h]
 ·rw[EL (λa b h=>Nat.eq_of_beq_eq_true h) h.1.1.1,Nat.eq_of_beq_eq_true h.1.1.2,BD h.1.2,Nat.eq_of_beq_eq_true h.2]
 ·rw[h.1.1.1.1.1,h.1.1.1.1.2,Tr.gH LV.gH h.1.1.1.2,BD h.1.1.2,h.1.2,h.2]
theorem St.gH {a b:St}(h:a.og b=true):a=b:=by
 cases a;cases b;simp only[St.og,Bool.and_eq_true]at h;rw[Nat.eq_of_beq_eq_true h.1,Tr.gH (λ_ _=>jU.gH) h.2]
def LV.beq:LV->LV->Bool
 | .bool a, .bool b=>a == b
 | .int k a, .int k' b=>k == k' && a == b
 | .str a, .str b=>decide (a.data.toList=b.data.toList)
 | .agg a, .agg b=>nw a b
 | .cE a, .cE b=>nw a b
 | .eS, .eS | .aq, .aq | .zs, .zs | .js, .js | .lU, .lU | .cm, .cm=>true
 | .aY a i, .aY b j=>i == j && nw a b
 | .aF a i, .aF b j=>i == j && nw a b
 | .aO i o, .aO j p=>i == j && o == p
 | .aE a b c d, .aE a' b' c' d'=>a == a' && b == b' && c == c' && d == d'
 | .rG i, .rG j=>i == j
 | .aR i, .aR j=>i == j
 | .su t a, .su u b=>t == u && a.beq b
 | .fn f a b, .fn f' a' b'=>(match f,f' with | .func k, .func k'=>k == k' && nw a a' && nw b b' | _,_=>false)
 | _,_=>false
 where nw:List LV->List LV->Bool
 | [],[]=>true
 | a::l,b::r=>a.beq b && nw l r
 | _,_=>false
mutual
theorem LV.beq_eq:∀ (a b:LV),a.beq b=true->a=b:=by
 intro a b h;cases a<;>cases b<;>simp only[LV.beq,Bool.and_eq_true,beq_iff_eq,decide_eq_true_eq,Bool.false_eq_true]at h
 case bool.bool=>rw[h]
 case int.int=>rw[h.1,h.2]
 case str.str x y=>
  congr 1;cases x;cases y;congr 1;exact Array.ext' h
 case agg.agg=>rw[LV.iH _ _ h]
 case cE.cE=>rw[LV.iH _ _ h]
 case eS.eS=>rfl
 case aY.aY=>rw[h.1,LV.iH _ _ h.2]
 case aO.aO=>rw[h.1,h.2]
 case aq.aq=>rfl
 case zs.zs=>rfl
 case aF.aF=>rw[h.1,LV.iH _ _ h.2]
 case aE.aE=>rw[h.1.1.1,h.1.1.2,h.1.2,h.2]
 case js.js=>rfl
 case rG.rG=>rw[h]
 case su.su=>rw[h.1,LV.beq_eq _ _ h.2]
 case lU.lU=>rfl
 case cm.cm=>rfl
 case aR.aR=>rw[h]
 case fn.fn f x y g u v=>
  cases f<;>cases g<;>simp only[Bool.and_eq_true,beq_iff_eq,Bool.false_eq_true]at h;rw[h.1.1,LV.iH _ _ h.1.2,LV.iH _ _ h.2]
theorem LV.iH:∀ (a b:List LV),LV.beq.nw a b=true->a=b:=by
 intro a b h;cases a<;>cases b<;>simp only[LV.beq.nw,Bool.and_eq_true,Bool.false_eq_true]at h
 ·rfl
 ·rw[LV.beq_eq _ _ h.1,LV.iH _ _ h.2]
end
def zL:List (Nat × Option (Nat × Bool) × bq)->Env->St->Bool
 | [],_,_=>true
 | (t,g,o)::r,e,s=>
   (match aK g e with
    | some false=>true
    | some true=>iy o && (match o.run e s with | some (v,_)=>v.beq (e.at t) | none=>false)
    | none=>false) && zL r e s
theorem uS:∀ {l:List (Nat × Option (Nat × Bool) × bq)}{e:Env}{s:St},zL l e s=true->dG l e s:=by
 intro l;induction l with
 | nil=>intro e s _;trivial
 | cons p l ih=>
   obtain⟨t,g,o⟩:=p;intro e s h;simp only[zL,Bool.and_eq_true]at h;refine⟨?_,ih h.2⟩;have h1:=h.1;split at h1
   ·rename_i b;exact .inl b
   ·rename_i b;simp only[Bool.and_eq_true]at h1;obtain⟨hl,h1⟩:=h1;refine .inr ⟨b,?_⟩;split at h1
    ·rename_i v s' c;rw[c,LV.beq_eq _ _ h1,vF hl c]
    ·cases h1
   ·cases h1
inductive Tk where
  | code (rd:Bool) (c:bx) (e:Env) (s:St)
  | ops (l:List bC) (e:Env) (s:St)
  | call (f:LV) (args:List LV) (s:St)
inductive kC where
  | code (o:Out) (e:Env) (s:St)
  | ops (e:Env) (s:St)
  | call (v:LV) (s:St)
abbrev dI:=List (Nat × List LV × LV)
def dI.look:dI->Nat->List LV->Option LV
 | [],_,_=>none
 | (b,c,r)::J,k,as=>if b == k && LV.beq.nw c as then some r else dI.look J k as
def dI.has:dI->Nat->Bool
 | [],_=>false
 | (b,_,_)::J,k=>b == k || dI.has J k
def dI.WB (J:dI) (k:Nat) (as:List LV) (s:St):Option (LV × St) :=
 if J.has k then
  match cY.cM (cY bp) as s with
  | some (b,s')=>(match J.look k b with | some r=>some (r,s') | none=>none)
  | none=>none
 else none
def Cm (f:kC->Option (List kC)):List kC->Option (List kC)
 | []=>some []
 | [r]=>f r
 | r::l=>
   match f r with
   | some a=>(match Cm f l with | some b=>some (a++b) | none=>none)
   | none=>none
def fV (x:Option (List kC)) (f:kC->Option (List kC)):Option (List kC) :=
 match x with
 | some l=>Cm f l
 | none=>none
def Ds (f:List bC->Option (List kC)):List (List bC)->Option (List kC)
 | []=>some []
 | l::ls=>
   match f l with
   | some a=>(match Ds f ls with | some b=>some (a++b) | none=>none)
   | none=>none
def PG (v:LV) (s:St):Option (List kC) :=
 match v with
 | .aO id 0=>
   match s.get id with
   | some (.iter none _ _ _)=>some [.call (.cE [.bool false]) s]
   | some (.iter (some m) d seen b) =>
     match s.get m with
     | some (.map c) =>
       if seen.isEmpty || Nat.blt 0 b then
        some ((((List.range c.length).filter (λi=>!seen.contains i)).map λi=>.call (.cE [.bool true,(c.getD i default).1,(c.getD i default).2]) (s.put id (.iter (some m) d (seen++[i]) c.length))) ++
         (if (List.range d).all (λi=>!Nat.blt i c.length || seen.contains i) then [.call (.cE [.bool false]) s] else []))
       else none
     | _=>none
   | _=>none
 | _=>none
def eqps (ow neg:Bool) (x y:LV) (s:St):Option (List kC) :=
 match x,y with
 | .aY cs o, .aY b c =>
   if (ow && (cs.any vH && b.any vH))=true then
    some (.call (.bool neg) s::(if agree.vL (cs.drop o) (b.drop c)=true then [.call (.bool (!neg)) s] else []))
   else none
 | .eS, .aY _ _=>some [.call (.bool neg) s]
 | .aY _ _, .eS=>some [.call (.bool neg) s]
 | .eS, .eS=>some [.call (.bool (!neg)) s]
 | _,_=>none
def R7 (n:Nat):kC->kC
 | .call v s=>if (v.old n && (s.cut n).h.zX (jU.old n))=true then .call v (s.cut n) else .call v s
 | r=>r
def Rp:List kC->LV->St->Bool
 | [],_,_=>false
 | .call v s::l,v',s'=>(v.og v' && s.og s') || Rp l v' s'
 | _::l,v',s'=>Rp l v' s'
def HO:List kC->List kC
 | []=>[]
 | .call v s::l=>if Rp (HO l) v s=true then HO l else .call v s::HO l
 | r::l=>r::HO l
def CL (n:Nat):List kC->List kC
 | []=>[]
 | [r]=>[r]
 | l=>HO (l.map (R7 n))
def PU (n:Nat):Option (List kC)->Option (List kC)
 | some l=>some (CL n l)
 | none=>none
theorem Ro:∀ {l:List kC}{v:LV}{s:St},Rp l v s=true->kC.call v s∈l:=by
 intro l;induction l with
 | nil=>intro v s h;cases h
 | cons r l ih=>
   intro v s h;cases r with
   | call v' s' =>
     simp only[Rp,Bool.or_eq_true,Bool.and_eq_true]at h;rcases h with⟨h1,h2⟩ | h
     ·rw[LV.gH _ _ h1,St.gH h2];exact .head _
     ·exact .tail _ (ih h)
   | _=>exact .tail _ (ih h)
theorem ES:∀ {l:List kC}{v:LV}{s:St},kC.call v s∈l->kC.call v s∈HO l:=by
 intro l;induction l with
 | nil=>intro v s h;cases h
 | cons r l ih=>
   intro v s h;cases r with
   | call v' s' =>
     simp only[HO];split
     ·rename_i c;rcases List.mem_cons.1 h with b | h
      ·cases b;exact Ro c
      ·exact ih h
     ·rcases List.mem_cons.1 h with b | h
      ·cases b;exact .head _
      ·exact .tail _ (ih h)
   | _=>
     rcases List.mem_cons.1 h with b | h
     ·cases b
     ·exact .tail _ (ih h)
theorem HR {n:Nat}{l:List kC}{v:LV}{s:St}(h:kC.call v s∈l):kC.call v s∈CL n l∨(v.old n=true/\(s.cut n).h.zX (jU.old n)=true/\kC.call v (s.cut n)∈CL n l):=by
 unfold CL;split
 ·cases h
 ·exact .inl h
 ·by_cases b:(v.old n && (s.cut n).h.zX (jU.old n))=true
  ·have hm:kC.call v (s.cut n)∈l.map (R7 n):=List.mem_map.2 ⟨_,h,by simp only[R7];rw[if_pos b]⟩;simp only[Bool.and_eq_true]at b;exact .inr ⟨b.1,b.2,ES hm⟩
  ·have hm:kC.call v s∈l.map (R7 n):=List.mem_map.2 ⟨_,h,by simp only[R7];rw[if_neg b]⟩;exact .inl (ES hm)
def ev (ow:Bool) (T:Nat->Option bh) (J:dI):Nat->Tk->Option (List kC)
 | 0,_=>none
 | n + 1, .code rd c e s =>
   match c with
   | .skip=>some [.code .normal e s]
   | .region l=>fV (ev ow T J n (.ops l e s)) λ| .ops e s=>some [.code .normal e s] | _=>none
   | .alts ls=>Ds (λl=>fV (ev ow T J n (.ops l e s)) λ| .ops e s=>some [.code .normal e s] | _=>none) ls
   | .seq a b=>
     fV (ev ow T J n (.code rd a e s)) fun
     | .code .normal e s=>ev ow T J n (.code rd b e s)
     | .code (.jmp j) e s=>some [.code (.jmp j) e s]
     | _=>none
   | .cond x a b=>match x.ev e with | .bool t=>ev ow T J n (.code rd (if t then a else b) e s) | _=>none
   | .block id a=>
     fV (ev ow T J n (.code rd a e s)) fun
     | .code (.jmp (.exit m)) e s=>if m=id then some [.code .normal e s] else some [.code (.jmp (.exit m)) e s]
     | .code o e s=>some [.code o e s]
     | _=>none
   | .loop a=>
     fV (ev ow T J n (.code rd a e s)) fun
     | .code .normal e s=>ev ow T J n (.code rd (.loop a) e s)
     | .code (.jmp j) e s=>some [.code (.jmp j) e s]
     | _=>none
   | .rangeFunc y ps as g=>
     if rd then none else
     fV (ev ow T J n (.call (y.ev e) [.rG s.n] (s.new (.loop .ready none e ps as g)))) fun
     | .call _ s' =>
       match s'.get s.n with
       | some (.loop .busy _ _ _ _ _)=>none
       | some (.loop _ none d ps as g)=>some [.code .normal e (s'.put s.n (.loop .exhausted none d ps as g))]
       | some (.loop _ (some j) d ps as g)=>some [.code (.jmp j) e (s'.put s.n (.loop .exhausted (some j) d ps as g))]
       | _=>none
     | _=>none
   | .exit id=>some [.code (.jmp (.exit id)) e s]
   | .scope a=>ev ow T J n (.code rd a e s)
   | .ret=>some [.code (.jmp .ret) e s]
   | .bad=>none
 | n + 1, .ops l e s =>
   match l with
   | []=>some [.ops e s]
   | o :: l =>
     match aK o.guard e with
     | none=>none
     | some false=>ev ow T J n (.ops l (e.put o.dst (.cE [])) s)
     | some true=>
       match o.op with
       | .call f as=>
         fV (ev ow T J n (.call (f.ev e) (as.map (·.ev e)) s)) fun
         | .call v s'=>if zL o.jT (e.put o.dst v) s' then ev ow T J n (.ops l (e.put o.dst v) s') else none
         | _=>none
       | .kN x=>
         fV (PG (x.ev e) s) fun
         | .call v s'=>if zL o.jT (e.put o.dst v) s' then ev ow T J n (.ops l (e.put o.dst v) s') else none
         | _=>none
       | .RX neg x y=>
         fV (eqps ow neg (x.ev e) (y.ev e) s) fun
         | .call v s'=>if zL o.jT (e.put o.dst v) s' then ev ow T J n (.ops l (e.put o.dst v) s') else none
         | _=>none
       | op=>
         match op.run e s with
         | some (v,s')=>if dP o.fl op e && zL o.jT (e.put o.dst v) s' then ev ow T J n (.ops l (e.put o.dst v) s') else none
         | none=>none
 | n + 1, .call f args s =>
   match f with
   | .fn (.func k) first caps=>
     match (match first,caps with | [],[]=>J.WB k args s | _,_=>none) with
     | some (r,s')=>some [.call r s']
     | none=>
     match T k with
     | some i=>
       if (first++args++caps).length<=i.ntmps then
        PU s.n (fV (ev ow T J n (.code false i.body (fm (first++args++caps)) s)) fun
        | .code .normal e s'=>(match aW i.results e s' with | some v=>some [.call v s'] | none=>none)
        | .code (.jmp .ret) e s'=>(match aW i.results e s' with | some v=>some [.call v s'] | none=>none)
        | _=>none)
       else none
     | none=>none
   | .rG id =>
     match s.get id with
     | some (.loop .ready _ d ps as g) =>
       if args.length=ps.length then
        fV (ev ow T J n (.code true as (vU ps args d) s)) fun
        | .code .normal p s1=>
          (match s1.get id with
          | some (.loop .ready q d ps u z) =>
            fV (ev ow T J n (.code true g p (s1.put id (.loop .busy q d ps u z)))) fun
            | .code .normal _ h=>
              (match h.get id with
              | some (.loop _ _ d ps as g)=>some [.call (.bool true) (h.put id (.loop .ready none d ps as g))]
              | _=>none)
            | .code (.jmp j) _ h=>
              (match h.get id with
              | some (.loop _ _ d ps as g)=>some [.call (.bool false) (h.put id (.loop .done (some j) d ps as g))]
              | _=>none)
            | _=>none
          | _=>none)
        | _=>none
       else none
     | _=>none
   | _=>none
theorem dI.yI:∀ {J:dI}{k:Nat}{as:List LV}{r:LV},J.look k as=some r->(k,as,r)∈J:=by
 intro J;induction J with
 | nil=>intro k as r h;cases h
 | cons p J ih=>
   obtain⟨c,d,r'⟩:=p;intro k as r h;simp only[dI.look]at h;split at h
   ·rename_i b;simp only[Bool.and_eq_true,beq_iff_eq]at b;cases h;rw[b.1,LV.iH _ _ b.2];exact .head _
   ·exact .tail _ (ih h)
theorem G7 {f:kC->Option (List kC)} : ∀ {l out:List kC},Cm f l=some out->∀ r∈l,∃ o,f r=some o/\∀ x∈o,x∈out:=by
 intro l;induction l with
 | nil=>intro out _ r c;cases c
 | cons r l ih=>
   intro out h r' c;cases l with
   | nil=>
     rcases List.mem_singleton.1 c with rfl
     exact⟨out,h,λx hx=>hx⟩
   | cons r2 l=>
     unfold Cm at h
     ·split at h
      ·rename_i a d;split at h
       ·rename_i b g;cases h;rcases List.mem_cons.1 c with rfl | c
        ·exact⟨a,d,λx hx=>List.mem_append_left _ hx⟩
        ·obtain⟨o,ho,hs⟩:=ih g r' c;exact⟨o,ho,λx hx=>List.mem_append_right _ (hs x hx)⟩
       ·cases h
      ·cases h
theorem dc {x:Option (List kC)}{f:kC->Option (List kC)}{out:List kC}(h:fV x f=some out):∃ l,x=some l/\∀ r∈l,∃ o,f r=some o/\∀ x∈o,x∈out:=by
 unfold fV at h;split at h
 ·exact⟨_,rfl,G7 h⟩
 ·cases h
theorem Jf {f:List bC->Option (List kC)} : ∀ {ls:List (List bC)}{out:List kC},Ds f ls=some out->∀ l∈ls,∃ o,f l=some o/\∀ x∈o,x∈out:=by
 intro ls;induction ls with
 | nil=>intro out _ l hl;cases hl
 | cons l ls ih=>
   intro out h d c;simp only[Ds]at h;split at h
   ·rename_i a g;split at h
    ·rename_i b i;cases h;rcases List.mem_cons.1 c with rfl | c
     ·exact⟨a,g,λx hx=>List.mem_append_left _ hx⟩
     ·obtain⟨o,ho,hs⟩:=ih i d c;exact⟨o,ho,λx hx=>List.mem_append_right _ (hs x hx)⟩
    ·cases h
   ·cases h
theorem PF {v:LV}{s:St}{l:List kC}(h:PG v s=some l) {R:LV->St->Prop}(d:∀ v s,kC.call v s∈l->R v s):jJ v s R:=by
 unfold PG at h;split at h
 ·rename_i id;simp only[jJ];split at h
  ·rename_i j seen b f;cases h;rw[f];exact d _ _ (.head _)
  ·rename_i m j seen b f;split at h
   ·rename_i c hm;split at h
    ·rename_i hs;cases h;rw[f];simp only[hm];refine⟨?_,λi g k=>d _ _ ?_,λn=>d _ _ ?_⟩
     ·simp only[Bool.or_eq_true,List.isEmpty_iff]at hs;rcases hs with h | h
      ·exact .inl h
      ·exact .inr (Nat.le_of_ble_eq_true h)
     ·refine List.mem_append_left _ (List.mem_map.2 ⟨i,List.mem_filter.2 ⟨List.mem_range.2 g,by simpa using k⟩,rfl⟩)
     ·have:(List.range j).all (λi=>!Nat.blt i c.length || seen.contains i)=true:=by
       rw[List.all_eq_true];intro i g;by_cases hl:i<c.length
       ·simp[n i (List.mem_range.1 g) hl]
       ·have:Nat.blt i c.length=false:=by
         cases o:Nat.blt i c.length with
         | false=>rfl
         | true=>exact absurd (Nat.le_of_ble_eq_true o) hl
        simp[this]
      rw[if_pos this];exact List.mem_append_right _ (.head _)
    ·cases h
   ·cases h
  ·cases h
 ·cases h
theorem VG {G:bP}{ow neg:Bool}{x y:LV}{s:St}{l:List kC}(h:eqps ow neg x y s=some l) (ho:ow=true->CF G=true) {R:LV->St->Prop}(b:∀ v s,kC.call v s∈l->R v s):pE G neg x y s R:=by
 unfold eqps at h;unfold pE;split at h
 ·split at h
  ·rename_i c;simp only[Bool.and_eq_true]at c;cases h;refine⟨ho c.1,c.2.1,c.2.2,b _ _ (.head _),λd=>b _ _ (.tail _ ?_)⟩;rw[if_pos d];exact .head _
  ·cases h
 ·cases h;exact b _ _ (.head _)
 ·cases h;exact b _ _ (.head _)
 ·cases h;exact b _ _ (.head _)
 ·cases h
section
variable {P:Program}{G:bP}{T:Nat->Option bh}{J:dI}{ow:Bool}
structure fT (P:Program) (G:bP) (T:Nat->Option bh) (J:dI):Prop where
  mixed:P.follows .mixedOrders=true
  fn : ∀ k lf, T k = some lf -> ∃ fn refs, P.funcs[k]? = some fn /\ (fn.name == "runtime.NumGoroutine") = false /\ aL P G refs fn = some lf
  wJ:∀ x∈G,LV.closed.au x.2=true
  pure:∀ x∈J,fu P G (.fn (.func x.1) [] []) x.2.1 x.2.2
def Nq (P:Program) (G:bP) (t:Tk) (l:List kC):Prop:=
 match t with
 | .code rd c e s=>∀ nt,aX P G rd nt c e s (λo e s=>.code o e s∈l)
 | .ops ops e s=>dL P G ops e s (λe s=>.ops e s∈l)
 | .call f args s=>aM P G f args s (λv s=>.call v s∈l)
theorem RU (I:fT P G T J) (U:ow=true->CF G=true):∀ (n:Nat) (t:Tk) (l:List kC),ev ow T J n t=some l->Nq P G t l:=by
 intro n;induction n using Nat.strongRecOn with
 | ind n ih=>
   intro t out h;cases n with
   | zero=>cases h
   | succ n=>
     have i:=ih n (Nat.lt_succ_self n);cases t with
     | code rd c e s=>
       cases c with
       | skip=>cases h;exact λnt=>Ka (.head _)
       | exit id=>cases h;exact λnt=>Ke (.head _)
       | ret=>cases h;exact λnt=>Pu (.head _)
       | bad=>cases h
       | region ops=>
         simp only[ev]at h;obtain⟨l,hl,hm⟩:=dc h;refine λnt=>Bv I.mixed (dL.mono (λK s1 d=>?_) (i _ _ hl));obtain⟨o,ho,hs⟩:=hm _ d;cases ho;exact hs _ (.head _)
       | alts ls=>
         simp only[ev]at h;refine λnt=>T5 I.mixed λl hl=>?_;obtain⟨F,fG,kU⟩:=Jf h l hl;obtain⟨V,oe,hm⟩:=dc fG;refine dL.mono (λK s1 d=>?_) (i _ _ oe);obtain⟨o,ho,hs⟩:=hm _ d;cases ho;exact kU _ (hs _ (.head _))
       | seq a b=>
         simp only[ev]at h;obtain⟨l,hl,hm⟩:=dc h;refine λnt=>Pr (aX.mono (i _ _ hl nt) λo K s1 d=>?_);obtain⟨q,ho,hs⟩:=hm _ d;cases o with
         | normal=>exact aX.mono (i _ _ ho nt) λo e s d=>hs _ d
         | jmp j=>cases ho;exact hs _ (.head _)
       | cond x a b=>
         simp only[ev]at h;split at h
         ·rename_i t ht;exact λnt=>CH ht (i _ _ h nt)
         ·cases h
       | block id a=>
         simp only[ev]at h;obtain⟨l,hl,hm⟩:=dc h;refine λnt=>EO (aX.mono (i _ _ hl nt) λo K s1 d=>?_);obtain⟨q,ho,hs⟩:=hm _ d;rcases o with _ | _ | kB
         ·cases ho;exact hs _ (.head _)
         ·cases ho;exact hs _ (.head _)
         ·simp only at ho;split at ho
          ·rename_i X;cases ho;simp only[Dz,X,if_true];exact hs _ (.head _)
          ·rename_i X;cases ho;simp only[Dz,X,if_false];exact hs _ (.head _)
       | scope a=>exact λnt=>EN (i _ _ (show ev ow T J n (.code rd a e s)=some out from h) nt)
       | loop a=>
         intro nt;refine vX (λm e s=>m<=n+1/\∃ o,ev ow T J m (.code rd (.loop a) e s)=some o/\∀ x∈o,x∈out) ?_ (n+1) ⟨Nat.le_refl _,out,h,λx hx=>hx⟩;rintro m e s ⟨hm,o,d,A⟩;cases m with
         | zero=>cases d
         | succ m=>
           simp only[ev]at d;obtain⟨l,hl,Ad⟩:=dc d;refine aX.mono (ih m om _ _ hl nt) λF e2 s2 h3=>?_;obtain⟨q,ho,hs⟩:=Ad _ h3;cases F with
           | normal=>exact⟨m,Nat.lt_succ_self m,by omega,q,ho,λx hx=>A x (hs x hx)⟩
           | jmp j=>cases ho;exact A _ (hs _ (.head _))
       | rangeFunc y ps as bo=>
         simp only[ev]at h;cases rd with
         | true=>simp at h
         | false=>
           simp only[Bool.false_eq_true,if_false]at h;obtain⟨l,hl,hm⟩:=dc h;refine λnt=>ug (aM.mono (i _ _ hl) λY s1 d=>?_);obtain⟨q,ho,hs⟩:=hm _ d;simp only at ho;split at ho
           ·cases ho
           ·rename_i st u C S Z dB L;cases ho;exact⟨st,none,u,C,S,Z,L,λhb=>dB hb,hs _ (.head _)⟩
           ·rename_i st j u C S Z dB L;cases ho;exact⟨st,some j,u,C,S,Z,L,λhb=>dB hb,hs _ (.head _)⟩
           ·cases ho
     | ops l e s =>
       cases l with
       | nil=>cases h;exact .head _
       | cons o l=>
         simp only[ev]at h;split at h
         ·cases h
         ·rename_i H;simp only[Nq,dL,H];exact i _ _ h
         ·rename_i H;split at h
          ·rename_i f as M;obtain⟨V,hl,hm⟩:=dc h;simp only[Nq,dL,H,M,pJ];refine aM.mono (i _ _ hl) λY s2 d=>?_;obtain⟨q,ho,hs⟩:=hm _ d;simp only at ho;split at ho
           ·rename_i z;exact⟨uS z,dL.mono (λe s d=>hs _ d) (i _ _ ho)⟩
           ·cases ho
          ·rename_i x M;obtain⟨V,hl,hm⟩:=dc h;simp only[Nq,dL,H,M,pJ];refine PF hl λY s2 d=>?_;obtain⟨q,ho,hs⟩:=hm _ d;simp only at ho;split at ho
           ·rename_i z;exact⟨uS z,dL.mono (λe s d=>hs _ d) (i _ _ ho)⟩
           ·cases ho
          ·rename_i neg x y M;obtain⟨V,hl,hm⟩:=dc h;simp only[Nq,dL,H,M,pJ];refine VG hl U λY s2 d=>?_;obtain⟨q,ho,hs⟩:=hm _ d;simp only at ho;split at ho
           ·rename_i z;exact⟨uS z,dL.mono (λe s d=>hs _ d) (i _ _ ho)⟩
           ·cases ho
          ·rename_i dB N O;have bV:jN o.op=false:=by
            cases hc:jN o.op with
            | false=>rfl
            | true=>
              rcases kj hc with⟨f,as,d⟩ | ⟨f,d⟩ | ⟨n,f,g,d⟩
              ·exact absurd d (dB f as)
              ·exact absurd d (N f)
              ·exact absurd d (O n f g)
           split at h
           ·rename_i v s1 p;split at h
            ·rename_i z;simp only[Bool.and_eq_true]at z;simp only[Nq,dL,H];rw[xq bV,p];exact⟨z.1,uS z.2,i _ _ h⟩
            ·cases h
           ·cases h
     | call f args s =>
       simp only[ev]at h;split at h
       ·rename_i k first caps
        split at h
        ·rename_i r s' p;cases h;split at p
         ·unfold dI.WB at p;split at p
          ·split at p
           ·rename_i S s2 BV;split at p
            ·rename_i r2 hlk;cases p;exact n9 BV (iD I.wJ (I.pure _ (dI.yI hlk)) (.head _))
            ·cases p
           ·cases p
          ·cases p
         ·cases p
        split at h
        ·rename_i lf hlf;obtain⟨fn,refs,hf,hn,hc⟩:=I.fn k lf hlf;split at h
         ·rename_i R;unfold PU at h;split at h
          case h_2=>cases h
          rename_i l0 Dc;cases h;refine Sf (Q:=λv s=>kC.call v s∈l0) ?_ (λv s' hq=>HR hq);obtain⟨l,hl,hm⟩:=dc Dc;refine bM hf hn hc R (aX.mono (i _ _ hl lf.ntmps) λF K s1 d=>?_);obtain⟨q,ho,hs⟩:=hm _ d;rcases F with _ | _ | kB
          ·simp only at ho;split at ho
           ·rename_i v hv;cases ho;exact⟨.inl rfl,v,hv,hs _ (.head _)⟩
           ·cases ho
          ·simp only at ho;split at ho
           ·rename_i v hv;cases ho;exact⟨.inr rfl,v,hv,hs _ (.head _)⟩
           ·cases ho
          ·cases ho
         ·cases h
        ·cases h
       ·rename_i id;split at h
        ·rename_i pend0 u ps as bo L;split at h
         ·rename_i hl;obtain⟨l,pe,hm⟩:=dc h;refine zP L hl λnt=>aX.mono (i _ _ pe nt) λF K s1 d=>?_;obtain⟨q,ho,hs⟩:=hm _ d;cases F with
          | jmp j=>cases ho
          | normal=>
            simp only at ho;split at ho
            ·rename_i EI VI ps1 as1 bo1 lI;obtain⟨l2,xE,NK⟩:=dc ho;refine⟨EI,VI,ps1,as1,bo1,lI,aX.mono (i _ _ xE nt) λo4 e4 s4 d=>?_⟩;obtain⟨o5,B,UL⟩:=NK _ d;cases o4 with
             | normal=>
               simp only at B;split at B
               ·rename_i st pd IT X8 D E wA;cases B;exact⟨st,pd,IT,X8,D,E,wA,hs _ (UL _ (.head _))⟩
               ·cases B
             | jmp j=>
               simp only at B;split at B
               ·rename_i st pd IT X8 D E wA;cases B;exact⟨st,pd,IT,X8,D,E,wA,hs _ (UL _ (.head _))⟩
               ·cases B
            ·cases ho
         ·cases h
        ·cases h
       ·cases h
def Dt (r:LV):List kC->Bool
 | []=>true
 | .call v s::l=>(match cY bp v s with | some (x,_)=>x.beq r && Dt r l | none=>false)
 | _::_=>false
theorem Jg {r:LV} : ∀ {l:List kC},Dt r l=true->∀ v s,kC.call v s∈l->∃ s',cY bp v s=some (r,s'):=by
 intro l;induction l with
 | nil=>intro _ v s h;cases h
 | cons x l ih=>
   intro h v s hm;cases x<;>simp only[Dt,Bool.false_eq_true]at h;split at h
   ·rename_i y s' b;simp only[Bool.and_eq_true]at h;rcases List.mem_cons.1 hm with c | hm
    ·cases c;exact⟨s',by rw[b,LV.beq_eq _ _ h.1]⟩
    ·exact ih h.2 v s hm
   ·cases h
def dn (T:Nat->Option bh) (J:dI) (n k:Nat) (args:List LV) (r:LV) (ow:Bool:=false):Bool:=
 LV.closed.au args && r.closed && (match ev ow T J n (.call (.fn (.func k) [] []) args St.empty) with | some l=>Dt r l | none=>false)
theorem bX (c:fT P G T J) {n k:Nat}{args:List LV}{r:LV}(h:dn T J n k args r ow=true) (b:ow=true->CF G=true:=by intro h;cases h):fu P G (.fn (.func k) [] []) args r:=by
 simp only[dn,Bool.and_eq_true]at h;obtain⟨⟨h1,h2⟩,h3⟩:=h;split at h3
 ·rename_i l hl;exact⟨rfl,h1,h2,aM.mono (RU c b _ _ _ hl) λv s d=>Jg h3 v s d⟩
 ·cases h3
def JC (P:Program) (G:bP) (refs:List (Nat × List Nat)) (k:Nat):Option bh:=
 match P.funcs[k]? with
 | some fn => if fn.name == "runtime.NumGoroutine" then none else aL P G ((refs.lookup k).getD []) fn
 | none=>none
theorem A9 {refs:List (Nat × List Nat)}(hm:P.follows .mixedOrders=true) (b:∀ x∈G,LV.closed.au x.2=true):fT P G (JC P G refs) []:=by
 refine⟨hm,λk f h=>?_,b,λx hx=>by cases hx⟩;unfold JC at h;split at h
 ·rename_i fn c;split at h
  ·cases h
  ·rename_i d;exact⟨fn,_,c,by simpa using d,h⟩
 ·cases h
theorem fT.cons (b:fT P G T J) {k:Nat}{args:List LV}{r:LV}(h:fu P G (.fn (.func k) [] []) args r):fT P G T ((k,args,r)::J) :=
 ⟨b.mixed,b.fn,b.wJ,λx hx=>by
  rcases List.mem_cons.1 hx with rfl | hx
  ·exact h
  ·exact b.pure x hx⟩
end
end Go.Pv
end
